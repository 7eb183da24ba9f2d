/- The program's functions do what the models say. -/
import Derived.Test.YtdihelfnjememaaDoorCR01
import Derived.Test.YtdihelfnjememaaDoorCM
set_option maxRecDepth 20000
set_option maxHeartbeats 4000000
set_option linter.unusedSimpArgs false
set_option linter.unusedVariables false
namespace Go.Proofs.YtdihelfnjememaaDoor
open Go Go.Abs Go.Mdl

theorem enters95 : entersB Tryd.prog 95 = true := by kernel_rfl

theorem rg_tree_formulaNodes (T : Tabs) (hT : T 0 = some (AV.agg (List.map (fun n => AV.sc (Value.int .i64 n)) tree_arities))) : ∀ (n : Nat), (∀ {H : Heap} {a0 : Fm} {r0 : Int} {r1 : Bool} (hm : tree_formulaNodes n a0 = some (r0, r1)), ACall Tryd.prog T 95 [Fm.av a0] H (AV.tuple [AV.sc (.int .i64 r0), AV.sc (.bool r1)]) H) := by
  intro n
  induction n with
  | zero =>
    skip
    all_goals
      intros
      rename_i hm
      cases hm
  | succ n ih =>
    intro H a0 r0 r1 hm
    rw [tree_formulaNodes] at hm
    refine ACallP.intro (fn := Tryd.f95) Tryd.func95 rfl enters95 (Nat.le_of_ble_eq_true rfl) ?_
    refine AWp.sr [] fun K1 hk2 => ?_
    simp [hT]
    apply hk2
    refine AWp.seqK fun K3 hk4 => ?_
    refine AWp.sr [] fun K5 hk6 => ?_
    obtain ⟨x7, hx8, hm9⟩ := bind1_some hm
    clear hm
    try dsimp only at hm9
    simp [hT]
    refine CallAt.fn (r_tree_formed T hx8) ?_
    simp [hT]
    apply hk6
    refine AWp.condK fun A10 B11 ga12 gb13 => ?_
    rcases ite_some hm9 with ⟨hc14, hm15⟩ | ⟨hc14, hm16⟩
    rotate_left
    · clear hm9
      simp [hT, hc14]
      apply ga12
      refine AWp.sr [] fun K17 hk18 => ?_
      simp [hT, hc14]
      apply hk18
      refine AWp.ret ?_
      simp only [Option.some.injEq, Prod.mk.injEq] at hm16
      obtain ⟨rfl, rfl⟩ := hm16
      simp [retQ, hT, hc14]
    clear hm9
    simp [hT, hc14]
    apply gb13
    refine AWp.skip ?_
    apply hk4
    refine AWp.sr [] fun K19 hk20 => ?_
    simp [hT, hc14]
    apply hk20
    refine AWp.seqK fun K21 hk22 => ?_
    refine AWp.sr [] fun K23 hk24 => ?_
    simp [hT, hc14]
    apply hk24
    obtain ⟨hok25, hm26⟩ := chk_some hm15
    clear hm15
    obtain ⟨F27, hF28, hm29⟩ := joinB_some hm26
    clear hm26
    try dsimp only at hm29
    obtain ⟨out30, hl31, hmB32⟩ := bind1_some hm29
    clear hm29
    refine AWp.blockK fun Q33 nn34 ne35 nx36 nr37 => ?_
    refine AWp.loopF (fun n38 fr h => ∃ (i39 : Nat) (j40 : Int) (v41 : Int) (g1_42 : Nat), H = h ∧ (fr.env 1 = AV.lptr 1 g1_42 0 ∧ fr.env 4 = AV.sc (.int .i64 v41) ∧ fr.env 17 = AV.slice .frz (List.map Tm.av a0.terms) ∧ fr.env 18 = AV.sc (.int .i64 (llen a0.terms)) ∧ fr.env 19 = AV.sc (.int .i64 j40) ∧ fr.gen 1 = g1_42 ∧ fr.box 1 = some [AV.sc (.int .i64 a0.kind), AV.sc (.int .i64 a0.typeF.kind), AV.slice .frz (List.map Ty.av a0.typeF.args), AV.slice .frz (List.map Tm.av a0.terms), AV.slice .frz (List.map Fm.av a0.args)]) ∧ j40 = (i39 : Int) ∧ i39 + n38 = List.length a0.terms ∧ forR F27 (List.drop i39 a0.terms) i39 v41 = some out30) (List.length a0.terms) ?_ ?_
    · refine ⟨0, 0, 1, 1, ?_, ⟨?_, ?_, ?_, ?_, ?_, ?_, ?_⟩, rfl, (by simp), hl31⟩ <;> first | rfl | simp [hT, hc14]
    rintro n38 fr42 h42 ⟨i39, j40, v41, g1_42, rfl, E42, hj43, hi44, hl31⟩ K45 hK46
    rcases n38 with _ | n38
    rotate_left
    · have hlt47 := ilt_ofJ (l := a0.terms) hj43 (by omega)
      obtain ⟨x48, hdn38, hg49⟩ := drop_ltJ (l := a0.terms) hj43 (by omega)
      rw [hdn38, forR_cons] at hl31
      obtain ⟨c50, hb51, hk52⟩ := bind1_some hl31
      clear hl31
      rw [hF28, ← hj43] at hb51
      try dsimp only at hb51
      refine AWp.sr [] fun K53 hk54 => ?_
      simp [E42, hT, hlt47, hg49, hc14]
      apply hk54
      refine AWp.seqK fun K55 hk56 => ?_
      refine AWp.condK fun A57 B58 ga59 gb60 => ?_
      simp [E42, hT, hlt47, hg49, hc14]
      apply ga59
      refine AWp.skip ?_
      apply hk56
      refine AWp.seqK fun K61 hk62 => ?_
      refine AWp.blockK fun Q63 nn64 ne65 nx66 nr67 => ?_
      refine AWp.sr [] fun K68 hk69 => ?_
      simp [E42, hT, hlt47, hg49, hc14]
      apply hk69
      refine AWp.sr [] fun K70 hk71 => ?_
      obtain ⟨x72, x73, hx74, hm75⟩ := bind2_some hb51
      clear hb51
      try dsimp only at hm75
      simp [E42, hT, hlt47, hg49, hc14]
      refine CallAt.fn (r_tree_termNodes T hT hx74) ?_
      simp [E42, hT, hlt47, hg49, hc14]
      apply hk71
      refine AWp.seqK fun K76 hk77 => ?_
      refine AWp.sr [] fun K78 hk79 => ?_
      simp [E42, hT, hlt47, hg49, hc14]
      apply hk79
      refine AWp.condK fun A80 B81 ga82 gb83 => ?_
      rcases ite_some hm75 with ⟨hc84, hm85⟩ | ⟨hc84, hm86⟩
      rotate_left
      · clear hm75
        simp [E42, hT, hlt47, hg49, hc14, hc84]
        apply ga82
        refine AWp.sr [] fun K87 hk88 => ?_
        simp [E42, hT, hlt47, hg49, hc14, hc84]
        apply hk88
        refine AWp.ret ?_
        apply nr67
        apply nr37
        obtain rfl := Option.some.inj hm86
        rw [ctlK_ret] at hk52
        obtain rfl := Option.some.inj hk52
        rw [sumK_inr] at hmB32
        try dsimp only at hmB32
        simp only [Option.some.injEq, Prod.mk.injEq] at hmB32
        obtain ⟨rfl, rfl⟩ := hmB32
        simp [retQ, E42, hT, hlt47, hg49, hc14, hc84]
      clear hm75
      simp [E42, hT, hlt47, hg49, hc14, hc84]
      apply gb83
      refine AWp.skip ?_
      apply hk77
      refine AWp.region [] (by decide +kernel) ?_
      simp [E42, hT, hlt47, hg49, hc14, hc84]
      apply nn64
      apply hk62
      refine AWp.region [] (by decide +kernel) ?_
      simp [E42, hT, hlt47, hg49, hc14, hc84]
      obtain rfl := Option.some.inj hm85
      rw [ctlK_next] at hk52
      refine hK46 _ _ n38 (Nat.lt_succ_self _) ⟨(i39 + 1), (iadd .i64 j40 1), (iadd .i64 v41 x72), g1_42, ?_, ⟨?_, ?_, ?_, ?_, ?_, ?_, ?_⟩, (iadd_idxJ hj43 (by omega) hok25), (by omega), hk52⟩ <;> first | rfl | simp [E42, hT, hlt47, hg49, hc14, hc84]
    have hlt47 := ilt_notJ (l := a0.terms) hj43 (by omega)
    refine AWp.sr [] fun K89 hk90 => ?_
    simp [E42, hT, hlt47, hc14]
    apply hk90
    refine AWp.seqK fun K91 hk92 => ?_
    refine AWp.condK fun A93 B94 ga95 gb96 => ?_
    simp [E42, hT, hlt47, hc14]
    apply gb96
    refine AWp.exit ?_
    apply ne35
    rw [List.drop_eq_nil_of_le (by omega), forR_nil] at hl31
    obtain rfl := Option.some.inj hl31
    rw [sumK_inl] at hmB32
    try dsimp only at hmB32
    apply hk22
    refine AWp.seqK fun K97 hk98 => ?_
    refine AWp.sr [] fun K99 hk100 => ?_
    simp [E42, hT, hlt47, hc14]
    apply hk100
    obtain ⟨hok101, hm102⟩ := chk_some hmB32
    clear hmB32
    obtain ⟨F103, hF104, hm105⟩ := joinB_some hm102
    clear hm102
    try dsimp only at hm105
    obtain ⟨out106, hl107, hmB108⟩ := bind1_some hm105
    clear hm105
    refine AWp.blockK fun Q109 nn110 ne111 nx112 nr113 => ?_
    refine AWp.loopF (fun n114 fr h => ∃ (i115 : Nat) (j116 : Int) (v117 : Int), H = h ∧ (fr.env 4 = AV.sc (.int .i64 v117) ∧ fr.env 35 = AV.slice .frz (List.map Fm.av a0.args) ∧ fr.env 36 = AV.sc (.int .i64 (llen a0.args)) ∧ fr.env 37 = AV.sc (.int .i64 j116)) ∧ j116 = (i115 : Int) ∧ i115 + n114 = List.length a0.args ∧ forR F103 (List.drop i115 a0.args) i115 v117 = some out106) (List.length a0.args) ?_ ?_
    · refine ⟨0, 0, v41, ?_, ⟨?_, ?_, ?_, ?_⟩, rfl, (by simp), hl107⟩ <;> first | rfl | simp [E42, hT, hlt47, hc14]
    rintro n114 fr118 h118 ⟨i115, j116, v117, rfl, E118, hj119, hi120, hl107⟩ K121 hK122
    rcases n114 with _ | n114
    · have hlt123 := ilt_notJ (l := a0.args) hj119 (by omega)
      refine AWp.sr [] fun K124 hk125 => ?_
      simp [E118, hT, hlt47, hlt123, hc14]
      apply hk125
      refine AWp.seqK fun K126 hk127 => ?_
      refine AWp.condK fun A128 B129 ga130 gb131 => ?_
      simp [E118, hT, hlt47, hlt123, hc14]
      apply gb131
      refine AWp.exit ?_
      apply ne111
      rw [List.drop_eq_nil_of_le (by omega), forR_nil] at hl107
      obtain rfl := Option.some.inj hl107
      rw [sumK_inl] at hmB108
      try dsimp only at hmB108
      apply hk98
      refine AWp.sr [] fun K132 hk133 => ?_
      simp [E118, hT, hlt47, hlt123, hc14]
      apply hk133
      refine AWp.ret ?_
      simp only [Option.some.injEq, Prod.mk.injEq] at hmB108
      obtain ⟨rfl, rfl⟩ := hmB108
      simp [retQ, E118, hT, hlt47, hlt123, hc14]
    have hlt123 := ilt_ofJ (l := a0.args) hj119 (by omega)
    obtain ⟨x134, hdn114, hg135⟩ := drop_ltJ (l := a0.args) hj119 (by omega)
    rw [hdn114, forR_cons] at hl107
    obtain ⟨c136, hb137, hk138⟩ := bind1_some hl107
    clear hl107
    rw [hF104, ← hj119] at hb137
    try dsimp only at hb137
    refine AWp.sr [] fun K139 hk140 => ?_
    simp [E118, hT, hlt47, hlt123, hg135, hc14]
    apply hk140
    refine AWp.seqK fun K141 hk142 => ?_
    refine AWp.condK fun A143 B144 ga145 gb146 => ?_
    simp [E118, hT, hlt47, hlt123, hg135, hc14]
    apply ga145
    refine AWp.skip ?_
    apply hk142
    refine AWp.seqK fun K147 hk148 => ?_
    refine AWp.blockK fun Q149 nn150 ne151 nx152 nr153 => ?_
    refine AWp.sr [] fun K154 hk155 => ?_
    simp [E118, hT, hlt47, hlt123, hg135, hc14]
    apply hk155
    refine AWp.sr [] fun K156 hk157 => ?_
    obtain ⟨x158, x159, hx160, hm161⟩ := bind2_some hb137
    clear hb137
    try dsimp only at hm161
    simp [E118, hT, hlt47, hlt123, hg135, hc14]
    refine CallAt.fn (ih hx160) ?_
    simp [E118, hT, hlt47, hlt123, hg135, hc14]
    apply hk157
    refine AWp.seqK fun K162 hk163 => ?_
    refine AWp.sr [] fun K164 hk165 => ?_
    simp [E118, hT, hlt47, hlt123, hg135, hc14]
    apply hk165
    refine AWp.condK fun A166 B167 ga168 gb169 => ?_
    rcases ite_some hm161 with ⟨hc170, hm171⟩ | ⟨hc170, hm172⟩
    rotate_left
    · clear hm161
      simp [E118, hT, hlt47, hlt123, hg135, hc14, hc170]
      apply ga168
      refine AWp.sr [] fun K173 hk174 => ?_
      simp [E118, hT, hlt47, hlt123, hg135, hc14, hc170]
      apply hk174
      refine AWp.ret ?_
      apply nr153
      apply nr113
      obtain rfl := Option.some.inj hm172
      rw [ctlK_ret] at hk138
      obtain rfl := Option.some.inj hk138
      rw [sumK_inr] at hmB108
      try dsimp only at hmB108
      simp only [Option.some.injEq, Prod.mk.injEq] at hmB108
      obtain ⟨rfl, rfl⟩ := hmB108
      simp [retQ, E118, hT, hlt47, hlt123, hg135, hc14, hc170]
    clear hm161
    simp [E118, hT, hlt47, hlt123, hg135, hc14, hc170]
    apply gb169
    refine AWp.skip ?_
    apply hk163
    refine AWp.region [] (by decide +kernel) ?_
    simp [E118, hT, hlt47, hlt123, hg135, hc14, hc170]
    apply nn150
    apply hk148
    refine AWp.region [] (by decide +kernel) ?_
    simp [E118, hT, hlt47, hlt123, hg135, hc14, hc170]
    obtain rfl := Option.some.inj hm171
    rw [ctlK_next] at hk138
    refine hK122 _ _ n114 (Nat.lt_succ_self _) ⟨(i115 + 1), (iadd .i64 j116 1), (iadd .i64 v117 x158), ?_, ⟨?_, ?_, ?_, ?_⟩, (iadd_idxJ hj119 (by omega) hok101), (by omega), hk138⟩ <;> first | rfl | simp [E118, hT, hlt47, hlt123, hg135, hc14, hc170]
theorem r_tree_formulaNodes (T : Tabs) (hT : T 0 = some (AV.agg (List.map (fun n => AV.sc (Value.int .i64 n)) tree_arities))) {H : Heap} {a0 : Fm} {r0 : Int} {r1 : Bool} {n : Nat} (hm : tree_formulaNodes n a0 = some (r0, r1)) : ACall Tryd.prog T 95 [Fm.av a0] H (AV.tuple [AV.sc (.int .i64 r0), AV.sc (.bool r1)]) H := (rg_tree_formulaNodes T hT n) hm

theorem enters79 : entersB Tryd.prog 79 = true := by kernel_rfl

theorem r_tree_CheckFormula (T : Tabs) (hT : T 0 = some (AV.agg (List.map (fun n => AV.sc (Value.int .i64 n)) tree_arities))) {H : Heap} {a0 : Fm} {r0 : Int} {r1 : Int} (hm : tree_CheckFormula a0 = some (r0, r1)) : ACall Tryd.prog T 79 [Fm.av a0] H (AV.tuple [AV.sc (.int .i64 r0), AV.sc (.int .i64 r1)]) H := by
  rw [tree_CheckFormula] at hm
  refine ACallP.intro (fn := Tryd.f79) Tryd.func79 rfl enters79 (Nat.le_of_ble_eq_true rfl) ?_
  refine AWp.sr [] fun K1 hk2 => ?_
  simp [hT]
  apply hk2
  refine AWp.sr [] fun K3 hk4 => ?_
  obtain ⟨x5, x6, hx7, hm8⟩ := bind2_some hm
  clear hm
  try dsimp only at hm8
  simp [hT]
  refine CallAt.fn (r_tree_formulaNodes T hT hx7) ?_
  simp [hT]
  apply hk4
  refine AWp.seqK fun K9 hk10 => ?_
  refine AWp.blockK fun Q11 nn12 ne13 nx14 nr15 => ?_
  refine AWp.sr [] fun K16 hk17 => ?_
  simp [hT]
  apply hk17
  refine AWp.condK fun A18 B19 ga20 gb21 => ?_
  rcases ite_some hm8 with ⟨hc22, hm23⟩ | ⟨hc22, hm24⟩
  rotate_left
  · clear hm8
    simp [hT, hc22]
    apply ga20
    refine AWp.sr [] fun K25 hk26 => ?_
    simp [hT, hc22]
    apply hk26
    refine AWp.ret ?_
    apply nr15
    simp only [Option.some.injEq, Prod.mk.injEq] at hm24
    obtain ⟨rfl, rfl⟩ := hm24
    simp [retQ, hT, hc22]
  clear hm8
  simp [hT, hc22]
  apply gb21
  refine AWp.sr [] fun K27 hk28 => ?_
  simp [hT, hc22]
  apply hk28
  refine AWp.condK fun A29 B30 ga31 gb32 => ?_
  rcases ite_some hm23 with ⟨hc33, hm34⟩ | ⟨hc33, hm35⟩
  · clear hm23
    simp [hT, hc22, hc33]
    apply ga31
    refine AWp.sr [] fun K36 hk37 => ?_
    simp [hT, hc22, hc33]
    apply hk37
    refine AWp.ret ?_
    apply nr15
    simp only [Option.some.injEq, Prod.mk.injEq] at hm34
    obtain ⟨rfl, rfl⟩ := hm34
    simp [retQ, hT, hc22, hc33]
  clear hm23
  simp [hT, hc22, hc33]
  apply gb32
  refine AWp.skip ?_
  apply nn12
  apply hk10
  refine AWp.sr [] fun K38 hk39 => ?_
  simp [hT, hc22, hc33]
  apply hk39
  refine AWp.ret ?_
  simp only [Option.some.injEq, Prod.mk.injEq] at hm35
  obtain ⟨rfl, rfl⟩ := hm35
  simp [retQ, hT, hc22, hc33]

theorem enters44 : entersB Tryd.prog 44 = true := by kernel_rfl

theorem r_formula_Check (T : Tabs) (hT : T 0 = some (AV.agg (List.map (fun n => AV.sc (Value.int .i64 n)) tree_arities))) {H : Heap} {a0 : Fm} {r0 : Int} (hm : formula_Check a0 = some r0) : ACall Tryd.prog T 44 [Fm.av a0] H (AV.sc (.int .i64 r0)) H := by
  rw [formula_Check] at hm
  refine ACallP.intro (fn := Tryd.f44) Tryd.func44 rfl enters44 (Nat.le_of_ble_eq_true rfl) ?_
  refine AWp.sr [] fun K1 hk2 => ?_
  simp [hT]
  apply hk2
  refine AWp.sr [] fun K3 hk4 => ?_
  obtain ⟨x5, x6, hx7, hm8⟩ := bind2_some hm
  clear hm
  try dsimp only at hm8
  simp [hT]
  refine CallAt.fn (r_tree_CheckFormula T hT hx7) ?_
  simp [hT]
  apply hk4
  refine AWp.sr [] fun K9 hk10 => ?_
  simp [hT]
  apply hk10
  refine AWp.ret ?_
  obtain rfl := Option.some.inj hm8
  simp [retQ, hT]

theorem enters96 : entersB Tryd.prog 96 = true := by kernel_rfl

theorem r_types_Check (T : Tabs) {H : Heap} {a0 : Ty} {r0 : Int} (hm : types_Check a0 = some r0) : ACall Tryd.prog T 96 [Ty.av a0] H (AV.sc (.int .i64 r0)) H := by
  rw [types_Check] at hm
  refine ACallP.intro (fn := Tryd.f96) Tryd.func96 rfl enters96 (Nat.le_of_ble_eq_true rfl) ?_
  refine AWp.sr [] fun K1 hk2 => ?_
  simp
  apply hk2
  refine AWp.sr [] fun K3 hk4 => ?_
  obtain ⟨x5, x6, hx7, hm8⟩ := bind2_some hm
  clear hm
  try dsimp only at hm8
  simp
  refine CallAt.fn (r_tree_CheckType T hx7) ?_
  simp
  apply hk4
  refine AWp.sr [] fun K9 hk10 => ?_
  simp
  apply hk10
  refine AWp.ret ?_
  obtain rfl := Option.some.inj hm8
  simp [retQ]

theorem enters80 : entersB Tryd.prog 80 = true := by kernel_rfl

theorem r_content_join (T : Tabs) {H : Heap} {a0 : Int} {a1 : Ty} {a2 : Ty} {r0 : Ty} {r1 : Bool} {r2 : Int} (hm : content_join a0 a1 a2 = some (r0, r1, r2)) : ACall Tryd.prog T 80 [AV.sc (.int .i64 a0), Ty.av a1, Ty.av a2] H (AV.tuple [Ty.av r0, AV.sc (.bool r1), AV.sc (.int .i64 r2)]) H := by
  rw [content_join] at hm
  refine ACallP.intro (fn := Tryd.f80) Tryd.func80 rfl enters80 (Nat.le_of_ble_eq_true rfl) ?_
  refine AWp.sr [] fun K1 hk2 => ?_
  simp
  apply hk2
  refine AWp.sr [] fun K3 hk4 => ?_
  simp
  apply hk4
  refine AWp.seqK fun K5 hk6 => ?_
  refine AWp.sr [] fun K7 hk8 => ?_
  have hf9 : AV.agg [AV.sc (.int .i64 a0), AV.slice .frz [Ty.av a1, Ty.av a2]] = Ty.av (Ty.mk a0 [a1, a2]) := by rw [Ty.av_mk]; rfl
  have hf10 : AV.agg [AV.sc (.int .i64 a0), AV.slice .frz [Ty.av a1, Ty.av a2]] = Ty.av (Ty.mk a0 [a1, a2]) := by rw [Ty.av_mk]; rfl
  obtain ⟨x11, hx12, hm13⟩ := bind1_some hm
  clear hm
  try dsimp only at hm13
  simp [hf9, hf10]
  refine CallAt.fn (r_types_Check T hx12) ?_
  simp [hf9, hf10]
  apply hk8
  refine AWp.sr [] fun K14 hk15 => ?_
  simp [hf9, hf10]
  apply hk15
  refine AWp.condK fun A16 B17 ga18 gb19 => ?_
  rcases ite_some hm13 with ⟨hc20, hm21⟩ | ⟨hc20, hm22⟩
  · clear hm13
    simp [hf9, hf10, hc20]
    apply ga18
    refine AWp.sr [] fun K23 hk24 => ?_
    simp [hf9, hf10, hc20]
    apply hk24
    refine AWp.ret ?_
    simp only [Option.some.injEq, Prod.mk.injEq] at hm21
    obtain ⟨rfl, rfl, rfl⟩ := hm21
    simp [retQ, hf9, hf10, hc20]
  clear hm13
  simp [hf9, hf10, hc20]
  apply gb19
  refine AWp.skip ?_
  apply hk6
  refine AWp.sr [] fun K25 hk26 => ?_
  have hf27 : AV.agg [AV.sc (.int .i64 a0), AV.slice .frz [Ty.av a1, Ty.av a2]] = Ty.av (Ty.mk a0 [a1, a2]) := by rw [Ty.av_mk]; rfl
  simp [hf9, hf10, hf27, hc20]
  apply hk26
  refine AWp.ret ?_
  have hf28 : AV.agg [AV.sc (.int .i64 a0), AV.slice .frz [Ty.av a1, Ty.av a2]] = Ty.av (Ty.mk a0 [a1, a2]) := by rw [Ty.av_mk]; rfl
  have hf29 : AV.agg [AV.sc (.int .i64 a0), AV.slice .frz [Ty.av a1, Ty.av a2]] = Ty.av (Ty.mk a0 [a1, a2]) := by rw [Ty.av_mk]; rfl
  simp only [Option.some.injEq, Prod.mk.injEq] at hm22
  obtain ⟨rfl, rfl, rfl⟩ := hm22
  simp [retQ, hf9, hf10, hf27, hf28, hf29, hc20]

theorem enters45 : entersB Tryd.prog 45 = true := by kernel_rfl

theorem rg_content_of (T : Tabs) : ∀ (n : Nat), (∀ {H : Heap} {a0 : Fm} {r0 : Ty} {r1 : Bool} {r2 : Int} (hm : content_of n a0 = some (r0, r1, r2)), ACall Tryd.prog T 45 [Fm.av a0] H (AV.tuple [Ty.av r0, AV.sc (.bool r1), AV.sc (.int .i64 r2)]) H) := by
  intro n
  induction n with
  | zero =>
    skip
    all_goals
      intros
      rename_i hm
      cases hm
  | succ n ih =>
    intro H a0 r0 r1 r2 hm
    rw [content_of] at hm
    refine ACallP.intro (fn := Tryd.f45) Tryd.func45 rfl enters45 (Nat.le_of_ble_eq_true rfl) ?_
    refine AWp.sr [] fun K1 hk2 => ?_
    simp
    apply hk2
    refine AWp.seqK fun K3 hk4 => ?_
    refine AWp.sr [] fun K5 hk6 => ?_
    simp
    apply hk6
    refine AWp.condK fun A7 B8 ga9 gb10 => ?_
    rcases ite_some hm with ⟨hc11, hm12⟩ | ⟨hc11, hm13⟩
    · clear hm
      simp [hc11]
      apply ga9
      refine AWp.sr [] fun K14 hk15 => ?_
      simp [hc11]
      apply hk15
      refine AWp.ret ?_
      simp only [Option.some.injEq, Prod.mk.injEq] at hm12
      obtain ⟨rfl, rfl, rfl⟩ := hm12
      simp [retQ, hc11]
    clear hm
    simp [hc11]
    apply gb10
    refine AWp.skip ?_
    apply hk4
    refine AWp.sr [] fun K16 hk17 => ?_
    obtain ⟨x18, hx19, hm20⟩ := bind1_some hm13
    clear hm13
    try dsimp only at hm20
    obtain ⟨x21, x22, x23, hx24, hm25⟩ := bind3_some hm20
    clear hm20
    try dsimp only at hm25
    simp [hx19, hc11]
    refine CallAt.fn (ih hx24) ?_
    simp [hx19, hc11]
    apply hk17
    refine AWp.seqK fun K26 hk27 => ?_
    refine AWp.sr [] fun K28 hk29 => ?_
    simp [hx19, hc11]
    apply hk29
    refine AWp.condK fun A30 B31 ga32 gb33 => ?_
    rcases ite_some hm25 with ⟨hc34, hm35⟩ | ⟨hc34, hm36⟩
    · clear hm25
      simp [hx19, hc11, hc34]
      apply ga32
      refine AWp.sr [] fun K37 hk38 => ?_
      simp [hx19, hc11, hc34]
      apply hk38
      refine AWp.ret ?_
      simp only [Option.some.injEq, Prod.mk.injEq] at hm35
      obtain ⟨rfl, rfl, rfl⟩ := hm35
      simp [retQ, hx19, hc11, hc34]
    clear hm25
    simp [hx19, hc11, hc34]
    apply gb33
    refine AWp.skip ?_
    apply hk27
    refine AWp.seqK fun K39 hk40 => ?_
    refine AWp.sr [] fun K41 hk42 => ?_
    simp [hx19, hc11, hc34]
    apply hk42
    refine AWp.blockK fun Q43 nn44 ne45 nx46 nr47 => ?_
    refine AWp.sr [] fun K48 hk49 => ?_
    simp [hx19, hc11, hc34]
    apply hk49
    refine AWp.condK fun A50 B51 ga52 gb53 => ?_
    rcases ite_some hm36 with ⟨hc54, hm55⟩ | ⟨hc54, hm56⟩
    · clear hm36
      simp [hx19, hc11, hc34, hc54]
      apply ga52
      refine AWp.sr [] fun K57 hk58 => ?_
      obtain ⟨x59, hx60, hm61⟩ := bind1_some hm55
      clear hm55
      try dsimp only at hm61
      obtain ⟨x62, x63, x64, hx65, hm66⟩ := bind3_some hm61
      clear hm61
      try dsimp only at hm66
      simp [hx19, hx60, hc11, hc34, hc54]
      refine CallAt.fn (ih hx65) ?_
      simp [hx19, hx60, hc11, hc34, hc54]
      apply hk58
      refine AWp.seqK fun K67 hk68 => ?_
      refine AWp.seqP (fun fr h => ∃ (g2_72 : Nat) (g5_72 : Nat) (g8_72 : Nat), H = h ∧ (fr.env 2 = AV.lptr 2 g2_72 0 ∧ fr.env 5 = AV.lptr 5 g5_72 0 ∧ fr.env 6 = AV.sc (.bool x22) ∧ fr.env 8 = AV.lptr 8 g8_72 0 ∧ fr.env 10 = AV.sc (.int .i64 x64) ∧ fr.env 53 = AV.sc (.bool (sel (ine x64 0) true (bnot x63))) ∧ fr.gen 2 = g2_72 ∧ fr.box 2 = some [AV.sc (.int .i64 0), AV.slice .full []] ∧ fr.gen 5 = g5_72 ∧ fr.box 5 = some [AV.sc (.int .i64 x21.kind), AV.slice .frz (List.map Ty.av x21.args)] ∧ fr.gen 8 = g8_72 ∧ fr.box 8 = some [AV.sc (.int .i64 x62.kind), AV.slice .frz (List.map Ty.av x62.args)])) (fun K69 hk70 => ?_) ?_
      · refine AWp.region [] (by decide +kernel) ?_
        rcases Bool.eq_false_or_eq_true (ine x64 0) with hc71 | hc71
        · simp [hx19, hx60, hc11, hc34, hc54, hc71]
          refine hk70 _ _ ⟨1, 1, 1, ?_, ⟨?_, ?_, ?_, ?_, ?_, ?_, ?_, ?_, ?_, ?_, ?_, ?_⟩⟩ <;> first | rfl | simp [hx19, hx60, hc11, hc34, hc54, hc71]
        simp [hx19, hx60, hc11, hc34, hc54, hc71]
        refine hk70 _ _ ⟨1, 1, 1, ?_, ⟨?_, ?_, ?_, ?_, ?_, ?_, ?_, ?_, ?_, ?_, ?_, ?_⟩⟩ <;> first | rfl | simp [hx19, hx60, hc11, hc34, hc54, hc71]
      rintro fr72 h72 ⟨g2_72, g5_72, g8_72, rfl, E72⟩
      refine AWp.condK fun A73 B74 ga75 gb76 => ?_
      rcases ite_some hm66 with ⟨hc77, hm78⟩ | ⟨hc77, hm79⟩
      · clear hm66
        simp [E72, hx19, hx60, hc11, hc34, hc54, hc77]
        apply ga75
        refine AWp.sr [] fun K80 hk81 => ?_
        simp [E72, hx19, hx60, hc11, hc34, hc54, hc77]
        apply hk81
        refine AWp.ret ?_
        apply nr47
        simp only [Option.some.injEq, Prod.mk.injEq] at hm78
        obtain ⟨rfl, rfl, rfl⟩ := hm78
        simp [retQ, E72, hx19, hx60, hc11, hc34, hc54, hc77]
      clear hm66
      simp [E72, hx19, hx60, hc11, hc34, hc54, hc77]
      apply gb76
      refine AWp.skip ?_
      apply hk68
      refine AWp.seqK fun K82 hk83 => ?_
      refine AWp.sr [] fun K84 hk85 => ?_
      simp [E72, hx19, hx60, hc11, hc34, hc54, hc77]
      apply hk85
      refine AWp.condK fun A86 B87 ga88 gb89 => ?_
      rcases ite_some hm79 with ⟨hc90, hm91⟩ | ⟨hc90, hm92⟩
      rotate_left
      · clear hm79
        simp [E72, hx19, hx60, hc11, hc34, hc54, hc77, hc90]
        apply ga88
        refine AWp.sr [] fun K93 hk94 => ?_
        simp [E72, hx19, hx60, hc11, hc34, hc54, hc77, hc90]
        apply hk94
        refine AWp.ret ?_
        apply nr47
        simp only [Option.some.injEq, Prod.mk.injEq] at hm92
        obtain ⟨rfl, rfl, rfl⟩ := hm92
        simp [retQ, E72, hx19, hx60, hc11, hc34, hc54, hc77, hc90]
      clear hm79
      simp [E72, hx19, hx60, hc11, hc34, hc54, hc77, hc90]
      apply gb89
      refine AWp.skip ?_
      apply hk83
      refine AWp.sr [] fun K95 hk96 => ?_
      obtain ⟨x97, x98, x99, hx100, hm101⟩ := bind3_some hm91
      clear hm91
      try dsimp only at hm101
      simp [E72, hx19, hx60, hc11, hc34, hc54, hc77, hc90]
      refine CallAt.fn (r_content_join T hx100) ?_
      simp [E72, hx19, hx60, hc11, hc34, hc54, hc77, hc90]
      apply hk96
      refine AWp.ret ?_
      apply nr47
      simp only [Option.some.injEq, Prod.mk.injEq] at hm101
      obtain ⟨rfl, rfl, rfl⟩ := hm101
      simp [retQ, E72, hx19, hx60, hc11, hc34, hc54, hc77, hc90]
    clear hm36
    simp [hx19, hc11, hc34, hc54]
    apply gb53
    refine AWp.sr [] fun K102 hk103 => ?_
    simp [hx19, hc11, hc34, hc54]
    apply hk103
    refine AWp.condK fun A104 B105 ga106 gb107 => ?_
    rcases ite_some hm56 with ⟨hc108, hm109⟩ | ⟨hc108, hm110⟩
    · clear hm56
      simp [hx19, hc11, hc34, hc54, hc108]
      apply ga106
      refine AWp.seqK fun K111 hk112 => ?_
      refine AWp.sr [] fun K113 hk114 => ?_
      simp [hx19, hc11, hc34, hc54, hc108]
      apply hk114
      refine AWp.condK fun A115 B116 ga117 gb118 => ?_
      rcases ite_some hm109 with ⟨hc119, hm120⟩ | ⟨hc119, hm121⟩
      rotate_left
      · clear hm109
        simp [hx19, hc11, hc34, hc54, hc108, hc119]
        apply ga117
        refine AWp.sr [] fun K122 hk123 => ?_
        simp [hx19, hc11, hc34, hc54, hc108, hc119]
        apply hk123
        refine AWp.ret ?_
        apply nr47
        simp only [Option.some.injEq, Prod.mk.injEq] at hm121
        obtain ⟨rfl, rfl, rfl⟩ := hm121
        simp [retQ, hx19, hc11, hc34, hc54, hc108, hc119]
      clear hm109
      simp [hx19, hc11, hc34, hc54, hc108, hc119]
      apply gb118
      refine AWp.skip ?_
      apply hk112
      refine AWp.sr [] fun K124 hk125 => ?_
      obtain ⟨x126, x127, x128, hx129, hm130⟩ := bind3_some hm120
      clear hm120
      try dsimp only at hm130
      simp [hx19, hc11, hc34, hc54, hc108, hc119]
      refine CallAt.fn (r_content_join T hx129) ?_
      simp [hx19, hc11, hc34, hc54, hc108, hc119]
      apply hk125
      refine AWp.ret ?_
      apply nr47
      simp only [Option.some.injEq, Prod.mk.injEq] at hm130
      obtain ⟨rfl, rfl, rfl⟩ := hm130
      simp [retQ, hx19, hc11, hc34, hc54, hc108, hc119]
    clear hm56
    simp [hx19, hc11, hc34, hc54, hc108]
    apply gb107
    refine AWp.skip ?_
    apply nn44
    apply hk40
    refine AWp.seqK fun K131 hk132 => ?_
    refine AWp.sr [] fun K133 hk134 => ?_
    simp [hx19, hc11, hc34, hc54, hc108]
    apply hk134
    refine AWp.condK fun A135 B136 ga137 gb138 => ?_
    rcases ite_some hm110 with ⟨hc139, hm140⟩ | ⟨hc139, hm141⟩
    rotate_left
    · clear hm110
      simp [hx19, hc11, hc34, hc54, hc108, hc139]
      apply ga137
      refine AWp.sr [] fun K142 hk143 => ?_
      simp [hx19, hc11, hc34, hc54, hc108, hc139]
      apply hk143
      refine AWp.ret ?_
      simp only [Option.some.injEq, Prod.mk.injEq] at hm141
      obtain ⟨rfl, rfl, rfl⟩ := hm141
      simp [retQ, hx19, hc11, hc34, hc54, hc108, hc139]
    clear hm110
    simp [hx19, hc11, hc34, hc54, hc108, hc139]
    apply gb138
    refine AWp.skip ?_
    apply hk132
    refine AWp.seqK fun K144 hk145 => ?_
    refine AWp.sr [] fun K146 hk147 => ?_
    simp [hx19, hc11, hc34, hc54, hc108, hc139]
    apply hk147
    refine AWp.blockK fun Q148 nn149 ne150 nx151 nr152 => ?_
    refine AWp.sr [] fun K153 hk154 => ?_
    simp [hx19, hc11, hc34, hc54, hc108, hc139]
    apply hk154
    refine AWp.condK fun A155 B156 ga157 gb158 => ?_
    rcases ite_some hm140 with ⟨hc159, hm160⟩ | ⟨hc159, hm161⟩
    rotate_left
    · clear hm140
      simp [hx19, hc11, hc34, hc54, hc108, hc139, hc159]
      apply gb158
      refine AWp.sr [] fun K162 hk163 => ?_
      simp [hx19, hc11, hc34, hc54, hc108, hc139, hc159]
      apply hk163
      refine AWp.condK fun A164 B165 ga166 gb167 => ?_
      rcases ite_some hm161 with ⟨hc168, hm169⟩ | ⟨hc168, hm170⟩
      rotate_left
      · clear hm161
        simp [hx19, hc11, hc34, hc54, hc108, hc139, hc159, hc168]
        apply gb167
        refine AWp.skip ?_
        apply nn149
        apply hk145
        refine AWp.sr [] fun K171 hk172 => ?_
        simp [hx19, hc11, hc34, hc54, hc108, hc139, hc159, hc168]
        apply hk172
        refine AWp.ret ?_
        simp only [Option.some.injEq, Prod.mk.injEq] at hm170
        obtain ⟨rfl, rfl, rfl⟩ := hm170
        simp [retQ, hx19, hc11, hc34, hc54, hc108, hc139, hc159, hc168]
      clear hm161
      simp [hx19, hc11, hc34, hc54, hc108, hc139, hc159, hc168]
      apply ga166
      refine AWp.sr [] fun K173 hk174 => ?_
      obtain ⟨x175, x176, x177, hx178, hm179⟩ := bind3_some hm169
      clear hm169
      try dsimp only at hm179
      simp [hx19, hc11, hc34, hc54, hc108, hc139, hc159, hc168]
      refine CallAt.fn (r_content_join T hx178) ?_
      simp [hx19, hc11, hc34, hc54, hc108, hc139, hc159, hc168]
      apply hk174
      refine AWp.ret ?_
      apply nr152
      simp only [Option.some.injEq, Prod.mk.injEq] at hm179
      obtain ⟨rfl, rfl, rfl⟩ := hm179
      simp [retQ, hx19, hc11, hc34, hc54, hc108, hc139, hc159, hc168]
    clear hm140
    simp [hx19, hc11, hc34, hc54, hc108, hc139, hc159]
    apply ga157
    refine AWp.sr [] fun K180 hk181 => ?_
    obtain ⟨x182, hx183, hm184⟩ := bind1_some hm160
    clear hm160
    try dsimp only at hm184
    obtain ⟨x185, x186, x187, hx188, hm189⟩ := bind3_some hm184
    clear hm184
    try dsimp only at hm189
    simp [hx19, hx183, hc11, hc34, hc54, hc108, hc139, hc159]
    refine CallAt.fn (ih hx188) ?_
    simp [hx19, hx183, hc11, hc34, hc54, hc108, hc139, hc159]
    apply hk181
    refine AWp.seqK fun K190 hk191 => ?_
    refine AWp.seqP (fun fr h => ∃ (g2_195 : Nat) (g5_195 : Nat) (g11_195 : Nat), H = h ∧ (fr.env 2 = AV.lptr 2 g2_195 0 ∧ fr.env 5 = AV.lptr 5 g5_195 0 ∧ fr.env 11 = AV.lptr 11 g11_195 0 ∧ fr.env 13 = AV.sc (.int .i64 x187) ∧ fr.env 100 = AV.sc (.bool (sel (ine x187 0) true (bnot x186))) ∧ fr.gen 2 = g2_195 ∧ fr.box 2 = some [AV.sc (.int .i64 0), AV.slice .full []] ∧ fr.gen 5 = g5_195 ∧ fr.box 5 = some [AV.sc (.int .i64 x21.kind), AV.slice .frz (List.map Ty.av x21.args)] ∧ fr.gen 11 = g11_195 ∧ fr.box 11 = some [AV.sc (.int .i64 x185.kind), AV.slice .frz (List.map Ty.av x185.args)])) (fun K192 hk193 => ?_) ?_
    · refine AWp.region [] (by decide +kernel) ?_
      rcases Bool.eq_false_or_eq_true (ine x187 0) with hc194 | hc194
      · simp [hx19, hx183, hc11, hc34, hc54, hc108, hc139, hc159, hc194]
        refine hk193 _ _ ⟨1, 1, 1, ?_, ⟨?_, ?_, ?_, ?_, ?_, ?_, ?_, ?_, ?_, ?_, ?_⟩⟩ <;> first | rfl | simp [hx19, hx183, hc11, hc34, hc54, hc108, hc139, hc159, hc194]
      simp [hx19, hx183, hc11, hc34, hc54, hc108, hc139, hc159, hc194]
      refine hk193 _ _ ⟨1, 1, 1, ?_, ⟨?_, ?_, ?_, ?_, ?_, ?_, ?_, ?_, ?_, ?_, ?_⟩⟩ <;> first | rfl | simp [hx19, hx183, hc11, hc34, hc54, hc108, hc139, hc159, hc194]
    rintro fr195 h195 ⟨g2_195, g5_195, g11_195, rfl, E195⟩
    refine AWp.condK fun A196 B197 ga198 gb199 => ?_
    rcases ite_some hm189 with ⟨hc200, hm201⟩ | ⟨hc200, hm202⟩
    · clear hm189
      simp [E195, hx19, hx183, hc11, hc34, hc54, hc108, hc139, hc159, hc200]
      apply ga198
      refine AWp.sr [] fun K203 hk204 => ?_
      simp [E195, hx19, hx183, hc11, hc34, hc54, hc108, hc139, hc159, hc200]
      apply hk204
      refine AWp.ret ?_
      apply nr152
      simp only [Option.some.injEq, Prod.mk.injEq] at hm201
      obtain ⟨rfl, rfl, rfl⟩ := hm201
      simp [retQ, E195, hx19, hx183, hc11, hc34, hc54, hc108, hc139, hc159, hc200]
    clear hm189
    simp [E195, hx19, hx183, hc11, hc34, hc54, hc108, hc139, hc159, hc200]
    apply gb199
    refine AWp.skip ?_
    apply hk191
    refine AWp.sr [] fun K205 hk206 => ?_
    obtain ⟨x207, x208, x209, hx210, hm211⟩ := bind3_some hm202
    clear hm202
    try dsimp only at hm211
    simp [E195, hx19, hx183, hc11, hc34, hc54, hc108, hc139, hc159, hc200]
    refine CallAt.fn (r_content_join T hx210) ?_
    simp [E195, hx19, hx183, hc11, hc34, hc54, hc108, hc139, hc159, hc200]
    apply hk206
    refine AWp.ret ?_
    apply nr152
    simp only [Option.some.injEq, Prod.mk.injEq] at hm211
    obtain ⟨rfl, rfl, rfl⟩ := hm211
    simp [retQ, E195, hx19, hx183, hc11, hc34, hc54, hc108, hc139, hc159, hc200]
theorem r_content_of (T : Tabs) {H : Heap} {a0 : Fm} {r0 : Ty} {r1 : Bool} {r2 : Int} {n : Nat} (hm : content_of n a0 = some (r0, r1, r2)) : ACall Tryd.prog T 45 [Fm.av a0] H (AV.tuple [Ty.av r0, AV.sc (.bool r1), AV.sc (.int .i64 r2)]) H := (rg_content_of T n) hm

theorem enters16 : entersB Tryd.prog 16 = true := by kernel_rfl

theorem r_content_Type (T : Tabs) (hT : T 0 = some (AV.agg (List.map (fun n => AV.sc (Value.int .i64 n)) tree_arities))) {H : Heap} {a0 : Fm} {r0 : Ty} {r1 : Int} (hm : content_Type a0 = some (r0, r1)) : ACall Tryd.prog T 16 [Fm.av a0] H (AV.tuple [Ty.av r0, AV.sc (.int .i64 r1)]) H := by
  rw [content_Type] at hm
  refine ACallP.intro (fn := Tryd.f16) Tryd.func16 rfl enters16 (Nat.le_of_ble_eq_true rfl) ?_
  refine AWp.sr [] fun K1 hk2 => ?_
  simp [hT]
  apply hk2
  refine AWp.seqK fun K3 hk4 => ?_
  refine AWp.sr [] fun K5 hk6 => ?_
  obtain ⟨x7, hx8, hm9⟩ := bind1_some hm
  clear hm
  try dsimp only at hm9
  simp [hT]
  refine CallAt.fn (r_formula_Check T hT hx8) ?_
  simp [hT]
  apply hk6
  refine AWp.sr [] fun K10 hk11 => ?_
  simp [hT]
  apply hk11
  refine AWp.condK fun A12 B13 ga14 gb15 => ?_
  rcases ite_some hm9 with ⟨hc16, hm17⟩ | ⟨hc16, hm18⟩
  · clear hm9
    simp [hT, hc16]
    apply ga14
    refine AWp.sr [] fun K19 hk20 => ?_
    simp [hT, hc16]
    apply hk20
    refine AWp.ret ?_
    simp only [Option.some.injEq, Prod.mk.injEq] at hm17
    obtain ⟨rfl, rfl⟩ := hm17
    simp [retQ, hT, hc16]
  clear hm9
  simp [hT, hc16]
  apply gb15
  refine AWp.skip ?_
  apply hk4
  refine AWp.sr [] fun K21 hk22 => ?_
  obtain ⟨x23, x24, x25, hx26, hm27⟩ := bind3_some hm18
  clear hm18
  try dsimp only at hm27
  simp [hT, hc16]
  refine CallAt.fn (r_content_of T hx26) ?_
  simp [hT, hc16]
  apply hk22
  refine AWp.seqK fun K28 hk29 => ?_
  refine AWp.sr [] fun K30 hk31 => ?_
  simp [hT, hc16]
  apply hk31
  refine AWp.condK fun A32 B33 ga34 gb35 => ?_
  rcases ite_some hm27 with ⟨hc36, hm37⟩ | ⟨hc36, hm38⟩
  · clear hm27
    simp [hT, hc16, hc36]
    apply ga34
    refine AWp.sr [] fun K39 hk40 => ?_
    simp [hT, hc16, hc36]
    apply hk40
    refine AWp.ret ?_
    simp only [Option.some.injEq, Prod.mk.injEq] at hm37
    obtain ⟨rfl, rfl⟩ := hm37
    simp [retQ, hT, hc16, hc36]
  clear hm27
  simp [hT, hc16, hc36]
  apply gb35
  refine AWp.skip ?_
  apply hk29
  refine AWp.seqP (fun fr h => ∃ (tg0_43 : Tag) (g2_43 : Nat) (g5_43 : Nat), H = h ∧ (fr.env 2 = AV.lptr 2 g2_43 0 ∧ fr.env 5 = AV.lptr 5 g5_43 0 ∧ fr.gen 2 = g2_43 ∧ fr.box 2 = some [AV.sc (.int .i64 0), AV.slice .full []] ∧ fr.gen 5 = g5_43 ∧ fr.box 5 = some [AV.sc (.int .i64 (sel x24 x23.kind 5)), AV.slice tg0_43 (List.map Ty.av (sel x24 x23.args []))])) (fun K41 hk42 => ?_) ?_
  rotate_left
  · rintro fr43 h43 ⟨tg0_43, g2_43, g5_43, rfl, E43⟩
    refine AWp.sr [] fun K44 hk45 => ?_
    simp [E43, hT, hc16, hc36]
    apply hk45
    refine AWp.ret ?_
    simp only [Option.some.injEq, Prod.mk.injEq] at hm38
    obtain ⟨rfl, rfl⟩ := hm38
    simp [retQ, E43, hT, hc16, hc36]
  refine AWp.sr [] fun K46 hk47 => ?_
  simp [hT, hc16, hc36]
  apply hk47
  refine AWp.condK fun A48 B49 ga50 gb51 => ?_
  rcases Bool.eq_false_or_eq_true x24 with hc52 | hc52
  · simp [hT, hc16, hc36, hc52]
    apply gb51
    refine AWp.skip ?_
    refine hk42 _ _ ⟨.frz, 1, 1, ?_, ⟨?_, ?_, ?_, ?_, ?_, ?_⟩⟩ <;> first | rfl | simp [hT, hc16, hc36, hc52]
  simp [hT, hc16, hc36, hc52]
  apply ga50
  refine AWp.region [] (by decide +kernel) ?_
  simp [hT, hc16, hc36, hc52]
  refine hk42 _ _ ⟨.full, 1, 1, ?_, ⟨?_, ?_, ?_, ?_, ?_, ?_⟩⟩ <;> first | rfl | simp [hT, hc16, hc36, hc52]

theorem enters84 : entersB Tryd.prog 84 = true := by kernel_rfl

theorem r_types_Context (T : Tabs) {H : Heap} {a0 : (List Ty)} {r0 : Int} (hm : types_Context a0 = some r0) : ACall Tryd.prog T 84 [AV.slice .frz (List.map Ty.av a0)] H (AV.sc (.int .i64 r0)) H := by
  rw [types_Context] at hm
  refine ACallP.intro (fn := Tryd.f84) Tryd.func84 rfl enters84 (Nat.le_of_ble_eq_true rfl) ?_
  refine AWp.sr [] fun K1 hk2 => ?_
  simp
  apply hk2
  refine AWp.seqK fun K3 hk4 => ?_
  refine AWp.sr [] fun K5 hk6 => ?_
  simp
  apply hk6
  refine AWp.condK fun A7 B8 ga9 gb10 => ?_
  rcases ite_some hm with ⟨hc11, hm12⟩ | ⟨hc11, hm13⟩
  · clear hm
    simp [hc11]
    apply ga9
    refine AWp.sr [] fun K14 hk15 => ?_
    simp [hc11]
    apply hk15
    refine AWp.ret ?_
    obtain rfl := Option.some.inj hm12
    simp [retQ, hc11]
  clear hm
  simp [hc11]
  apply gb10
  refine AWp.skip ?_
  apply hk4
  refine AWp.seqK fun K16 hk17 => ?_
  refine AWp.sr [] fun K18 hk19 => ?_
  simp [hc11]
  apply hk19
  obtain ⟨hok20, hm21⟩ := chk_some hm13
  clear hm13
  obtain ⟨F22, hF23, hm24⟩ := joinB_some hm21
  clear hm21
  try dsimp only at hm24
  obtain ⟨out25, hl26, hmB27⟩ := bind1_some hm24
  clear hm24
  refine AWp.blockK fun Q28 nn29 ne30 nx31 nr32 => ?_
  refine AWp.loopF (fun n33 fr h => ∃ (i34 : Nat) (j35 : Int), H = h ∧ (fr.env 9 = AV.slice .frz (List.map Ty.av a0) ∧ fr.env 10 = AV.sc (.int .i64 (llen a0)) ∧ fr.env 11 = AV.sc (.int .i64 j35)) ∧ j35 = (i34 : Int) ∧ i34 + n33 = List.length a0 ∧ forR F22 (List.drop i34 a0) i34 () = some out25) (List.length a0) ?_ ?_
  · refine ⟨0, 0, ?_, ⟨?_, ?_, ?_⟩, rfl, (by simp), hl26⟩ <;> first | rfl | simp [hc11]
  rintro n33 fr36 h36 ⟨i34, j35, rfl, E36, hj37, hi38, hl26⟩ K39 hK40
  rcases n33 with _ | n33
  · have hlt41 := ilt_notJ (l := a0) hj37 (by omega)
    refine AWp.sr [] fun K42 hk43 => ?_
    simp [E36, hlt41, hc11]
    apply hk43
    refine AWp.seqK fun K44 hk45 => ?_
    refine AWp.condK fun A46 B47 ga48 gb49 => ?_
    simp [E36, hlt41, hc11]
    apply gb49
    refine AWp.exit ?_
    apply ne30
    rw [List.drop_eq_nil_of_le (by omega), forR_nil] at hl26
    obtain rfl := Option.some.inj hl26
    rw [sumK_inl] at hmB27
    try dsimp only at hmB27
    apply hk17
    refine AWp.sr [] fun K50 hk51 => ?_
    simp [E36, hlt41, hc11]
    apply hk51
    refine AWp.ret ?_
    obtain rfl := Option.some.inj hmB27
    simp [retQ, E36, hlt41, hc11]
  have hlt41 := ilt_ofJ (l := a0) hj37 (by omega)
  obtain ⟨x52, hdn33, hg53⟩ := drop_ltJ (l := a0) hj37 (by omega)
  rw [hdn33, forR_cons] at hl26
  obtain ⟨c54, hb55, hk56⟩ := bind1_some hl26
  clear hl26
  rw [hF23, ← hj37] at hb55
  try dsimp only at hb55
  refine AWp.sr [] fun K57 hk58 => ?_
  simp [E36, hlt41, hg53, hc11]
  apply hk58
  refine AWp.seqK fun K59 hk60 => ?_
  refine AWp.condK fun A61 B62 ga63 gb64 => ?_
  simp [E36, hlt41, hg53, hc11]
  apply ga63
  refine AWp.skip ?_
  apply hk60
  refine AWp.seqK fun K65 hk66 => ?_
  refine AWp.blockK fun Q67 nn68 ne69 nx70 nr71 => ?_
  refine AWp.sr [] fun K72 hk73 => ?_
  simp [E36, hlt41, hg53, hc11]
  apply hk73
  refine AWp.sr [] fun K74 hk75 => ?_
  obtain ⟨x76, hx77, hm78⟩ := bind1_some hb55
  clear hb55
  try dsimp only at hm78
  simp [E36, hlt41, hg53, hc11]
  refine CallAt.fn (r_types_Check T hx77) ?_
  simp [E36, hlt41, hg53, hc11]
  apply hk75
  refine AWp.sr [] fun K79 hk80 => ?_
  simp [E36, hlt41, hg53, hc11]
  apply hk80
  refine AWp.condK fun A81 B82 ga83 gb84 => ?_
  rcases ite_some hm78 with ⟨hc85, hm86⟩ | ⟨hc85, hm87⟩
  · clear hm78
    simp [E36, hlt41, hg53, hc11, hc85]
    apply ga83
    refine AWp.sr [] fun K88 hk89 => ?_
    simp [E36, hlt41, hg53, hc11, hc85]
    apply hk89
    refine AWp.ret ?_
    apply nr71
    apply nr32
    obtain rfl := Option.some.inj hm86
    rw [ctlK_ret] at hk56
    obtain rfl := Option.some.inj hk56
    rw [sumK_inr] at hmB27
    try dsimp only at hmB27
    obtain rfl := Option.some.inj hmB27
    simp [retQ, E36, hlt41, hg53, hc11, hc85]
  clear hm78
  simp [E36, hlt41, hg53, hc11, hc85]
  apply gb84
  refine AWp.skip ?_
  apply nn68
  apply hk66
  refine AWp.region [] (by decide +kernel) ?_
  simp [E36, hlt41, hg53, hc11, hc85]
  obtain rfl := Option.some.inj hm87
  rw [ctlK_next] at hk56
  refine hK40 _ _ n33 (Nat.lt_succ_self _) ⟨(i34 + 1), (iadd .i64 j35 1), ?_, ⟨?_, ?_, ?_⟩, (iadd_idxJ hj37 (by omega) hok20), (by omega), hk56⟩ <;> first | rfl | simp [E36, hlt41, hg53, hc11, hc85]

theorem enters48 : entersB Tryd.prog 48 = true := by kernel_rfl

theorem r_content_look (T : Tabs) (hT : T 0 = some (AV.agg (List.map (fun n => AV.sc (Value.int .i64 n)) tree_arities))) {H : Heap} {a0 : Sq} {r0 : (List Ty)} {r1 : (List Int)} {r2 : Int} (hm : content_look a0 = some (r0, r1, r2)) : ACall Tryd.prog T 48 [Sq.av a0] H (AV.tuple [AV.slice .frz (List.map Ty.av r0), AV.slice .frz (List.map (fun n => AV.sc (Value.int .i64 n)) r1), AV.sc (.int .i64 r2)]) H := by
  rw [content_look] at hm
  refine ACallP.intro (fn := Tryd.f48) Tryd.func48 rfl enters48 (Nat.le_of_ble_eq_true rfl) ?_
  refine AWp.sr [] fun K1 hk2 => ?_
  simp [hT]
  apply hk2
  refine AWp.seqK fun K3 hk4 => ?_
  refine AWp.sr [] fun K5 hk6 => ?_
  obtain ⟨x7, hx8, hm9⟩ := bind1_some hm
  clear hm
  try dsimp only at hm9
  simp [hT]
  refine CallAt.fn (r_types_Context T hx8) ?_
  simp [hT]
  apply hk6
  refine AWp.sr [] fun K10 hk11 => ?_
  simp [hT]
  apply hk11
  refine AWp.condK fun A12 B13 ga14 gb15 => ?_
  rcases ite_some hm9 with ⟨hc16, hm17⟩ | ⟨hc16, hm18⟩
  · clear hm9
    simp [hT, hc16]
    apply ga14
    refine AWp.sr [] fun K19 hk20 => ?_
    simp [hT, hc16]
    apply hk20
    refine AWp.ret ?_
    simp only [Option.some.injEq, Prod.mk.injEq] at hm17
    obtain ⟨rfl, rfl, rfl⟩ := hm17
    simp [retQ, hT, hc16]
  clear hm9
  simp [hT, hc16]
  apply gb15
  refine AWp.skip ?_
  apply hk4
  refine AWp.seqK fun K21 hk22 => ?_
  refine AWp.sr [] fun K23 hk24 => ?_
  simp [hT, hc16]
  apply hk24
  refine AWp.condK fun A25 B26 ga27 gb28 => ?_
  rcases ite_some hm18 with ⟨hc29, hm30⟩ | ⟨hc29, hm31⟩
  · clear hm18
    simp [hT, hc16, hc29]
    apply ga27
    refine AWp.sr [] fun K32 hk33 => ?_
    simp [hT, hc16, hc29]
    apply hk33
    refine AWp.ret ?_
    simp only [Option.some.injEq, Prod.mk.injEq] at hm30
    obtain ⟨rfl, rfl, rfl⟩ := hm30
    simp [retQ, hT, hc16, hc29]
  clear hm18
  simp [hT, hc16, hc29]
  apply gb28
  refine AWp.skip ?_
  apply hk22
  refine AWp.sr [] fun K34 hk35 => ?_
  obtain ⟨ha71, hm36⟩ := chk_some hm31
  clear hm31
  simp [hT, hc16, hc29]
  refine AppAt.own (f := Ty.av) [] a0.types (OwnT.full (D := [])) ap23 (by intro x; simp) ha71 (by first | rfl | simp) (by first | rfl | simp) ?_
  simp [hT, hc16, hc29]
  apply hk35
  refine AWp.seqK fun K37 hk38 => ?_
  refine AWp.sr [] fun K39 hk40 => ?_
  simp [hT, hc16, hc29]
  apply hk40
  obtain ⟨hok41, hm42⟩ := chk_some hm36
  clear hm36
  obtain ⟨F43, hF44, hm45⟩ := joinB_some hm42
  clear hm42
  try dsimp only at hm45
  obtain ⟨out46, hl47, hmB48⟩ := bind1_some hm45
  clear hm45
  refine AWp.blockK fun Q49 nn50 ne51 nx52 nr53 => ?_
  refine AWp.loopF (fun n54 fr h => ∃ (i55 : Nat) (j56 : Int) (v57 : (List Ty)) (v58 : (List Int)) (tg0_59 : Tag) (tg1_59 : Tag), H = h ∧ (fr.env 2 = AV.slice tg0_59 (List.map Ty.av v57) ∧ fr.env 3 = AV.slice tg1_59 (List.map (fun n => AV.sc (Value.int .i64 n)) v58) ∧ fr.env 25 = AV.slice .frz (List.map Fm.av a0.hyps) ∧ fr.env 26 = AV.sc (.int .i64 (llen a0.hyps)) ∧ fr.env 27 = AV.sc (.int .i64 j56)) ∧ OwnT fr.tab fr.tgen [23, 59] tg0_59 (List.length v57) ∧ OwnT fr.tab fr.tgen [44, 55] tg1_59 (List.length v58) ∧ j56 = (i55 : Int) ∧ i55 + n54 = List.length a0.hyps ∧ forR F43 (List.drop i55 a0.hyps) i55 (v57, v58) = some out46) (List.length a0.hyps) ?_ ?_
  · refine ⟨0, 0, (lapp [] a0.types), [], (.loc 23 1), .full, ?_, ⟨?_, ?_, ?_, ?_, ?_⟩, (OwnT.mono (D := [23]) (OwnT.new (D := [23]) (d := 23) (by decide)) (by decide)), OwnT.full, rfl, (by simp), hl47⟩ <;> first | rfl | simp [hT, hc16, hc29]
  rintro n54 fr59 h59 ⟨i55, j56, v57, v58, tg0_59, tg1_59, rfl, E59, o0_59, o1_59, hj60, hi61, hl47⟩ K62 hK63
  rcases n54 with _ | n54
  · have hlt64 := ilt_notJ (l := a0.hyps) hj60 (by omega)
    refine AWp.sr [] fun K65 hk66 => ?_
    simp [E59, hT, hlt64, hc16, hc29]
    apply hk66
    refine AWp.seqK fun K67 hk68 => ?_
    refine AWp.condK fun A69 B70 ga71 gb72 => ?_
    simp [E59, hT, hlt64, hc16, hc29]
    apply gb72
    refine AWp.exit ?_
    apply ne51
    rw [List.drop_eq_nil_of_le (by omega), forR_nil] at hl47
    obtain rfl := Option.some.inj hl47
    rw [sumK_inl, un2_mk] at hmB48
    try dsimp only at hmB48
    apply hk38
    refine AWp.sr [] fun K73 hk74 => ?_
    simp [E59, hT, hlt64, hc16, hc29]
    apply hk74
    refine AWp.ret ?_
    simp only [Option.some.injEq, Prod.mk.injEq] at hmB48
    obtain ⟨rfl, rfl, rfl⟩ := hmB48
    simp [retQ, E59, hT, hlt64, hc16, hc29]
  have hlt64 := ilt_ofJ (l := a0.hyps) hj60 (by omega)
  obtain ⟨x75, hdn54, hg76⟩ := drop_ltJ (l := a0.hyps) hj60 (by omega)
  rw [hdn54, forR_cons] at hl47
  obtain ⟨c77, hb78, hk79⟩ := bind1_some hl47
  clear hl47
  rw [hF44, ← hj60] at hb78
  try dsimp only at hb78
  rw [un2_mk] at hb78
  try dsimp only at hb78
  refine AWp.sr [] fun K80 hk81 => ?_
  simp [E59, hT, hlt64, hg76, hc16, hc29]
  apply hk81
  refine AWp.seqK fun K82 hk83 => ?_
  refine AWp.condK fun A84 B85 ga86 gb87 => ?_
  simp [E59, hT, hlt64, hg76, hc16, hc29]
  apply ga86
  refine AWp.skip ?_
  apply hk83
  obtain ⟨j88, hj89, hm90⟩ := joinB_some hb78
  clear hb78
  refine AWp.seqP (fun fr h => ∃ (v91 : (List Ty)) (v92 : (List Int)) (tg0_95 : Tag) (tg1_95 : Tag), H = h ∧ (fr.env 2 = AV.slice tg0_95 (List.map Ty.av v91) ∧ fr.env 3 = AV.slice tg1_95 (List.map (fun n => AV.sc (Value.int .i64 n)) v92) ∧ fr.env 25 = AV.slice .frz (List.map Fm.av a0.hyps) ∧ fr.env 26 = AV.sc (.int .i64 (llen a0.hyps)) ∧ fr.env 27 = AV.sc (.int .i64 j56)) ∧ OwnT fr.tab fr.tgen [23, 59] tg0_95 (List.length v91) ∧ OwnT fr.tab fr.tgen [44, 55] tg1_95 (List.length v92) ∧ j88 v91 v92 = some c77) (fun K93 hk94 => ?_) ?_
  rotate_left
  · clear hm90
    rintro fr95 h95 ⟨v91, v92, tg0_95, tg1_95, rfl, E95, o0_95, o1_95, hm96⟩
    subst hj89
    refine AWp.region [] (by decide +kernel) ?_
    simp [E95, hT, hlt64, hg76, hc16, hc29]
    obtain rfl := Option.some.inj hm96
    rw [ctlK_next] at hk79
    refine hK63 _ _ n54 (Nat.lt_succ_self _) ⟨(i55 + 1), (iadd .i64 j56 1), v91, v92, tg0_95, tg1_95, ?_, ⟨?_, ?_, ?_, ?_, ?_⟩, (OwnT.mono (D := [23, 59]) o0_95 (by decide)), (OwnT.mono (D := [44, 55]) o1_95 (by decide)), (iadd_idxJ hj60 (by omega) hok41), (by omega), hk79⟩ <;> first | rfl | simp [E95, hT, hlt64, hg76, hc16, hc29]
  refine AWp.blockK fun Q97 nn98 ne99 nx100 nr101 => ?_
  refine AWp.sr [] fun K102 hk103 => ?_
  simp [E59, hT, hlt64, hg76, hc16, hc29]
  apply hk103
  refine AWp.seqK fun K104 hk105 => ?_
  refine AWp.sr [] fun K106 hk107 => ?_
  obtain ⟨x108, hx109, hm110⟩ := bind1_some hm90
  clear hm90
  try dsimp only at hm110
  simp [E59, hT, hlt64, hg76, hc16, hc29]
  refine CallAt.fn (r_formula_Check T hT hx109) ?_
  simp [E59, hT, hlt64, hg76, hc16, hc29]
  apply hk107
  refine AWp.sr [] fun K111 hk112 => ?_
  simp [E59, hT, hlt64, hg76, hc16, hc29]
  apply hk112
  refine AWp.condK fun A113 B114 ga115 gb116 => ?_
  rcases ite_some hm110 with ⟨hc117, hm118⟩ | ⟨hc117, hm119⟩
  · clear hm110
    simp [E59, hT, hlt64, hg76, hc16, hc29, hc117]
    apply ga115
    refine AWp.sr [] fun K120 hk121 => ?_
    simp [E59, hT, hlt64, hg76, hc16, hc29, hc117]
    apply hk121
    refine AWp.ret ?_
    apply nr101
    apply nr53
    obtain rfl := Option.some.inj hm118
    rw [ctlK_ret] at hk79
    obtain rfl := Option.some.inj hk79
    rw [sumK_inr] at hmB48
    try dsimp only at hmB48
    simp only [Option.some.injEq, Prod.mk.injEq] at hmB48
    obtain ⟨rfl, rfl, rfl⟩ := hmB48
    simp [retQ, E59, hT, hlt64, hg76, hc16, hc29, hc117]
  clear hm110
  simp [E59, hT, hlt64, hg76, hc16, hc29, hc117]
  apply gb116
  refine AWp.skip ?_
  apply hk105
  refine AWp.sr [] fun K122 hk123 => ?_
  obtain ⟨x124, x125, x126, hx127, hm128⟩ := bind3_some hm119
  clear hm119
  try dsimp only at hm128
  simp [E59, hT, hlt64, hg76, hc16, hc29, hc117]
  refine CallAt.fn (r_content_of T hx127) ?_
  simp [E59, hT, hlt64, hg76, hc16, hc29, hc117]
  apply hk123
  refine AWp.blockK fun Q129 nn130 ne131 nx132 nr133 => ?_
  refine AWp.sr [] fun K134 hk135 => ?_
  simp [E59, hT, hlt64, hg76, hc16, hc29, hc117]
  apply hk135
  refine AWp.condK fun A136 B137 ga138 gb139 => ?_
  rcases ite_some hm128 with ⟨hc140, hm141⟩ | ⟨hc140, hm142⟩
  · clear hm128
    simp [E59, hT, hlt64, hg76, hc16, hc29, hc117, hc140]
    apply ga138
    refine AWp.sr [] fun K143 hk144 => ?_
    simp [E59, hT, hlt64, hg76, hc16, hc29, hc117, hc140]
    apply hk144
    refine AWp.ret ?_
    apply nr133
    apply nr101
    apply nr53
    obtain rfl := Option.some.inj hm141
    rw [ctlK_ret] at hk79
    obtain rfl := Option.some.inj hk79
    rw [sumK_inr] at hmB48
    try dsimp only at hmB48
    simp only [Option.some.injEq, Prod.mk.injEq] at hmB48
    obtain ⟨rfl, rfl, rfl⟩ := hmB48
    simp [retQ, E59, hT, hlt64, hg76, hc16, hc29, hc117, hc140]
  clear hm128
  simp [E59, hT, hlt64, hg76, hc16, hc29, hc117, hc140]
  apply gb139
  refine AWp.sr [] fun K145 hk146 => ?_
  simp [E59, hT, hlt64, hg76, hc16, hc29, hc117, hc140]
  apply hk146
  refine AWp.condK fun A147 B148 ga149 gb150 => ?_
  rcases ite_some hm142 with ⟨hc151, hm152⟩ | ⟨hc151, hm153⟩
  rotate_left
  · clear hm142
    simp [E59, hT, hlt64, hg76, hc16, hc29, hc117, hc140, hc151]
    apply gb150
    refine AWp.region [] (by decide +kernel) ?_
    obtain ⟨ha1163, hm154⟩ := chk_some hm153
    clear hm153
    simp [E59, hT, hlt64, hg76, hc16, hc29, hc117, hc140, hc151]
    refine AppAt.own (f := (fun n => AV.sc (Value.int .i64 n))) v58 [(-1)] o1_59 ap22 (by intro x; simp) ha1163 (by first | rfl | simp) (by first | rfl | simp) ?_
    simp [E59, hT, hlt64, hg76, hc16, hc29, hc117, hc140, hc151]
    apply nn130
    apply nn98
    refine hk94 _ _ ⟨v57, (lapp v58 [(-1)]), tg0_59, (.loc 44 (fr59.tgen 44 + 1)), ?_, ⟨?_, ?_, ?_, ?_, ?_⟩, (OwnT.mono (D := [23, 59]) (OwnT.other o0_59 o1_59 (by decide) (by decide)) (by decide)), (OwnT.mono (D := [44]) (OwnT.new (D := [44]) (d := 44) (by decide)) (by decide)), hm154⟩ <;> first | rfl | simp [E59, hT, hlt64, hg76, hc16, hc29, hc117, hc140, hc151]
  clear hm142
  simp [E59, hT, hlt64, hg76, hc16, hc29, hc117, hc140, hc151]
  apply ga149
  refine AWp.sr [] fun K155 hk156 => ?_
  obtain ⟨ha1159, hm157⟩ := chk_some hm152
  clear hm152
  simp [E59, hT, hlt64, hg76, hc16, hc29, hc117, hc140, hc151]
  refine AppAt.own (f := (fun n => AV.sc (Value.int .i64 n))) v58 [(llen v57)] o1_59 ap22 (by intro x; simp) ha1159 (by first | rfl | simp) (by first | rfl | simp) ?_
  simp [E59, hT, hlt64, hg76, hc16, hc29, hc117, hc140, hc151]
  apply hk156
  refine AWp.region [] (by decide +kernel) ?_
  obtain ⟨ha1161, hm158⟩ := chk_some hm157
  clear hm157
  simp [E59, hT, hlt64, hg76, hc16, hc29, hc117, hc140, hc151]
  refine AppAt.own (f := Ty.av) v57 [x124] (OwnT.other o0_59 o1_59 (by decide) (by decide)) ap23 (by intro x; simp) ha1161 (by first | rfl | simp) (by first | rfl | simp) ?_
  simp [E59, hT, hlt64, hg76, hc16, hc29, hc117, hc140, hc151]
  apply nn130
  apply nn98
  refine hk94 _ _ ⟨(lapp v57 [x124]), (lapp v58 [(llen v57)]), (.loc 59 (fr59.tgen 59 + 1)), (.loc 55 (fr59.tgen 55 + 1)), ?_, ⟨?_, ?_, ?_, ?_, ?_⟩, (OwnT.mono (D := [59]) (OwnT.new (D := [59]) (d := 59) (by decide)) (by decide)), (OwnT.mono (D := [55]) (OwnT.other (OwnT.new (D := [55]) (d := 55) (by decide)) (OwnT.other o0_59 o1_59 (by decide) (by decide)) (by decide) (by decide)) (by decide)), hm158⟩ <;> first | rfl | simp [E59, hT, hlt64, hg76, hc16, hc29, hc117, hc140, hc151]

theorem enters19 : entersB Tryd.prog 19 = true := by kernel_rfl

theorem r_content_Context (T : Tabs) (hT : T 0 = some (AV.agg (List.map (fun n => AV.sc (Value.int .i64 n)) tree_arities))) {H : Heap} {a0 : Sq} {r0 : (List Ty)} {r1 : Int} (hm : content_Context a0 = some (r0, r1)) : ACall Tryd.prog T 19 [Sq.av a0] H (AV.tuple [AV.slice .frz (List.map Ty.av r0), AV.sc (.int .i64 r1)]) H := by
  rw [content_Context] at hm
  refine ACallP.intro (fn := Tryd.f19) Tryd.func19 rfl enters19 (Nat.le_of_ble_eq_true rfl) ?_
  refine AWp.sr [] fun K1 hk2 => ?_
  simp [hT]
  apply hk2
  refine AWp.sr [] fun K3 hk4 => ?_
  obtain ⟨x5, x6, x7, hx8, hm9⟩ := bind3_some hm
  clear hm
  try dsimp only at hm9
  simp [hT]
  refine CallAt.fn (r_content_look T hT hx8) ?_
  simp [hT]
  apply hk4
  refine AWp.sr [] fun K10 hk11 => ?_
  simp [hT]
  apply hk11
  refine AWp.ret ?_
  simp only [Option.some.injEq, Prod.mk.injEq] at hm9
  obtain ⟨rfl, rfl⟩ := hm9
  simp [retQ, hT]

theorem enters21 : entersB Tryd.prog 21 = true := by kernel_rfl

theorem r_content_Places (T : Tabs) (hT : T 0 = some (AV.agg (List.map (fun n => AV.sc (Value.int .i64 n)) tree_arities))) {H : Heap} {a0 : Sq} {r0 : (List Int)} {r1 : Int} (hm : content_Places a0 = some (r0, r1)) : ACall Tryd.prog T 21 [Sq.av a0] H (AV.tuple [AV.slice .frz (List.map (fun n => AV.sc (Value.int .i64 n)) r0), AV.sc (.int .i64 r1)]) H := by
  rw [content_Places] at hm
  refine ACallP.intro (fn := Tryd.f21) Tryd.func21 rfl enters21 (Nat.le_of_ble_eq_true rfl) ?_
  refine AWp.sr [] fun K1 hk2 => ?_
  simp [hT]
  apply hk2
  refine AWp.sr [] fun K3 hk4 => ?_
  obtain ⟨x5, x6, x7, hx8, hm9⟩ := bind3_some hm
  clear hm
  try dsimp only at hm9
  simp [hT]
  refine CallAt.fn (r_content_look T hT hx8) ?_
  simp [hT]
  apply hk4
  refine AWp.sr [] fun K10 hk11 => ?_
  simp [hT]
  apply hk11
  refine AWp.ret ?_
  simp only [Option.some.injEq, Prod.mk.injEq] at hm9
  obtain ⟨rfl, rfl⟩ := hm9
  simp [retQ, hT]

theorem enters33 : entersB Tryd.prog 33 = true := by kernel_rfl

theorem r_ref23_Fun (T : Tabs) {H : Heap} {a0 : Ty} {a1 : Ty} {r0 : Ty} (hm : ref23_Fun a0 a1 = some r0) : ACall Tryd.prog T 33 [Ty.av a0, Ty.av a1] H (Ty.av r0) H := by
  rw [ref23_Fun] at hm
  refine ACallP.intro (fn := Tryd.f33) Tryd.func33 rfl enters33 (Nat.le_of_ble_eq_true rfl) ?_
  refine AWp.sr [] fun K1 hk2 => ?_
  simp
  apply hk2
  refine AWp.sr [] fun K3 hk4 => ?_
  simp
  apply hk4
  refine AWp.ret ?_
  have hf5 : AV.agg [AV.sc (.int .i64 4), AV.slice .frz [Ty.av a0, Ty.av a1]] = Ty.av (Ty.mk 4 [a0, a1]) := by rw [Ty.av_mk]; rfl
  have hf6 : AV.agg [AV.sc (.int .i64 4), AV.slice .frz [Ty.av a0, Ty.av a1]] = Ty.av (Ty.mk 4 [a0, a1]) := by rw [Ty.av_mk]; rfl
  obtain rfl := Option.some.inj hm
  simp [retQ, hf5, hf6]

end Go.Proofs.YtdihelfnjememaaDoor
