/- The program's functions do what the models say. -/
import Derived.Test.YtnabbjnhemmkhaaDoorRR09
import Derived.Test.YtnabbjnhemmkhaaDoorRM
set_option maxRecDepth 20000
set_option maxHeartbeats 4000000
set_option linter.unusedSimpArgs false
set_option linter.unusedVariables false
namespace Go.Proofs.YtnabbjnhemmkhaaDoor
open Go Go.Abs Go.Mdl

theorem enters36 : entersB Tryd.prog 36 = true := by kernel_rfl

theorem rg_law04_inner (T : Tabs) (hT : T 0 = some (AV.agg (List.map (fun n => AV.sc (Value.int .i64 n)) tree_arities))) : ∀ (n : Nat), (∀ {H : Heap} {a0 : Smk_Deck} {a1 : Tm} {r0 : Tm} {r1 : Bool} {do0 : Smk_Deck} {o0 : Nat} (ho0 : H[o0]? = some [AV.slice .frz (List.map (fun n => AV.sc (Value.int .i64 n)) a0.l), AV.sc (.int .i64 a0.atF)]) (hm : law04_inner n a0 a1 = some (r0, r1, do0)), ACall Tryd.prog T 36 [AV.gptr o0 0, Tm.av a1] H (AV.tuple [Tm.av r0, AV.sc (.bool r1)]) (hset H o0 [AV.slice .frz (List.map (fun n => AV.sc (Value.int .i64 n)) do0.l), AV.sc (.int .i64 do0.atF)])) := by
  intro n
  induction n with
  | zero =>
    skip
    all_goals
      intros
      rename_i hm
      cases hm
  | succ n ih =>
    intro H a0 a1 r0 r1 do0 o0 ho0 hm
    rw [law04_inner] at hm
    have lo0 := inb_of_get ho0
    refine ACallP.at1 ho0 ?_
    refine ACallP.intro (fn := Tryd.f36) Tryd.func36 rfl enters36 (Nat.le_of_ble_eq_true rfl) ?_
    refine AWp.sr [] fun K1 hk2 => ?_
    simp [hT, lo0]
    apply hk2
    obtain ⟨j3, hj4, hm5⟩ := joinB_some hm
    clear hm
    refine AWp.seqP (fun fr h => ∃ (v6 : Smk_Deck) (g3_58 : Nat) (g4_58 : Nat), hset H o0 [AV.slice .frz (List.map (fun n => AV.sc (Value.int .i64 n)) v6.l), AV.sc (.int .i64 v6.atF)] = h ∧ (fr.env 0 = AV.gptr o0 0 ∧ fr.env 3 = AV.lptr 3 g3_58 0 ∧ fr.env 4 = AV.lptr 4 g4_58 0 ∧ fr.gen 3 = g3_58 ∧ fr.box 3 = some [AV.sc (.int .i64 a1.kind), AV.sc (.int .i64 a1.index), AV.sc (.int .i64 a1.typeF.kind), AV.slice .frz (List.map Ty.av a1.typeF.args), AV.slice .frz (List.map Tm.av a1.args)] ∧ fr.gen 4 = g4_58 ∧ fr.box 4 = some [AV.sc (.int .i64 0), AV.sc (.int .i64 0), AV.sc (.int .i64 0), AV.slice .full [], AV.slice .full []]) ∧ j3 v6 = some (r0, r1, do0)) (fun K7 hk8 => ?_) ?_
    · refine AWp.sr [] fun K9 hk10 => ?_
      obtain ⟨x11, x12, hx13, hm14⟩ := bind2_some hm5
      clear hm5
      try dsimp only at hm14
      simp [hT, lo0]
      refine CallAt.fn (r_reduce_Redex T hT hx13) ?_
      simp [hT, lo0]
      apply hk10
      obtain ⟨j15, hj16, hm17⟩ := joinB_some hm14
      clear hm14
      refine AWp.seqP (fun fr h => ∃ (v18 : Bool) (v19 : Smk_Deck) (g3_32 : Nat) (g4_32 : Nat), hset H o0 [AV.slice .frz (List.map (fun n => AV.sc (Value.int .i64 n)) v19.l), AV.sc (.int .i64 v19.atF)] = h ∧ (fr.env 0 = AV.gptr o0 0 ∧ fr.env 3 = AV.lptr 3 g3_32 0 ∧ fr.env 4 = AV.lptr 4 g4_32 0 ∧ fr.env 28 = AV.sc (.bool v18) ∧ fr.gen 3 = g3_32 ∧ fr.box 3 = some [AV.sc (.int .i64 a1.kind), AV.sc (.int .i64 a1.index), AV.sc (.int .i64 a1.typeF.kind), AV.slice .frz (List.map Ty.av a1.typeF.args), AV.slice .frz (List.map Tm.av a1.args)] ∧ fr.gen 4 = g4_32 ∧ fr.box 4 = some [AV.sc (.int .i64 0), AV.sc (.int .i64 0), AV.sc (.int .i64 0), AV.slice .full [], AV.slice .full []]) ∧ j15 v18 v19 = some (r0, r1, do0)) (fun K20 hk21 => ?_) ?_
      · refine AWp.region [] (by decide +kernel) ?_
        rcases ite_some hm17 with ⟨hc22, hm23⟩ | ⟨hc22, hm24⟩
        rotate_left
        · clear hm17
          simp [hT, lo0, hc22]
          refine hk21 _ _ ⟨false, a0, 1, 1, ?_, ⟨?_, ?_, ?_, ?_, ?_, ?_, ?_, ?_⟩, hm24⟩ <;> first | rfl | simp [hT, lo0, hc22]
        clear hm17
        rcases ite_some hm23 with ⟨hc25, hm26⟩ | ⟨hc25, hm27⟩
        rotate_left
        · clear hm23
          simp [hT, lo0, hc22, hc25]
          refine hk21 _ _ ⟨false, a0, 1, 1, ?_, ⟨?_, ?_, ?_, ?_, ?_, ?_, ?_, ?_⟩, hm27⟩ <;> first | rfl | simp [hT, lo0, hc22, hc25]
        clear hm23
        obtain ⟨x28, d29, hx30, hm31⟩ := bind2_some hm26
        clear hm26
        try dsimp only at hm31
        simp [hT, lo0, hc22, hc25]
        refine CallAt.fn (r_mk_Deck_Next T (by simp [lo0]) hx30) ?_
        simp [hT, lo0, hc22, hc25]
        refine hk21 _ _ ⟨(ieq x28 0), d29, 1, 1, ?_, ⟨?_, ?_, ?_, ?_, ?_, ?_, ?_, ?_⟩, hm31⟩ <;> first | rfl | simp [hT, lo0, hc22, hc25]
      clear hm17
      rintro fr32 h32 ⟨v18, v19, g3_32, g4_32, rfl, E32, hm33⟩
      subst hj16
      refine AWp.condK fun A34 B35 ga36 gb37 => ?_
      rcases ite_some hm33 with ⟨hc38, hm39⟩ | ⟨hc38, hm40⟩
      rotate_left
      · clear hm33
        simp [E32, hT, lo0, hc38]
        apply gb37
        refine AWp.skip ?_
        refine hk8 _ _ ⟨v19, g3_32, g4_32, ?_, ⟨?_, ?_, ?_, ?_, ?_, ?_, ?_⟩, hm40⟩ <;> first | rfl | simp [E32, hT, lo0, hc38]
      clear hm33
      simp [E32, hT, lo0, hc38]
      apply ga36
      refine AWp.sr [] fun K41 hk42 => ?_
      obtain ⟨x43, x44, hx45, hm46⟩ := bind2_some hm39
      clear hm39
      try dsimp only at hm46
      simp [E32, hT, lo0, hc38]
      refine CallAt.fn (r_reduce_Contract T hT hx45) ?_
      simp [E32, hT, lo0, hc38]
      apply hk42
      refine AWp.sr [] fun K47 hk48 => ?_
      simp [E32, hT, lo0, hc38]
      apply hk48
      refine AWp.condK fun A49 B50 ga51 gb52 => ?_
      rcases ite_some hm46 with ⟨hc53, hm54⟩ | ⟨hc53, hm55⟩
      rotate_left
      · clear hm46
        simp [E32, hT, lo0, hc38, hc53]
        apply gb52
        refine AWp.skip ?_
        refine hk8 _ _ ⟨v19, g3_32, g4_32, ?_, ⟨?_, ?_, ?_, ?_, ?_, ?_, ?_⟩, hm55⟩ <;> first | rfl | simp [E32, hT, lo0, hc38, hc53]
      clear hm46
      simp [E32, hT, lo0, hc38, hc53]
      apply ga51
      refine AWp.sr [] fun K56 hk57 => ?_
      simp [E32, hT, lo0, hc38, hc53]
      apply hk57
      refine AWp.ret ?_
      simp only [Option.some.injEq, Prod.mk.injEq] at hm54
      obtain ⟨rfl, rfl, rfl⟩ := hm54
      simp [retQ, E32, hT, lo0, hc38, hc53]
    clear hm5
    rintro fr58 h58 ⟨v6, g3_58, g4_58, rfl, E58, hm59⟩
    subst hj4
    refine AWp.seqK fun K60 hk61 => ?_
    refine AWp.sr [] fun K62 hk63 => ?_
    obtain ⟨x64, d65, hx66, hm67⟩ := bind2_some hm59
    clear hm59
    try dsimp only at hm67
    simp [E58, hT, lo0]
    refine CallAt.fn (r_mk_Deck_Next T (by simp [lo0]) hx66) ?_
    simp [E58, hT, lo0]
    apply hk63
    obtain ⟨F68, hF69, hm70⟩ := joinB_some hm67
    clear hm67
    try dsimp only at hm70
    obtain ⟨out71, hl72, hmB73⟩ := bind1_some hm70
    clear hm70
    refine AWp.blockK fun Q74 nn75 ne76 nx77 nr78 => ?_
    refine AWp.loopF (fun n79 fr h => ∃ (v80 : Int) (v81 : Smk_Deck) (g3_82 : Nat) (g4_82 : Nat), hset H o0 [AV.slice .frz (List.map (fun n => AV.sc (Value.int .i64 n)) v81.l), AV.sc (.int .i64 v81.atF)] = h ∧ (fr.env 0 = AV.gptr o0 0 ∧ fr.env 3 = AV.lptr 3 g3_82 0 ∧ fr.env 4 = AV.lptr 4 g4_82 0 ∧ fr.env 10 = AV.sc (.int .i64 v80) ∧ fr.gen 3 = g3_82 ∧ fr.box 3 = some [AV.sc (.int .i64 a1.kind), AV.sc (.int .i64 a1.index), AV.sc (.int .i64 a1.typeF.kind), AV.slice .frz (List.map Ty.av a1.typeF.args), AV.slice .frz (List.map Tm.av a1.args)] ∧ fr.gen 4 = g4_82 ∧ fr.box 4 = some [AV.sc (.int .i64 0), AV.sc (.int .i64 0), AV.sc (.int .i64 0), AV.slice .full [], AV.slice .full []]) ∧ loopN F68 n79 (v80, v81) = some out71) FU ?_ ?_
    · refine ⟨x64, d65, g3_58, g4_58, ?_, ⟨?_, ?_, ?_, ?_, ?_, ?_, ?_, ?_⟩, hl72⟩ <;> first | rfl | simp [E58, hT, lo0]
    rintro n79 fr82 h82 ⟨v80, v81, g3_82, g4_82, rfl, E82, hl72⟩ K83 hK84
    rcases n79 with _ | n79
    · rw [loopN_zero] at hl72
      cases hl72
    rw [loopN_succ] at hl72
    obtain ⟨c85, hb86, hk87⟩ := bind1_some hl72
    clear hl72
    rw [hF69] at hb86
    try dsimp only at hb86
    rw [un2_mk] at hb86
    try dsimp only at hb86
    refine AWp.seqK fun K88 hk89 => ?_
    refine AWp.sr [] fun K90 hk91 => ?_
    simp [E82, hT, lo0]
    apply hk91
    refine AWp.condK fun A92 B93 ga94 gb95 => ?_
    rcases ite_some hb86 with ⟨hc96, hm97⟩ | ⟨hc96, hm98⟩
    rotate_left
    · clear hb86
      simp [E82, hT, lo0, hc96]
      apply gb95
      refine AWp.exit ?_
      apply ne76
      obtain rfl := Option.some.inj hm98
      rw [ctlK_brk] at hk87
      obtain rfl := Option.some.inj hk87
      rw [sumK_inl, un2_mk] at hmB73
      try dsimp only at hmB73
      apply hk61
      refine AWp.sr [] fun K99 hk100 => ?_
      simp [E82, hT, lo0, hc96]
      apply hk100
      refine AWp.ret ?_
      simp only [Option.some.injEq, Prod.mk.injEq] at hmB73
      obtain ⟨rfl, rfl, rfl⟩ := hmB73
      simp [retQ, E82, hT, lo0, hc96]
    clear hb86
    simp [E82, hT, lo0, hc96]
    apply ga94
    refine AWp.skip ?_
    apply hk89
    refine AWp.seqK fun K101 hk102 => ?_
    refine AWp.blockK fun Q103 nn104 ne105 nx106 nr107 => ?_
    refine AWp.sr [] fun K108 hk109 => ?_
    obtain ⟨x110, hx111, hm112⟩ := bind1_some hm97
    clear hm97
    try dsimp only at hm112
    obtain ⟨x113, x114, d115, hx116, hm117⟩ := bind3_some hm112
    clear hm112
    try dsimp only at hm117
    simp [E82, hT, lo0, hx111, hc96]
    refine CallAt.fn (ih (by simp [lo0]) hx116) ?_
    simp [E82, hT, lo0, hx111, hc96]
    apply hk109
    refine AWp.sr [] fun K118 hk119 => ?_
    simp [E82, hT, lo0, hx111, hc96]
    apply hk119
    refine AWp.condK fun A120 B121 ga122 gb123 => ?_
    rcases ite_some hm117 with ⟨hc124, hm125⟩ | ⟨hc124, hm126⟩
    rotate_left
    · clear hm117
      simp [E82, hT, lo0, hx111, hc96, hc124]
      apply gb123
      refine AWp.skip ?_
      apply nn104
      apply hk102
      refine AWp.region [] (by decide +kernel) ?_
      simp [E82, hT, lo0, hx111, hc96, hc124]
      obtain rfl := Option.some.inj hm126
      rw [ctlK_next] at hk87
      refine hK84 _ _ n79 (Nat.lt_succ_self _) ⟨(iadd .i64 v80 1), d115, g3_82, g4_82, ?_, ⟨?_, ?_, ?_, ?_, ?_, ?_, ?_, ?_⟩, hk87⟩ <;> first | rfl | simp [E82, hT, lo0, hx111, hc96, hc124]
    clear hm117
    simp [E82, hT, lo0, hx111, hc96, hc124]
    apply ga122
    refine AWp.sr [] fun K127 hk128 => ?_
    simp [E82, hT, lo0, hx111, hc96, hc124]
    apply hk128
    refine AWp.sr [] fun K129 hk130 => ?_
    obtain ⟨ha131, hm132⟩ := chk_some hm125
    clear hm125
    simp [E82, hT, lo0, hx111, hc96, hc124]
    refine AppAt2.newL (f := Tm.av) a1.args ap32 ⟨_, zero34⟩ (by intro x; simp) ha131 (by first | rfl | simp) (by first | rfl | simp) fun cap133 hcap134 => ?_
    simp [E82, hT, lo0, hx111, hc96, hc124]
    apply hk130
    refine AWp.sr [] fun K135 hk136 => ?_
    obtain ⟨x137, hx138, hm139⟩ := bind1_some hm132
    clear hm132
    try dsimp only at hm139
    have hr140 := lget_range hx138
    simp [E82, hT, lo0, hx111, hx138, hr140, hc96, hc124]
    refine StoreE.arr (f := Tm.av) (L := a1.args) (k := ((cap133 - List.length a1.args) * 5)) x113 lay34 (by intro x; simp) (by simp [E82, hT, lo0, hx111, hx138, hr140, hc96, hc124]) (x := x137) (by assumption) (by simp [E82, hT, lo0, hx111, hx138, hr140, hc96, hc124]) (by simp [E82, hT, lo0, hx111, hx138, hr140, hc96, hc124]) (by simp [E82, hT, lo0, hx111, hx138, hr140, hc96, hc124]) ?_
    simp [E82, hT, lo0, hx111, hx138, hr140, hc96, hc124]
    apply hk136
    refine AWp.seqK fun K141 hk142 => ?_
    refine AWp.frzC 13 4 (cs2 := [AV.sc (.int .i64 a1.kind), AV.sc (.int .i64 a1.index), AV.sc (.int .i64 a1.typeF.kind), AV.slice .frz (List.map Ty.av a1.typeF.args), AV.lsl 64 (fr82.gen 64 + 1) (List.length (lset a1.args v80 x113)) cap133]) (f := Tm.av) (L := (lset a1.args v80 x113)) (k := ((cap133 - List.length a1.args) * 5)) (sz := 5) (d := 64) (g := (fr82.gen 64 + 1)) (cap := cap133) (by intro x; simp) (by intro x; simp) (by decide) (by simp [E82, hT, lo0, hx111, hx138, hr140, hc96, hc124]) (by simp [E82, hT, lo0, hx111, hx138, hr140, hc96, hc124]) (by simp [E82, hT, lo0, hx111, hx138, hr140, hc96, hc124]) (by simp [E82, hT, lo0, hx111, hx138, hr140, hc96, hc124]) ?_
    refine AWp.region [] (by decide +kernel) ?_
    simp [E82, hT, lo0, hx111, hx138, hr140, hc96, hc124]
    apply hk142
    refine AWp.ret ?_
    apply nr107
    apply nr78
    obtain rfl := Option.some.inj hm139
    rw [ctlK_ret] at hk87
    obtain rfl := Option.some.inj hk87
    rw [sumK_inr] at hmB73
    try dsimp only at hmB73
    simp only [Option.some.injEq, Prod.mk.injEq] at hmB73
    obtain ⟨rfl, rfl, rfl⟩ := hmB73
    simp [retQ, E82, hT, lo0, hx111, hx138, hr140, hc96, hc124]
theorem r_law04_inner (T : Tabs) (hT : T 0 = some (AV.agg (List.map (fun n => AV.sc (Value.int .i64 n)) tree_arities))) {H : Heap} {a0 : Smk_Deck} {a1 : Tm} {r0 : Tm} {r1 : Bool} {do0 : Smk_Deck} {o0 : Nat} (ho0 : H[o0]? = some [AV.slice .frz (List.map (fun n => AV.sc (Value.int .i64 n)) a0.l), AV.sc (.int .i64 a0.atF)]) {n : Nat} (hm : law04_inner n a0 a1 = some (r0, r1, do0)) : ACall Tryd.prog T 36 [AV.gptr o0 0, Tm.av a1] H (AV.tuple [Tm.av r0, AV.sc (.bool r1)]) (hset H o0 [AV.slice .frz (List.map (fun n => AV.sc (Value.int .i64 n)) do0.l), AV.sc (.int .i64 do0.atF)]) := (rg_law04_inner T hT n) ho0 hm

theorem enters9 : entersB Tryd.prog 9 = true := by kernel_rfl

theorem r_law04_ReduceUnique (T : Tabs) (hT : T 0 = some (AV.agg (List.map (fun n => AV.sc (Value.int .i64 n)) tree_arities))) {a0 : (List Int)} {r0 : Bool} (hm : law04_ReduceUnique a0 = some r0) : ACallP Tryd.prog T 9 [AV.slice .frz (List.map (fun n => AV.sc (Value.int .i64 n)) a0)] [] (fun x _ => x = AV.sc (.bool r0)) := by
  rw [law04_ReduceUnique] at hm
  refine ACallP.intro (fn := Tryd.f9) Tryd.func9 rfl enters9 (Nat.le_of_ble_eq_true rfl) ?_
  refine AWp.sr [] fun K1 hk2 => ?_
  simp [hT]
  apply hk2
  refine AWp.seqK fun K3 hk4 => ?_
  refine AWp.sr [] fun K5 hk6 => ?_
  obtain ⟨x7, hx8, hm9⟩ := bind1_some hm
  clear hm
  try dsimp only at hm9
  simp [hT]
  refine CallAt.fn (r_law04_sane T hT hx8) ?_
  simp [hT]
  apply hk6
  refine AWp.condK fun A10 B11 ga12 gb13 => ?_
  rcases ite_some hm9 with ⟨hc14, hm15⟩ | ⟨hc14, hm16⟩
  rotate_left
  · clear hm9
    simp [hT, hc14]
    apply ga12
    refine AWp.sr [] fun K17 hk18 => ?_
    simp [hT, hc14]
    apply hk18
    refine AWp.ret ?_
    obtain rfl := Option.some.inj hm16
    simp [retQ, hT, hc14]
  clear hm9
  simp [hT, hc14]
  apply gb13
  refine AWp.skip ?_
  apply hk4
  refine AWp.seqK fun K19 hk20 => ?_
  refine AWp.sr [] fun K21 hk22 => ?_
  obtain ⟨x23, hx24, hm25⟩ := bind1_some hm15
  clear hm15
  try dsimp only at hm25
  simp [hT, hc14]
  refine CallAt.fn (r_mk_Few T hx24) ?_
  simp [hT, hc14]
  apply hk22
  refine AWp.condK fun A26 B27 ga28 gb29 => ?_
  rcases ite_some hm25 with ⟨hc30, hm31⟩ | ⟨hc30, hm32⟩
  rotate_left
  · clear hm25
    simp [hT, hc14, hc30]
    apply ga28
    refine AWp.sr [] fun K33 hk34 => ?_
    simp [hT, hc14, hc30]
    apply hk34
    refine AWp.ret ?_
    obtain rfl := Option.some.inj hm32
    simp [retQ, hT, hc14, hc30]
  clear hm25
  simp [hT, hc14, hc30]
  apply gb29
  refine AWp.skip ?_
  apply hk20
  refine AWp.sr [] fun K35 hk36 => ?_
  obtain ⟨x37, hx38, hm39⟩ := bind1_some hm31
  clear hm31
  try dsimp only at hm39
  simp [hT, hc14, hc30]
  refine CallAt.fn (r_mk_New T hx38) ?_
  simp [hT, hc14, hc30]
  apply hk36
  refine AWp.sr [] fun K40 hk41 => ?_
  obtain ⟨x42, d43, hx44, hm45⟩ := bind2_some hm39
  clear hm39
  try dsimp only at hm45
  simp [hT, hc14, hc30]
  refine CallAt.fn (r_mk_Context T (by simp) hx44) ?_
  simp [hT, hc14, hc30]
  apply hk41
  refine AWp.sr [] fun K46 hk47 => ?_
  obtain ⟨x48, d49, hx50, hm51⟩ := bind2_some hm45
  clear hm45
  try dsimp only at hm51
  simp [hT, hc14, hc30]
  refine CallAt.fn (r_mk_Type T (by simp) hx50) ?_
  obtain ⟨x52, d53, hx54, hm55⟩ := bind2_some hm51
  clear hm51
  try dsimp only at hm55
  simp [hT, hc14, hc30]
  refine CallAt.fn (r_mk_Term T (by simp) hx54) ?_
  simp [hT, hc14, hc30]
  apply hk47
  refine AWp.sr [] fun K56 hk57 => ?_
  simp [hT, hc14, hc30]
  apply hk57
  refine AWp.seqK fun K58 hk59 => ?_
  refine AWp.sr [] fun K60 hk61 => ?_
  simp [hT, hc14, hc30]
  apply hk61
  obtain ⟨F62, hF63, hm64⟩ := joinB_some hm55
  clear hm55
  try dsimp only at hm64
  obtain ⟨out65, hl66, hmB67⟩ := bind1_some hm64
  clear hm64
  refine AWp.blockK fun Q68 nn69 ne70 nx71 nr72 => ?_
  refine AWp.loopF (fun n73 fr h => ∃ (v74 : Int) (v75 : Int) (v76 : Int) (v77 : Int) (v78 : (List Ty)) (v79 : (List Tm)) (v80 : Smk_Deck) (g5_81 : Nat) (g6_81 : Nat), hset [[]] 0 [AV.slice .frz (List.map (fun n => AV.sc (Value.int .i64 n)) v80.l), AV.sc (.int .i64 v80.atF)] = h ∧ (fr.env 3 = AV.gptr 0 0 ∧ fr.env 5 = AV.lptr 5 g5_81 0 ∧ fr.env 6 = AV.lptr 6 g6_81 0 ∧ fr.env 29 = AV.sc (.int .i64 v74) ∧ fr.gen 5 = g5_81 ∧ fr.box 5 = some [AV.sc (.int .i64 x52.kind), AV.sc (.int .i64 x52.index), AV.sc (.int .i64 x52.typeF.kind), AV.slice .frz (List.map Ty.av x52.typeF.args), AV.slice .frz (List.map Tm.av x52.args)] ∧ fr.gen 6 = g6_81 ∧ fr.box 6 = some [AV.sc (.int .i64 v75), AV.sc (.int .i64 v76), AV.sc (.int .i64 v77), AV.slice .frz (List.map Ty.av v78), AV.slice .frz (List.map Tm.av v79)]) ∧ loopN F62 n73 (v74, v75, v76, v77, v78, v79, v80) = some out65) FU ?_ ?_
  · refine ⟨0, x52.kind, x52.index, x52.typeF.kind, x52.typeF.args, x52.args, d53, 1, 1, ?_, ⟨?_, ?_, ?_, ?_, ?_, ?_, ?_, ?_⟩, hl66⟩ <;> first | rfl | simp [hT, hc14, hc30]
  rintro n73 fr81 h81 ⟨v74, v75, v76, v77, v78, v79, v80, g5_81, g6_81, rfl, E81, hl66⟩ K82 hK83
  rcases n73 with _ | n73
  · rw [loopN_zero] at hl66
    cases hl66
  rw [loopN_succ] at hl66
  obtain ⟨c84, hb85, hk86⟩ := bind1_some hl66
  clear hl66
  rw [hF63] at hb85
  try dsimp only at hb85
  rw [un7_mk] at hb85
  try dsimp only at hb85
  refine AWp.sr [] fun K87 hk88 => ?_
  simp [E81, hT, hc14, hc30]
  apply hk88
  refine AWp.seqK fun K89 hk90 => ?_
  refine AWp.condK fun A91 B92 ga93 gb94 => ?_
  rcases ite_some hb85 with ⟨hc95, hm96⟩ | ⟨hc95, hm97⟩
  · clear hb85
    simp [E81, hT, hc14, hc30, hc95]
    apply ga93
    refine AWp.skip ?_
    apply hk90
    refine AWp.seqK fun K98 hk99 => ?_
    refine AWp.blockK fun Q100 nn101 ne102 nx103 nr104 => ?_
    refine AWp.region [] (by decide +kernel) ?_
    obtain ⟨x105, x106, d107, hx108, hm109⟩ := bind3_some hm96
    clear hm96
    try dsimp only at hm109
    simp [E81, hT, hc14, hc30, hc95]
    refine CallAt.fn (r_law04_inner T hT (by simp) hx108) ?_
    simp [E81, hT, hc14, hc30, hc95]
    apply nn101
    apply hk99
    refine AWp.region [] (by decide +kernel) ?_
    simp [E81, hT, hc14, hc30, hc95]
    obtain rfl := Option.some.inj hm109
    rw [ctlK_next] at hk86
    refine hK83 _ _ n73 (Nat.lt_succ_self _) ⟨(iadd .i64 v74 1), x105.kind, x105.index, x105.typeF.kind, x105.typeF.args, x105.args, d107, g5_81, g6_81, ?_, ⟨?_, ?_, ?_, ?_, ?_, ?_, ?_, ?_⟩, hk86⟩ <;> first | rfl | simp [E81, hT, hc14, hc30, hc95]
  clear hb85
  simp [E81, hT, hc14, hc30, hc95]
  apply gb94
  refine AWp.exit ?_
  apply ne70
  obtain rfl := Option.some.inj hm97
  rw [ctlK_brk] at hk86
  obtain rfl := Option.some.inj hk86
  rw [sumK_inl, un7_mk] at hmB67
  try dsimp only at hmB67
  apply hk59
  refine AWp.sr [] fun K110 hk111 => ?_
  obtain ⟨x112, x113, x114, hx115, hm116⟩ := bind3_some hmB67
  clear hmB67
  try dsimp only at hm116
  simp [E81, hT, hc14, hc30, hc95]
  refine CallAt.fn (r_reduce_Normal T hT hx115) ?_
  simp [E81, hT, hc14, hc30, hc95]
  apply hk111
  refine AWp.sr [] fun K117 hk118 => ?_
  obtain ⟨x119, x120, x121, hx122, hm123⟩ := bind3_some hm116
  clear hm116
  try dsimp only at hm123
  simp [E81, hT, hc14, hc30, hc95]
  refine CallAt.fn (r_reduce_Normal T hT hx122) ?_
  simp [E81, hT, hc14, hc30, hc95]
  apply hk118
  refine AWp.seqK fun K124 hk125 => ?_
  refine AWp.seqP (fun fr h => ∃ (g5_129 : Nat) (g6_129 : Nat) (g7_129 : Nat) (g10_129 : Nat), hset [[]] 0 [AV.slice .frz (List.map (fun n => AV.sc (Value.int .i64 n)) v80.l), AV.sc (.int .i64 v80.atF)] = h ∧ (fr.env 5 = AV.lptr 5 g5_129 0 ∧ fr.env 6 = AV.lptr 6 g6_129 0 ∧ fr.env 7 = AV.lptr 7 g7_129 0 ∧ fr.env 9 = AV.sc (.int .i64 x114) ∧ fr.env 10 = AV.lptr 10 g10_129 0 ∧ fr.env 12 = AV.sc (.int .i64 x121) ∧ fr.env 55 = AV.sc (.bool (sel (ine x114 0) true (ine x121 0))) ∧ fr.gen 5 = g5_129 ∧ fr.box 5 = some [AV.sc (.int .i64 x52.kind), AV.sc (.int .i64 x52.index), AV.sc (.int .i64 x52.typeF.kind), AV.slice .frz (List.map Ty.av x52.typeF.args), AV.slice .frz (List.map Tm.av x52.args)] ∧ fr.gen 6 = g6_129 ∧ fr.box 6 = some [AV.sc (.int .i64 v75), AV.sc (.int .i64 v76), AV.sc (.int .i64 v77), AV.slice .frz (List.map Ty.av v78), AV.slice .frz (List.map Tm.av v79)] ∧ fr.gen 7 = g7_129 ∧ fr.box 7 = some [AV.sc (.int .i64 x112.kind), AV.sc (.int .i64 x112.index), AV.sc (.int .i64 x112.typeF.kind), AV.slice .frz (List.map Ty.av x112.typeF.args), AV.slice .frz (List.map Tm.av x112.args)] ∧ fr.gen 10 = g10_129 ∧ fr.box 10 = some [AV.sc (.int .i64 x119.kind), AV.sc (.int .i64 x119.index), AV.sc (.int .i64 x119.typeF.kind), AV.slice .frz (List.map Ty.av x119.typeF.args), AV.slice .frz (List.map Tm.av x119.args)])) (fun K126 hk127 => ?_) ?_
  · refine AWp.region [] (by decide +kernel) ?_
    rcases Bool.eq_false_or_eq_true (ine x114 0) with hc128 | hc128
    · simp [E81, hT, hc14, hc30, hc95, hc128]
      refine hk127 _ _ ⟨g5_81, g6_81, (fr81.gen 7 + 1), (fr81.gen 10 + 1), ?_, ⟨?_, ?_, ?_, ?_, ?_, ?_, ?_, ?_, ?_, ?_, ?_, ?_, ?_, ?_, ?_⟩⟩ <;> first | rfl | simp [E81, hT, hc14, hc30, hc95, hc128]
    simp [E81, hT, hc14, hc30, hc95, hc128]
    refine hk127 _ _ ⟨g5_81, g6_81, (fr81.gen 7 + 1), (fr81.gen 10 + 1), ?_, ⟨?_, ?_, ?_, ?_, ?_, ?_, ?_, ?_, ?_, ?_, ?_, ?_, ?_, ?_, ?_⟩⟩ <;> first | rfl | simp [E81, hT, hc14, hc30, hc95, hc128]
  rintro fr129 h129 ⟨g5_129, g6_129, g7_129, g10_129, rfl, E129⟩
  refine AWp.condK fun A130 B131 ga132 gb133 => ?_
  rcases ite_some hm123 with ⟨hc134, hm135⟩ | ⟨hc134, hm136⟩
  rotate_left
  · clear hm123
    simp [E129, hT, hc14, hc30, hc95, hc134]
    apply gb133
    refine AWp.skip ?_
    apply hk125
    refine AWp.sr [] fun K137 hk138 => ?_
    obtain ⟨x139, hx140, hm141⟩ := bind1_some hm136
    clear hm136
    try dsimp only at hm141
    simp [E129, hT, hc14, hc30, hc95, hc134]
    refine CallAt.fn (r_reduce_Match T hT hx140) ?_
    simp [E129, hT, hc14, hc30, hc95, hc134]
    apply hk138
    obtain ⟨j142, hj143, hm144⟩ := joinB_some hm141
    clear hm141
    refine AWp.seqP (fun fr h => ∃ (v145 : Bool), hset [[]] 0 [AV.slice .frz (List.map (fun n => AV.sc (Value.int .i64 n)) v80.l), AV.sc (.int .i64 v80.atF)] = h ∧ fr.env 2 = AV.sc (.bool v145) ∧ j142 v145 = some r0) (fun K146 hk147 => ?_) ?_
    rotate_left
    · clear hm144
      rintro fr148 h148 ⟨v145, rfl, E148, hm149⟩
      subst hj143
      refine AWp.ret ?_
      obtain rfl := Option.some.inj hm149
      simp [retQ, E148, hT, hc14, hc30, hc95, hc134]
    refine AWp.region [] (by decide +kernel) ?_
    obtain ⟨x150, hx151, hm152⟩ := bind1_some hm144
    clear hm144
    try dsimp only at hm152
    simp [E129, hT, hc14, hc30, hc95, hc134]
    refine CallAt.fn (r_ref02_Same T hx151) ?_
    rcases ite_some hm152 with ⟨hc153, hm154⟩ | ⟨hc153, hm155⟩
    rotate_left
    · clear hm152
      simp [E129, hT, hc14, hc30, hc95, hc134, hc153]
      refine hk147 _ _ ⟨false, ?_, ?_, hm155⟩ <;> first | rfl | simp [E129, hT, hc14, hc30, hc95, hc134, hc153]
    clear hm152
    simp [E129, hT, hc14, hc30, hc95, hc134, hc153]
    refine hk147 _ _ ⟨(ieq x139 0), ?_, ?_, hm154⟩ <;> first | rfl | simp [E129, hT, hc14, hc30, hc95, hc134, hc153]
  clear hm123
  simp [E129, hT, hc14, hc30, hc95, hc134]
  apply ga132
  refine AWp.seqP (fun fr h => hset [[]] 0 [AV.slice .frz (List.map (fun n => AV.sc (Value.int .i64 n)) v80.l), AV.sc (.int .i64 v80.atF)] = h ∧ fr.env 2 = AV.sc (.bool (sel (ieq x114 0) (sel (ieq x121 0) true (sel (ieq x121 4) true (ieq x121 5))) (sel (ieq x114 4) (sel (ieq x121 0) true (sel (ieq x121 4) true (ieq x121 5))) (sel (ieq x114 5) (sel (ieq x121 0) true (sel (ieq x121 4) true (ieq x121 5))) false))))) (fun K156 hk157 => ?_) ?_
  rotate_left
  · rintro fr158 h158 ⟨rfl, E158⟩
    refine AWp.ret ?_
    obtain rfl := Option.some.inj hm135
    simp [retQ, E158, hT, hc14, hc30, hc95, hc134]
  refine AWp.region [] (by decide +kernel) ?_
  rcases Bool.eq_false_or_eq_true (ieq x114 0) with hc159 | hc159
  · rcases Bool.eq_false_or_eq_true (ieq x121 0) with hc160 | hc160
    · simp [E129, hT, hc14, hc30, hc95, hc134, hc159, hc160]
      refine hk157 _ _ ⟨?_, ?_⟩ <;> first | rfl | simp [E129, hT, hc14, hc30, hc95, hc134, hc159, hc160]
    rcases Bool.eq_false_or_eq_true (ieq x121 4) with hc161 | hc161
    · simp [E129, hT, hc14, hc30, hc95, hc134, hc159, hc160, hc161]
      refine hk157 _ _ ⟨?_, ?_⟩ <;> first | rfl | simp [E129, hT, hc14, hc30, hc95, hc134, hc159, hc160, hc161]
    simp [E129, hT, hc14, hc30, hc95, hc134, hc159, hc160, hc161]
    refine hk157 _ _ ⟨?_, ?_⟩ <;> first | rfl | simp [E129, hT, hc14, hc30, hc95, hc134, hc159, hc160, hc161]
  rcases Bool.eq_false_or_eq_true (ieq x114 4) with hc162 | hc162
  · rcases Bool.eq_false_or_eq_true (ieq x121 0) with hc163 | hc163
    · simp [E129, hT, hc14, hc30, hc95, hc134, hc159, hc162, hc163]
      refine hk157 _ _ ⟨?_, ?_⟩ <;> first | rfl | simp [E129, hT, hc14, hc30, hc95, hc134, hc159, hc162, hc163]
    rcases Bool.eq_false_or_eq_true (ieq x121 4) with hc164 | hc164
    · simp [E129, hT, hc14, hc30, hc95, hc134, hc159, hc162, hc163, hc164]
      refine hk157 _ _ ⟨?_, ?_⟩ <;> first | rfl | simp [E129, hT, hc14, hc30, hc95, hc134, hc159, hc162, hc163, hc164]
    simp [E129, hT, hc14, hc30, hc95, hc134, hc159, hc162, hc163, hc164]
    refine hk157 _ _ ⟨?_, ?_⟩ <;> first | rfl | simp [E129, hT, hc14, hc30, hc95, hc134, hc159, hc162, hc163, hc164]
  rcases Bool.eq_false_or_eq_true (ieq x114 5) with hc165 | hc165
  rotate_left
  · simp [E129, hT, hc14, hc30, hc95, hc134, hc159, hc162, hc165]
    refine hk157 _ _ ⟨?_, ?_⟩ <;> first | rfl | simp [E129, hT, hc14, hc30, hc95, hc134, hc159, hc162, hc165]
  rcases Bool.eq_false_or_eq_true (ieq x121 0) with hc166 | hc166
  · simp [E129, hT, hc14, hc30, hc95, hc134, hc159, hc162, hc165, hc166]
    refine hk157 _ _ ⟨?_, ?_⟩ <;> first | rfl | simp [E129, hT, hc14, hc30, hc95, hc134, hc159, hc162, hc165, hc166]
  rcases Bool.eq_false_or_eq_true (ieq x121 4) with hc167 | hc167
  · simp [E129, hT, hc14, hc30, hc95, hc134, hc159, hc162, hc165, hc166, hc167]
    refine hk157 _ _ ⟨?_, ?_⟩ <;> first | rfl | simp [E129, hT, hc14, hc30, hc95, hc134, hc159, hc162, hc165, hc166, hc167]
  simp [E129, hT, hc14, hc30, hc95, hc134, hc159, hc162, hc165, hc166, hc167]
  refine hk157 _ _ ⟨?_, ?_⟩ <;> first | rfl | simp [E129, hT, hc14, hc30, hc95, hc134, hc159, hc162, hc165, hc166, hc167]

end Go.Proofs.YtnabbjnhemmkhaaDoor
