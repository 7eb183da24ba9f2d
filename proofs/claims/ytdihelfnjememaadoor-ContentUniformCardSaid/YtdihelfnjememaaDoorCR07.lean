/- The program's functions do what the models say. -/
import Derived.Test.YtdihelfnjememaaDoorCR06
import Derived.Test.YtdihelfnjememaaDoorCM
set_option maxRecDepth 20000
set_option maxHeartbeats 4000000
set_option linter.unusedSimpArgs false
set_option linter.unusedVariables false
namespace Go.Proofs.YtdihelfnjememaaDoor
open Go Go.Abs Go.Mdl

theorem enters60 : entersB Tryd.prog 60 = true := by kernel_rfl

theorem rg_ref02_Count (T : Tabs) : ∀ (n : Nat), (∀ {H : Heap} {a0 : Tm} {r0 : Int} (hm : ref02_Count n a0 = some r0), ACall Tryd.prog T 60 [Tm.av a0] H (AV.sc (.int .i64 r0)) H) := by
  intro n
  induction n with
  | zero =>
    skip
    all_goals
      intros
      rename_i hm
      cases hm
  | succ n ih =>
    intro H a0 r0 hm
    rw [ref02_Count] at hm
    refine ACallP.intro (fn := Tryd.f60) Tryd.func60 rfl enters60 (Nat.le_of_ble_eq_true rfl) ?_
    refine AWp.sr [] fun K1 hk2 => ?_
    simp
    apply hk2
    refine AWp.sr [] fun K3 hk4 => ?_
    simp
    apply hk4
    refine AWp.seqK fun K5 hk6 => ?_
    refine AWp.sr [] fun K7 hk8 => ?_
    simp
    apply hk8
    obtain ⟨hok9, hm10⟩ := chk_some hm
    clear hm
    obtain ⟨F11, hF12, hm13⟩ := joinB_some hm10
    clear hm10
    try dsimp only at hm13
    obtain ⟨out14, hl15, hmB16⟩ := bind1_some hm13
    clear hm13
    refine AWp.blockK fun Q17 nn18 ne19 nx20 nr21 => ?_
    refine AWp.loopF (fun n22 fr h => ∃ (i23 : Nat) (j24 : Int) (v25 : Int), H = h ∧ (fr.env 3 = AV.sc (.int .i64 v25) ∧ fr.env 7 = AV.slice .frz (List.map Tm.av a0.args) ∧ fr.env 8 = AV.sc (.int .i64 (llen a0.args)) ∧ fr.env 9 = AV.sc (.int .i64 j24)) ∧ j24 = (i23 : Int) ∧ i23 + n22 = List.length a0.args ∧ forR F11 (List.drop i23 a0.args) i23 v25 = some out14) (List.length a0.args) ?_ ?_
    · refine ⟨0, 0, 1, ?_, ⟨?_, ?_, ?_, ?_⟩, rfl, (by simp), hl15⟩ <;> first | rfl | simp
    rintro n22 fr26 h26 ⟨i23, j24, v25, rfl, E26, hj27, hi28, hl15⟩ K29 hK30
    rcases n22 with _ | n22
    · have hlt31 := ilt_notJ (l := a0.args) hj27 (by omega)
      refine AWp.sr [] fun K32 hk33 => ?_
      simp [E26, hlt31]
      apply hk33
      refine AWp.seqK fun K34 hk35 => ?_
      refine AWp.condK fun A36 B37 ga38 gb39 => ?_
      simp [E26, hlt31]
      apply gb39
      refine AWp.exit ?_
      apply ne19
      rw [List.drop_eq_nil_of_le (by omega), forR_nil] at hl15
      obtain rfl := Option.some.inj hl15
      rw [sumK_inl] at hmB16
      try dsimp only at hmB16
      apply hk6
      refine AWp.sr [] fun K40 hk41 => ?_
      simp [E26, hlt31]
      apply hk41
      refine AWp.ret ?_
      obtain rfl := Option.some.inj hmB16
      simp [retQ, E26, hlt31]
    have hlt31 := ilt_ofJ (l := a0.args) hj27 (by omega)
    obtain ⟨x42, hdn22, hg43⟩ := drop_ltJ (l := a0.args) hj27 (by omega)
    rw [hdn22, forR_cons] at hl15
    obtain ⟨c44, hb45, hk46⟩ := bind1_some hl15
    clear hl15
    rw [hF12, ← hj27] at hb45
    try dsimp only at hb45
    refine AWp.sr [] fun K47 hk48 => ?_
    simp [E26, hlt31, hg43]
    apply hk48
    refine AWp.seqK fun K49 hk50 => ?_
    refine AWp.condK fun A51 B52 ga53 gb54 => ?_
    simp [E26, hlt31, hg43]
    apply ga53
    refine AWp.skip ?_
    apply hk50
    refine AWp.seqK fun K55 hk56 => ?_
    refine AWp.blockK fun Q57 nn58 ne59 nx60 nr61 => ?_
    refine AWp.sr [] fun K62 hk63 => ?_
    simp [E26, hlt31, hg43]
    apply hk63
    refine AWp.region [] (by decide +kernel) ?_
    obtain ⟨x64, hx65, hm66⟩ := bind1_some hb45
    clear hb45
    try dsimp only at hm66
    simp [E26, hlt31, hg43]
    refine CallAt.fn (ih hx65) ?_
    simp [E26, hlt31, hg43]
    apply nn58
    apply hk56
    refine AWp.region [] (by decide +kernel) ?_
    simp [E26, hlt31, hg43]
    obtain rfl := Option.some.inj hm66
    rw [ctlK_next] at hk46
    refine hK30 _ _ n22 (Nat.lt_succ_self _) ⟨(i23 + 1), (iadd .i64 j24 1), (iadd .i64 v25 x64), ?_, ⟨?_, ?_, ?_, ?_⟩, (iadd_idxJ hj27 (by omega) hok9), (by omega), hk46⟩ <;> first | rfl | simp [E26, hlt31, hg43]
theorem r_ref02_Count (T : Tabs) {H : Heap} {a0 : Tm} {r0 : Int} {n : Nat} (hm : ref02_Count n a0 = some r0) : ACall Tryd.prog T 60 [Tm.av a0] H (AV.sc (.int .i64 r0)) H := (rg_ref02_Count T n) hm

theorem enters58 : entersB Tryd.prog 58 = true := by kernel_rfl

theorem rg_ref07_Count (T : Tabs) : ∀ (n : Nat), (∀ {H : Heap} {a0 : Fm} {r0 : Int} (hm : ref07_Count n a0 = some r0), ACall Tryd.prog T 58 [Fm.av a0] H (AV.sc (.int .i64 r0)) H) := by
  intro n
  induction n with
  | zero =>
    skip
    all_goals
      intros
      rename_i hm
      cases hm
  | succ n ih =>
    intro H a0 r0 hm
    rw [ref07_Count] at hm
    refine ACallP.intro (fn := Tryd.f58) Tryd.func58 rfl enters58 (Nat.le_of_ble_eq_true rfl) ?_
    refine AWp.sr [] fun K1 hk2 => ?_
    simp
    apply hk2
    refine AWp.sr [] fun K3 hk4 => ?_
    simp
    apply hk4
    refine AWp.seqK fun K5 hk6 => ?_
    refine AWp.sr [] fun K7 hk8 => ?_
    simp
    apply hk8
    obtain ⟨hok9, hm10⟩ := chk_some hm
    clear hm
    obtain ⟨F11, hF12, hm13⟩ := joinB_some hm10
    clear hm10
    try dsimp only at hm13
    obtain ⟨out14, hl15, hmB16⟩ := bind1_some hm13
    clear hm13
    refine AWp.blockK fun Q17 nn18 ne19 nx20 nr21 => ?_
    refine AWp.loopF (fun n22 fr h => ∃ (i23 : Nat) (j24 : Int) (v25 : Int) (g1_26 : Nat), H = h ∧ (fr.env 1 = AV.lptr 1 g1_26 0 ∧ fr.env 3 = AV.sc (.int .i64 v25) ∧ fr.env 9 = AV.slice .frz (List.map Tm.av a0.terms) ∧ fr.env 10 = AV.sc (.int .i64 (llen a0.terms)) ∧ fr.env 11 = AV.sc (.int .i64 j24) ∧ fr.gen 1 = g1_26 ∧ fr.box 1 = some [AV.sc (.int .i64 a0.kind), AV.sc (.int .i64 a0.typeF.kind), AV.slice .frz (List.map Ty.av a0.typeF.args), AV.slice .frz (List.map Tm.av a0.terms), AV.slice .frz (List.map Fm.av a0.args)]) ∧ j24 = (i23 : Int) ∧ i23 + n22 = List.length a0.terms ∧ forR F11 (List.drop i23 a0.terms) i23 v25 = some out14) (List.length a0.terms) ?_ ?_
    · refine ⟨0, 0, 1, 1, ?_, ⟨?_, ?_, ?_, ?_, ?_, ?_, ?_⟩, rfl, (by simp), hl15⟩ <;> first | rfl | simp
    rintro n22 fr26 h26 ⟨i23, j24, v25, g1_26, rfl, E26, hj27, hi28, hl15⟩ K29 hK30
    rcases n22 with _ | n22
    rotate_left
    · have hlt31 := ilt_ofJ (l := a0.terms) hj27 (by omega)
      obtain ⟨x32, hdn22, hg33⟩ := drop_ltJ (l := a0.terms) hj27 (by omega)
      rw [hdn22, forR_cons] at hl15
      obtain ⟨c34, hb35, hk36⟩ := bind1_some hl15
      clear hl15
      rw [hF12, ← hj27] at hb35
      try dsimp only at hb35
      refine AWp.sr [] fun K37 hk38 => ?_
      simp [E26, hlt31, hg33]
      apply hk38
      refine AWp.seqK fun K39 hk40 => ?_
      refine AWp.condK fun A41 B42 ga43 gb44 => ?_
      simp [E26, hlt31, hg33]
      apply ga43
      refine AWp.skip ?_
      apply hk40
      refine AWp.seqK fun K45 hk46 => ?_
      refine AWp.blockK fun Q47 nn48 ne49 nx50 nr51 => ?_
      refine AWp.sr [] fun K52 hk53 => ?_
      simp [E26, hlt31, hg33]
      apply hk53
      refine AWp.region [] (by decide +kernel) ?_
      obtain ⟨x54, hx55, hm56⟩ := bind1_some hb35
      clear hb35
      try dsimp only at hm56
      simp [E26, hlt31, hg33]
      refine CallAt.fn (r_ref02_Count T hx55) ?_
      simp [E26, hlt31, hg33]
      apply nn48
      apply hk46
      refine AWp.region [] (by decide +kernel) ?_
      simp [E26, hlt31, hg33]
      obtain rfl := Option.some.inj hm56
      rw [ctlK_next] at hk36
      refine hK30 _ _ n22 (Nat.lt_succ_self _) ⟨(i23 + 1), (iadd .i64 j24 1), (iadd .i64 v25 x54), g1_26, ?_, ⟨?_, ?_, ?_, ?_, ?_, ?_, ?_⟩, (iadd_idxJ hj27 (by omega) hok9), (by omega), hk36⟩ <;> first | rfl | simp [E26, hlt31, hg33]
    have hlt31 := ilt_notJ (l := a0.terms) hj27 (by omega)
    refine AWp.sr [] fun K57 hk58 => ?_
    simp [E26, hlt31]
    apply hk58
    refine AWp.seqK fun K59 hk60 => ?_
    refine AWp.condK fun A61 B62 ga63 gb64 => ?_
    simp [E26, hlt31]
    apply gb64
    refine AWp.exit ?_
    apply ne19
    rw [List.drop_eq_nil_of_le (by omega), forR_nil] at hl15
    obtain rfl := Option.some.inj hl15
    rw [sumK_inl] at hmB16
    try dsimp only at hmB16
    apply hk6
    refine AWp.seqK fun K65 hk66 => ?_
    refine AWp.sr [] fun K67 hk68 => ?_
    simp [E26, hlt31]
    apply hk68
    obtain ⟨hok69, hm70⟩ := chk_some hmB16
    clear hmB16
    obtain ⟨F71, hF72, hm73⟩ := joinB_some hm70
    clear hm70
    try dsimp only at hm73
    obtain ⟨out74, hl75, hmB76⟩ := bind1_some hm73
    clear hm73
    refine AWp.blockK fun Q77 nn78 ne79 nx80 nr81 => ?_
    refine AWp.loopF (fun n82 fr h => ∃ (i83 : Nat) (j84 : Int) (v85 : Int), H = h ∧ (fr.env 3 = AV.sc (.int .i64 v85) ∧ fr.env 21 = AV.slice .frz (List.map Fm.av a0.args) ∧ fr.env 22 = AV.sc (.int .i64 (llen a0.args)) ∧ fr.env 23 = AV.sc (.int .i64 j84)) ∧ j84 = (i83 : Int) ∧ i83 + n82 = List.length a0.args ∧ forR F71 (List.drop i83 a0.args) i83 v85 = some out74) (List.length a0.args) ?_ ?_
    · refine ⟨0, 0, v25, ?_, ⟨?_, ?_, ?_, ?_⟩, rfl, (by simp), hl75⟩ <;> first | rfl | simp [E26, hlt31]
    rintro n82 fr86 h86 ⟨i83, j84, v85, rfl, E86, hj87, hi88, hl75⟩ K89 hK90
    rcases n82 with _ | n82
    · have hlt91 := ilt_notJ (l := a0.args) hj87 (by omega)
      refine AWp.sr [] fun K92 hk93 => ?_
      simp [E86, hlt31, hlt91]
      apply hk93
      refine AWp.seqK fun K94 hk95 => ?_
      refine AWp.condK fun A96 B97 ga98 gb99 => ?_
      simp [E86, hlt31, hlt91]
      apply gb99
      refine AWp.exit ?_
      apply ne79
      rw [List.drop_eq_nil_of_le (by omega), forR_nil] at hl75
      obtain rfl := Option.some.inj hl75
      rw [sumK_inl] at hmB76
      try dsimp only at hmB76
      apply hk66
      refine AWp.sr [] fun K100 hk101 => ?_
      simp [E86, hlt31, hlt91]
      apply hk101
      refine AWp.ret ?_
      obtain rfl := Option.some.inj hmB76
      simp [retQ, E86, hlt31, hlt91]
    have hlt91 := ilt_ofJ (l := a0.args) hj87 (by omega)
    obtain ⟨x102, hdn82, hg103⟩ := drop_ltJ (l := a0.args) hj87 (by omega)
    rw [hdn82, forR_cons] at hl75
    obtain ⟨c104, hb105, hk106⟩ := bind1_some hl75
    clear hl75
    rw [hF72, ← hj87] at hb105
    try dsimp only at hb105
    refine AWp.sr [] fun K107 hk108 => ?_
    simp [E86, hlt31, hlt91, hg103]
    apply hk108
    refine AWp.seqK fun K109 hk110 => ?_
    refine AWp.condK fun A111 B112 ga113 gb114 => ?_
    simp [E86, hlt31, hlt91, hg103]
    apply ga113
    refine AWp.skip ?_
    apply hk110
    refine AWp.seqK fun K115 hk116 => ?_
    refine AWp.blockK fun Q117 nn118 ne119 nx120 nr121 => ?_
    refine AWp.sr [] fun K122 hk123 => ?_
    simp [E86, hlt31, hlt91, hg103]
    apply hk123
    refine AWp.region [] (by decide +kernel) ?_
    obtain ⟨x124, hx125, hm126⟩ := bind1_some hb105
    clear hb105
    try dsimp only at hm126
    simp [E86, hlt31, hlt91, hg103]
    refine CallAt.fn (ih hx125) ?_
    simp [E86, hlt31, hlt91, hg103]
    apply nn118
    apply hk116
    refine AWp.region [] (by decide +kernel) ?_
    simp [E86, hlt31, hlt91, hg103]
    obtain rfl := Option.some.inj hm126
    rw [ctlK_next] at hk106
    refine hK90 _ _ n82 (Nat.lt_succ_self _) ⟨(i83 + 1), (iadd .i64 j84 1), (iadd .i64 v85 x124), ?_, ⟨?_, ?_, ?_, ?_⟩, (iadd_idxJ hj87 (by omega) hok69), (by omega), hk106⟩ <;> first | rfl | simp [E86, hlt31, hlt91, hg103]
theorem r_ref07_Count (T : Tabs) {H : Heap} {a0 : Fm} {r0 : Int} {n : Nat} (hm : ref07_Count n a0 = some r0) : ACall Tryd.prog T 58 [Fm.av a0] H (AV.sc (.int .i64 r0)) H := (rg_ref07_Count T n) hm

theorem enters46 : entersB Tryd.prog 46 = true := by kernel_rfl

theorem r_ref07_Check (T : Tabs) {H : Heap} {a0 : Fm} {r0 : Int} (hm : ref07_Check a0 = some r0) : ACall Tryd.prog T 46 [Fm.av a0] H (AV.sc (.int .i64 r0)) H := by
  rw [ref07_Check] at hm
  refine ACallP.intro (fn := Tryd.f46) Tryd.func46 rfl enters46 (Nat.le_of_ble_eq_true rfl) ?_
  refine AWp.sr [] fun K1 hk2 => ?_
  simp
  apply hk2
  refine AWp.seqK fun K3 hk4 => ?_
  refine AWp.sr [] fun K5 hk6 => ?_
  obtain ⟨x7, hx8, hm9⟩ := bind1_some hm
  clear hm
  try dsimp only at hm9
  simp
  refine CallAt.fn (r_ref07_Shape T hx8) ?_
  simp
  apply hk6
  refine AWp.condK fun A10 B11 ga12 gb13 => ?_
  rcases ite_some hm9 with ⟨hc14, hm15⟩ | ⟨hc14, hm16⟩
  rotate_left
  · clear hm9
    simp [hc14]
    apply ga12
    refine AWp.sr [] fun K17 hk18 => ?_
    simp [hc14]
    apply hk18
    refine AWp.ret ?_
    obtain rfl := Option.some.inj hm16
    simp [retQ, hc14]
  clear hm9
  simp [hc14]
  apply gb13
  refine AWp.skip ?_
  apply hk4
  refine AWp.seqK fun K19 hk20 => ?_
  refine AWp.sr [] fun K21 hk22 => ?_
  obtain ⟨x23, hx24, hm25⟩ := bind1_some hm15
  clear hm15
  try dsimp only at hm25
  simp [hc14]
  refine CallAt.fn (r_ref07_Count T hx24) ?_
  simp [hc14]
  apply hk22
  refine AWp.condK fun A26 B27 ga28 gb29 => ?_
  rcases ite_some hm25 with ⟨hc30, hm31⟩ | ⟨hc30, hm32⟩
  · clear hm25
    simp [hc14, hc30]
    apply ga28
    refine AWp.sr [] fun K33 hk34 => ?_
    simp [hc14, hc30]
    apply hk34
    refine AWp.ret ?_
    obtain rfl := Option.some.inj hm31
    simp [retQ, hc14, hc30]
  clear hm25
  simp [hc14, hc30]
  apply gb29
  refine AWp.skip ?_
  apply hk20
  refine AWp.sr [] fun K35 hk36 => ?_
  simp [hc14, hc30]
  apply hk36
  refine AWp.ret ?_
  obtain rfl := Option.some.inj hm32
  simp [retQ, hc14, hc30]

theorem enters71 : entersB Tryd.prog 71 = true := by kernel_rfl

theorem rg_ref08_content (T : Tabs) : ∀ (n : Nat), (∀ {H : Heap} {a0 : Fm} {r0 : Bool} (hm : ref08_content n a0 = some r0), ACall Tryd.prog T 71 [Fm.av a0] H (AV.sc (.bool r0)) H) := by
  intro n
  induction n with
  | zero =>
    skip
    all_goals
      intros
      rename_i hm
      cases hm
  | succ n ih =>
    intro H a0 r0 hm
    rw [ref08_content] at hm
    refine ACallP.intro (fn := Tryd.f71) Tryd.func71 rfl enters71 (Nat.le_of_ble_eq_true rfl) ?_
    refine AWp.sr [] fun K1 hk2 => ?_
    simp
    apply hk2
    refine AWp.seqK fun K3 hk4 => ?_
    refine AWp.sr [] fun K5 hk6 => ?_
    simp
    apply hk6
    refine AWp.blockK fun Q7 nn8 ne9 nx10 nr11 => ?_
    refine AWp.sr [] fun K12 hk13 => ?_
    simp
    apply hk13
    refine AWp.condK fun A14 B15 ga16 gb17 => ?_
    rcases ite_some hm with ⟨hc18, hm19⟩ | ⟨hc18, hm20⟩
    · clear hm
      simp [hc18]
      apply ga16
      refine AWp.sr [] fun K21 hk22 => ?_
      simp [hc18]
      apply hk22
      refine AWp.ret ?_
      apply nr11
      obtain rfl := Option.some.inj hm19
      simp [retQ, hc18]
    clear hm
    simp [hc18]
    apply gb17
    refine AWp.sr [] fun K23 hk24 => ?_
    simp [hc18]
    apply hk24
    refine AWp.condK fun A25 B26 ga27 gb28 => ?_
    rcases ite_some hm20 with ⟨hc29, hm30⟩ | ⟨hc29, hm31⟩
    rotate_left
    · clear hm20
      simp [hc18, hc29]
      apply gb28
      refine AWp.sr [] fun K32 hk33 => ?_
      simp [hc18, hc29]
      apply hk33
      refine AWp.condK fun A34 B35 ga36 gb37 => ?_
      rcases ite_some hm31 with ⟨hc38, hm39⟩ | ⟨hc38, hm40⟩
      · clear hm31
        simp [hc18, hc29, hc38]
        apply ga36
        refine AWp.sr [] fun K41 hk42 => ?_
        simp [hc18, hc29, hc38]
        apply hk42
        refine AWp.ret ?_
        apply nr11
        obtain rfl := Option.some.inj hm39
        simp [retQ, hc18, hc29, hc38]
      clear hm31
      simp [hc18, hc29, hc38]
      apply gb37
      refine AWp.skip ?_
      apply nn8
      apply hk4
      refine AWp.sr [] fun K43 hk44 => ?_
      obtain ⟨x45, hx46, hm47⟩ := bind1_some hm40
      clear hm40
      try dsimp only at hm47
      obtain ⟨x48, hx49, hm50⟩ := bind1_some hm47
      clear hm47
      try dsimp only at hm50
      simp [hx46, hc18, hc29, hc38]
      refine CallAt.fn (ih hx49) ?_
      simp [hx46, hc18, hc29, hc38]
      apply hk44
      refine AWp.ret ?_
      obtain rfl := Option.some.inj hm50
      simp [retQ, hx46, hc18, hc29, hc38]
    clear hm20
    simp [hc18, hc29]
    apply ga27
    obtain ⟨j51, hj52, hm53⟩ := joinB_some hm30
    clear hm30
    refine AWp.seqP (fun fr h => ∃ (v54 : Bool), H = h ∧ fr.env 2 = AV.sc (.bool v54) ∧ j51 v54 = some r0) (fun K55 hk56 => ?_) ?_
    rotate_left
    · clear hm53
      rintro fr57 h57 ⟨v54, rfl, E57, hm58⟩
      subst hj52
      refine AWp.ret ?_
      apply nr11
      obtain rfl := Option.some.inj hm58
      simp [retQ, E57, hc18, hc29]
    refine AWp.region [] (by decide +kernel) ?_
    obtain ⟨x59, hx60, hm61⟩ := bind1_some hm53
    clear hm53
    try dsimp only at hm61
    obtain ⟨x62, hx63, hm64⟩ := bind1_some hm61
    clear hm61
    try dsimp only at hm64
    simp [hx60, hc18, hc29]
    refine CallAt.fn (ih hx63) ?_
    rcases ite_some hm64 with ⟨hc65, hm66⟩ | ⟨hc65, hm67⟩
    · clear hm64
      simp [hx60, hc18, hc29, hc65]
      refine hk56 _ _ ⟨true, ?_, ?_, hm66⟩ <;> first | rfl | simp [hx60, hc18, hc29, hc65]
    clear hm64
    obtain ⟨x68, hx69, hm70⟩ := bind1_some hm67
    clear hm67
    try dsimp only at hm70
    obtain ⟨x71, hx72, hm73⟩ := bind1_some hm70
    clear hm70
    try dsimp only at hm73
    simp [hx60, hx69, hc18, hc29, hc65]
    refine CallAt.fn (ih hx72) ?_
    simp [hx60, hx69, hc18, hc29, hc65]
    refine hk56 _ _ ⟨x71, ?_, ?_, hm73⟩ <;> first | rfl | simp [hx60, hx69, hc18, hc29, hc65]
theorem r_ref08_content (T : Tabs) {H : Heap} {a0 : Fm} {r0 : Bool} {n : Nat} (hm : ref08_content n a0 = some r0) : ACall Tryd.prog T 71 [Fm.av a0] H (AV.sc (.bool r0)) H := (rg_ref08_content T n) hm

theorem enters31 : entersB Tryd.prog 31 = true := by kernel_rfl

theorem r_ref08_Content (T : Tabs) {H : Heap} {a0 : Fm} {r0 : Bool} {r1 : Int} (hm : ref08_Content a0 = some (r0, r1)) : ACall Tryd.prog T 31 [Fm.av a0] H (AV.tuple [AV.sc (.bool r0), AV.sc (.int .i64 r1)]) H := by
  rw [ref08_Content] at hm
  refine ACallP.intro (fn := Tryd.f31) Tryd.func31 rfl enters31 (Nat.le_of_ble_eq_true rfl) ?_
  refine AWp.sr [] fun K1 hk2 => ?_
  simp
  apply hk2
  refine AWp.seqK fun K3 hk4 => ?_
  refine AWp.sr [] fun K5 hk6 => ?_
  obtain ⟨x7, hx8, hm9⟩ := bind1_some hm
  clear hm
  try dsimp only at hm9
  simp
  refine CallAt.fn (r_ref07_Check T hx8) ?_
  simp
  apply hk6
  refine AWp.sr [] fun K10 hk11 => ?_
  simp
  apply hk11
  refine AWp.condK fun A12 B13 ga14 gb15 => ?_
  rcases ite_some hm9 with ⟨hc16, hm17⟩ | ⟨hc16, hm18⟩
  · clear hm9
    simp [hc16]
    apply ga14
    refine AWp.sr [] fun K19 hk20 => ?_
    simp [hc16]
    apply hk20
    refine AWp.ret ?_
    simp only [Option.some.injEq, Prod.mk.injEq] at hm17
    obtain ⟨rfl, rfl⟩ := hm17
    simp [retQ, hc16]
  clear hm9
  simp [hc16]
  apply gb15
  refine AWp.skip ?_
  apply hk4
  refine AWp.sr [] fun K21 hk22 => ?_
  obtain ⟨x23, hx24, hm25⟩ := bind1_some hm18
  clear hm18
  try dsimp only at hm25
  simp [hc16]
  refine CallAt.fn (r_ref08_content T hx24) ?_
  simp [hc16]
  apply hk22
  refine AWp.ret ?_
  simp only [Option.some.injEq, Prod.mk.injEq] at hm25
  obtain ⟨rfl, rfl⟩ := hm25
  simp [retQ, hc16]

theorem enters50 : entersB Tryd.prog 50 = true := by kernel_rfl

theorem r_ref23_Has (T : Tabs) {H : Heap} {a0 : Fm} {r0 : Bool} (hm : ref23_Has a0 = some r0) : ACall Tryd.prog T 50 [Fm.av a0] H (AV.sc (.bool r0)) H := by
  rw [ref23_Has] at hm
  refine ACallP.intro (fn := Tryd.f50) Tryd.func50 rfl enters50 (Nat.le_of_ble_eq_true rfl) ?_
  refine AWp.sr [] fun K1 hk2 => ?_
  simp
  apply hk2
  refine AWp.sr [] fun K3 hk4 => ?_
  obtain ⟨x5, x6, hx7, hm8⟩ := bind2_some hm
  clear hm
  try dsimp only at hm8
  simp
  refine CallAt.fn (r_ref08_Content T hx7) ?_
  simp
  apply hk4
  refine AWp.sr [] fun K9 hk10 => ?_
  simp
  apply hk10
  refine AWp.ret ?_
  obtain rfl := Option.some.inj hm8
  simp [retQ]

theorem enters82 : entersB Tryd.prog 82 = true := by kernel_rfl

theorem r_ref23_Unit (T : Tabs) {H : Heap}  {r0 : Ty} (hm : ref23_Unit = some r0) : ACall Tryd.prog T 82 [] H (Ty.av r0) H := by
  rw [ref23_Unit] at hm
  refine ACallP.intro (fn := Tryd.f82) Tryd.func82 rfl enters82 (Nat.le_of_ble_eq_true rfl) ?_
  refine AWp.sr [] fun K1 hk2 => ?_
  simp
  apply hk2
  refine AWp.sr [] fun K3 hk4 => ?_
  simp
  apply hk4
  refine AWp.ret ?_
  obtain rfl := Option.some.inj hm
  simp [retQ]

theorem enters35 : entersB Tryd.prog 35 = true := by kernel_rfl

theorem r_ref23_Pair (T : Tabs) {H : Heap} {a0 : Ty} {a1 : Ty} {r0 : Ty} (hm : ref23_Pair a0 a1 = some r0) : ACall Tryd.prog T 35 [Ty.av a0, Ty.av a1] H (Ty.av r0) H := by
  rw [ref23_Pair] at hm
  refine ACallP.intro (fn := Tryd.f35) Tryd.func35 rfl enters35 (Nat.le_of_ble_eq_true rfl) ?_
  refine AWp.sr [] fun K1 hk2 => ?_
  simp
  apply hk2
  refine AWp.sr [] fun K3 hk4 => ?_
  simp
  apply hk4
  refine AWp.ret ?_
  have hf5 : AV.agg [AV.sc (.int .i64 3), AV.slice .frz [Ty.av a0, Ty.av a1]] = Ty.av (Ty.mk 3 [a0, a1]) := by rw [Ty.av_mk]; rfl
  have hf6 : AV.agg [AV.sc (.int .i64 3), AV.slice .frz [Ty.av a0, Ty.av a1]] = Ty.av (Ty.mk 3 [a0, a1]) := by rw [Ty.av_mk]; rfl
  obtain rfl := Option.some.inj hm
  simp [retQ, hf5, hf6]

theorem enters99 : entersB Tryd.prog 99 = true := by kernel_rfl

theorem r_ref01_Size (T : Tabs) {H : Heap} {a0 : Ty} {r0 : Int} {r1 : Int} (hm : ref01_Size a0 = some (r0, r1)) : ACall Tryd.prog T 99 [Ty.av a0] H (AV.tuple [AV.sc (.int .i64 r0), AV.sc (.int .i64 r1)]) H := by
  rw [ref01_Size] at hm
  refine ACallP.intro (fn := Tryd.f99) Tryd.func99 rfl enters99 (Nat.le_of_ble_eq_true rfl) ?_
  refine AWp.sr [] fun K1 hk2 => ?_
  simp
  apply hk2
  refine AWp.seqK fun K3 hk4 => ?_
  refine AWp.sr [] fun K5 hk6 => ?_
  obtain ⟨x7, hx8, hm9⟩ := bind1_some hm
  clear hm
  try dsimp only at hm9
  simp
  refine CallAt.fn (r_ref01_Check T hx8) ?_
  simp
  apply hk6
  refine AWp.sr [] fun K10 hk11 => ?_
  simp
  apply hk11
  refine AWp.condK fun A12 B13 ga14 gb15 => ?_
  rcases ite_some hm9 with ⟨hc16, hm17⟩ | ⟨hc16, hm18⟩
  · clear hm9
    simp [hc16]
    apply ga14
    refine AWp.sr [] fun K19 hk20 => ?_
    simp [hc16]
    apply hk20
    refine AWp.ret ?_
    simp only [Option.some.injEq, Prod.mk.injEq] at hm17
    obtain ⟨rfl, rfl⟩ := hm17
    simp [retQ, hc16]
  clear hm9
  simp [hc16]
  apply gb15
  refine AWp.skip ?_
  apply hk4
  refine AWp.sr [] fun K21 hk22 => ?_
  obtain ⟨x23, hx24, hm25⟩ := bind1_some hm18
  clear hm18
  try dsimp only at hm25
  simp [hc16]
  refine CallAt.fn (r_ref01_size T hx24) ?_
  simp [hc16]
  apply hk22
  refine AWp.ret ?_
  simp only [Option.some.injEq, Prod.mk.injEq] at hm25
  obtain ⟨rfl, rfl⟩ := hm25
  simp [retQ, hc16]

theorem enters83 : entersB Tryd.prog 83 = true := by kernel_rfl

theorem r_ref23_fits (T : Tabs) {H : Heap} {a0 : Ty} {a1 : Int} {r0 : Ty} {r1 : Int} (hm : ref23_fits a0 a1 = some (r0, r1)) : ACall Tryd.prog T 83 [Ty.av a0, AV.sc (.int .i64 a1)] H (AV.tuple [Ty.av r0, AV.sc (.int .i64 r1)]) H := by
  rw [ref23_fits] at hm
  refine ACallP.intro (fn := Tryd.f83) Tryd.func83 rfl enters83 (Nat.le_of_ble_eq_true rfl) ?_
  refine AWp.sr [] fun K1 hk2 => ?_
  simp
  apply hk2
  refine AWp.seqK fun K3 hk4 => ?_
  refine AWp.sr [] fun K5 hk6 => ?_
  simp
  apply hk6
  refine AWp.condK fun A7 B8 ga9 gb10 => ?_
  rcases ite_some hm with ⟨hc11, hm12⟩ | ⟨hc11, hm13⟩
  · clear hm
    simp [hc11]
    apply ga9
    refine AWp.sr [] fun K14 hk15 => ?_
    simp [hc11]
    apply hk15
    refine AWp.ret ?_
    simp only [Option.some.injEq, Prod.mk.injEq] at hm12
    obtain ⟨rfl, rfl⟩ := hm12
    simp [retQ, hc11]
  clear hm
  simp [hc11]
  apply gb10
  refine AWp.skip ?_
  apply hk4
  refine AWp.seqK fun K16 hk17 => ?_
  refine AWp.sr [] fun K18 hk19 => ?_
  obtain ⟨x20, x21, hx22, hm23⟩ := bind2_some hm13
  clear hm13
  try dsimp only at hm23
  simp [hc11]
  refine CallAt.fn (r_ref01_Size T hx22) ?_
  simp [hc11]
  apply hk19
  refine AWp.sr [] fun K24 hk25 => ?_
  simp [hc11]
  apply hk25
  refine AWp.condK fun A26 B27 ga28 gb29 => ?_
  rcases ite_some hm23 with ⟨hc30, hm31⟩ | ⟨hc30, hm32⟩
  · clear hm23
    simp [hc11, hc30]
    apply ga28
    refine AWp.sr [] fun K33 hk34 => ?_
    simp [hc11, hc30]
    apply hk34
    refine AWp.ret ?_
    simp only [Option.some.injEq, Prod.mk.injEq] at hm31
    obtain ⟨rfl, rfl⟩ := hm31
    simp [retQ, hc11, hc30]
  clear hm23
  simp [hc11, hc30]
  apply gb29
  refine AWp.skip ?_
  apply hk17
  refine AWp.sr [] fun K35 hk36 => ?_
  simp [hc11, hc30]
  apply hk36
  refine AWp.ret ?_
  simp only [Option.some.injEq, Prod.mk.injEq] at hm32
  obtain ⟨rfl, rfl⟩ := hm32
  simp [retQ, hc11, hc30]

theorem enters47 : entersB Tryd.prog 47 = true := by kernel_rfl

theorem rg_ref23_of (T : Tabs) : ∀ (n : Nat), (∀ {H : Heap} {a0 : Fm} {r0 : Ty} {r1 : Int} (hm : ref23_of n a0 = some (r0, r1)), ACall Tryd.prog T 47 [Fm.av a0] H (AV.tuple [Ty.av r0, AV.sc (.int .i64 r1)]) H) := by
  intro n
  induction n with
  | zero =>
    skip
    all_goals
      intros
      rename_i hm
      cases hm
  | succ n ih =>
    intro H a0 r0 r1 hm
    rw [ref23_of] at hm
    refine ACallP.intro (fn := Tryd.f47) Tryd.func47 rfl enters47 (Nat.le_of_ble_eq_true rfl) ?_
    refine AWp.sr [] fun K1 hk2 => ?_
    simp
    apply hk2
    refine AWp.seqK fun K3 hk4 => ?_
    refine AWp.sr [] fun K5 hk6 => ?_
    obtain ⟨x7, hx8, hm9⟩ := bind1_some hm
    clear hm
    try dsimp only at hm9
    simp
    refine CallAt.fn (r_ref23_Has T hx8) ?_
    simp
    apply hk6
    refine AWp.condK fun A10 B11 ga12 gb13 => ?_
    rcases ite_some hm9 with ⟨hc14, hm15⟩ | ⟨hc14, hm16⟩
    rotate_left
    · clear hm9
      simp [hc14]
      apply ga12
      refine AWp.sr [] fun K17 hk18 => ?_
      obtain ⟨x19, hx20, hm21⟩ := bind1_some hm16
      clear hm16
      try dsimp only at hm21
      simp [hc14]
      refine CallAt.fn (r_ref23_Unit T hx20) ?_
      simp [hc14]
      apply hk18
      refine AWp.ret ?_
      simp only [Option.some.injEq, Prod.mk.injEq] at hm21
      obtain ⟨rfl, rfl⟩ := hm21
      simp [retQ, hc14]
    clear hm9
    simp [hc14]
    apply gb13
    refine AWp.skip ?_
    apply hk4
    refine AWp.seqK fun K22 hk23 => ?_
    refine AWp.sr [] fun K24 hk25 => ?_
    simp [hc14]
    apply hk25
    refine AWp.blockK fun Q26 nn27 ne28 nx29 nr30 => ?_
    refine AWp.sr [] fun K31 hk32 => ?_
    simp [hc14]
    apply hk32
    refine AWp.condK fun A33 B34 ga35 gb36 => ?_
    rcases ite_some hm15 with ⟨hc37, hm38⟩ | ⟨hc37, hm39⟩
    · clear hm15
      simp [hc14, hc37]
      apply ga35
      refine AWp.seqK fun K40 hk41 => ?_
      refine AWp.sr [] fun K42 hk43 => ?_
      obtain ⟨x44, hx45, hm46⟩ := bind1_some hm38
      clear hm38
      try dsimp only at hm46
      obtain ⟨x47, hx48, hm49⟩ := bind1_some hm46
      clear hm46
      try dsimp only at hm49
      simp [hx45, hc14, hc37]
      refine CallAt.fn (r_ref23_Has T hx48) ?_
      simp [hx45, hc14, hc37]
      apply hk43
      refine AWp.condK fun A50 B51 ga52 gb53 => ?_
      rcases ite_some hm49 with ⟨hc54, hm55⟩ | ⟨hc54, hm56⟩
      rotate_left
      · clear hm49
        simp [hx45, hc14, hc37, hc54]
        apply ga52
        refine AWp.sr [] fun K57 hk58 => ?_
        obtain ⟨x59, hx60, hm61⟩ := bind1_some hm56
        clear hm56
        try dsimp only at hm61
        obtain ⟨x62, x63, hx64, hm65⟩ := bind2_some hm61
        clear hm61
        try dsimp only at hm65
        simp [hx45, hx60, hc14, hc37, hc54]
        refine CallAt.fn (ih hx64) ?_
        simp [hx45, hx60, hc14, hc37, hc54]
        apply hk58
        refine AWp.ret ?_
        apply nr30
        simp only [Option.some.injEq, Prod.mk.injEq] at hm65
        obtain ⟨rfl, rfl⟩ := hm65
        simp [retQ, hx45, hx60, hc14, hc37, hc54]
      clear hm49
      simp [hx45, hc14, hc37, hc54]
      apply gb53
      refine AWp.skip ?_
      apply hk41
      refine AWp.seqK fun K66 hk67 => ?_
      refine AWp.sr [] fun K68 hk69 => ?_
      obtain ⟨x70, hx71, hm72⟩ := bind1_some hm55
      clear hm55
      try dsimp only at hm72
      obtain ⟨x73, hx74, hm75⟩ := bind1_some hm72
      clear hm72
      try dsimp only at hm75
      simp [hx45, hx71, hc14, hc37, hc54]
      refine CallAt.fn (r_ref23_Has T hx74) ?_
      simp [hx45, hx71, hc14, hc37, hc54]
      apply hk69
      refine AWp.condK fun A76 B77 ga78 gb79 => ?_
      rcases ite_some hm75 with ⟨hc80, hm81⟩ | ⟨hc80, hm82⟩
      rotate_left
      · clear hm75
        simp [hx45, hx71, hc14, hc37, hc54, hc80]
        apply ga78
        refine AWp.sr [] fun K83 hk84 => ?_
        obtain ⟨x85, x86, hx87, hm88⟩ := bind2_some hm82
        clear hm82
        try dsimp only at hm88
        simp [hx45, hx71, hc14, hc37, hc54, hc80]
        refine CallAt.fn (ih hx87) ?_
        simp [hx45, hx71, hc14, hc37, hc54, hc80]
        apply hk84
        refine AWp.ret ?_
        apply nr30
        simp only [Option.some.injEq, Prod.mk.injEq] at hm88
        obtain ⟨rfl, rfl⟩ := hm88
        simp [retQ, hx45, hx71, hc14, hc37, hc54, hc80]
      clear hm75
      simp [hx45, hx71, hc14, hc37, hc54, hc80]
      apply gb79
      refine AWp.skip ?_
      apply hk67
      refine AWp.sr [] fun K89 hk90 => ?_
      obtain ⟨x91, x92, hx93, hm94⟩ := bind2_some hm81
      clear hm81
      try dsimp only at hm94
      simp [hx45, hx71, hc14, hc37, hc54, hc80]
      refine CallAt.fn (ih hx93) ?_
      simp [hx45, hx71, hc14, hc37, hc54, hc80]
      apply hk90
      refine AWp.seqK fun K95 hk96 => ?_
      refine AWp.sr [] fun K97 hk98 => ?_
      simp [hx45, hx71, hc14, hc37, hc54, hc80]
      apply hk98
      refine AWp.condK fun A99 B100 ga101 gb102 => ?_
      rcases ite_some hm94 with ⟨hc103, hm104⟩ | ⟨hc103, hm105⟩
      · clear hm94
        simp [hx45, hx71, hc14, hc37, hc54, hc80, hc103]
        apply ga101
        refine AWp.sr [] fun K106 hk107 => ?_
        simp [hx45, hx71, hc14, hc37, hc54, hc80, hc103]
        apply hk107
        refine AWp.ret ?_
        apply nr30
        simp only [Option.some.injEq, Prod.mk.injEq] at hm104
        obtain ⟨rfl, rfl⟩ := hm104
        simp [retQ, hx45, hx71, hc14, hc37, hc54, hc80, hc103]
      clear hm94
      simp [hx45, hx71, hc14, hc37, hc54, hc80, hc103]
      apply gb102
      refine AWp.skip ?_
      apply hk96
      refine AWp.sr [] fun K108 hk109 => ?_
      obtain ⟨x110, x111, hx112, hm113⟩ := bind2_some hm105
      clear hm105
      try dsimp only at hm113
      simp [hx45, hx71, hc14, hc37, hc54, hc80, hc103]
      refine CallAt.fn (ih hx112) ?_
      simp [hx45, hx71, hc14, hc37, hc54, hc80, hc103]
      apply hk109
      refine AWp.sr [] fun K114 hk115 => ?_
      obtain ⟨x116, hx117, hm118⟩ := bind1_some hm113
      clear hm113
      try dsimp only at hm118
      simp [hx45, hx71, hc14, hc37, hc54, hc80, hc103]
      refine CallAt.fn (r_ref23_Pair T hx117) ?_
      obtain ⟨x119, x120, hx121, hm122⟩ := bind2_some hm118
      clear hm118
      try dsimp only at hm122
      simp [hx45, hx71, hc14, hc37, hc54, hc80, hc103]
      refine CallAt.fn (r_ref23_fits T hx121) ?_
      simp [hx45, hx71, hc14, hc37, hc54, hc80, hc103]
      apply hk115
      refine AWp.ret ?_
      apply nr30
      simp only [Option.some.injEq, Prod.mk.injEq] at hm122
      obtain ⟨rfl, rfl⟩ := hm122
      simp [retQ, hx45, hx71, hc14, hc37, hc54, hc80, hc103]
    clear hm15
    simp [hc14, hc37]
    apply gb36
    refine AWp.sr [] fun K123 hk124 => ?_
    simp [hc14, hc37]
    apply hk124
    refine AWp.condK fun A125 B126 ga127 gb128 => ?_
    rcases ite_some hm39 with ⟨hc129, hm130⟩ | ⟨hc129, hm131⟩
    · clear hm39
      simp [hc14, hc37, hc129]
      apply ga127
      refine AWp.seqK fun K132 hk133 => ?_
      refine AWp.sr [] fun K134 hk135 => ?_
      obtain ⟨x136, hx137, hm138⟩ := bind1_some hm130
      clear hm130
      try dsimp only at hm138
      obtain ⟨x139, hx140, hm141⟩ := bind1_some hm138
      clear hm138
      try dsimp only at hm141
      simp [hx137, hc14, hc37, hc129]
      refine CallAt.fn (r_ref23_Has T hx140) ?_
      simp [hx137, hc14, hc37, hc129]
      apply hk135
      refine AWp.condK fun A142 B143 ga144 gb145 => ?_
      rcases ite_some hm141 with ⟨hc146, hm147⟩ | ⟨hc146, hm148⟩
      rotate_left
      · clear hm141
        simp [hx137, hc14, hc37, hc129, hc146]
        apply ga144
        refine AWp.sr [] fun K149 hk150 => ?_
        obtain ⟨x151, hx152, hm153⟩ := bind1_some hm148
        clear hm148
        try dsimp only at hm153
        obtain ⟨x154, x155, hx156, hm157⟩ := bind2_some hm153
        clear hm153
        try dsimp only at hm157
        simp [hx137, hx152, hc14, hc37, hc129, hc146]
        refine CallAt.fn (ih hx156) ?_
        simp [hx137, hx152, hc14, hc37, hc129, hc146]
        apply hk150
        refine AWp.ret ?_
        apply nr30
        simp only [Option.some.injEq, Prod.mk.injEq] at hm157
        obtain ⟨rfl, rfl⟩ := hm157
        simp [retQ, hx137, hx152, hc14, hc37, hc129, hc146]
      clear hm141
      simp [hx137, hc14, hc37, hc129, hc146]
      apply gb145
      refine AWp.skip ?_
      apply hk133
      refine AWp.sr [] fun K158 hk159 => ?_
      obtain ⟨x160, x161, hx162, hm163⟩ := bind2_some hm147
      clear hm147
      try dsimp only at hm163
      simp [hx137, hc14, hc37, hc129, hc146]
      refine CallAt.fn (ih hx162) ?_
      simp [hx137, hc14, hc37, hc129, hc146]
      apply hk159
      refine AWp.seqK fun K164 hk165 => ?_
      refine AWp.sr [] fun K166 hk167 => ?_
      simp [hx137, hc14, hc37, hc129, hc146]
      apply hk167
      refine AWp.condK fun A168 B169 ga170 gb171 => ?_
      rcases ite_some hm163 with ⟨hc172, hm173⟩ | ⟨hc172, hm174⟩
      · clear hm163
        simp [hx137, hc14, hc37, hc129, hc146, hc172]
        apply ga170
        refine AWp.sr [] fun K175 hk176 => ?_
        simp [hx137, hc14, hc37, hc129, hc146, hc172]
        apply hk176
        refine AWp.ret ?_
        apply nr30
        simp only [Option.some.injEq, Prod.mk.injEq] at hm173
        obtain ⟨rfl, rfl⟩ := hm173
        simp [retQ, hx137, hc14, hc37, hc129, hc146, hc172]
      clear hm163
      simp [hx137, hc14, hc37, hc129, hc146, hc172]
      apply gb171
      refine AWp.skip ?_
      apply hk165
      refine AWp.sr [] fun K177 hk178 => ?_
      obtain ⟨x179, hx180, hm181⟩ := bind1_some hm174
      clear hm174
      try dsimp only at hm181
      obtain ⟨x182, x183, hx184, hm185⟩ := bind2_some hm181
      clear hm181
      try dsimp only at hm185
      simp [hx137, hx180, hc14, hc37, hc129, hc146, hc172]
      refine CallAt.fn (ih hx184) ?_
      simp [hx137, hx180, hc14, hc37, hc129, hc146, hc172]
      apply hk178
      refine AWp.sr [] fun K186 hk187 => ?_
      obtain ⟨x188, hx189, hm190⟩ := bind1_some hm185
      clear hm185
      try dsimp only at hm190
      simp [hx137, hx180, hc14, hc37, hc129, hc146, hc172]
      refine CallAt.fn (r_ref23_Fun T hx189) ?_
      obtain ⟨x191, x192, hx193, hm194⟩ := bind2_some hm190
      clear hm190
      try dsimp only at hm194
      simp [hx137, hx180, hc14, hc37, hc129, hc146, hc172]
      refine CallAt.fn (r_ref23_fits T hx193) ?_
      simp [hx137, hx180, hc14, hc37, hc129, hc146, hc172]
      apply hk187
      refine AWp.ret ?_
      apply nr30
      simp only [Option.some.injEq, Prod.mk.injEq] at hm194
      obtain ⟨rfl, rfl⟩ := hm194
      simp [retQ, hx137, hx180, hc14, hc37, hc129, hc146, hc172]
    clear hm39
    simp [hc14, hc37, hc129]
    apply gb128
    refine AWp.sr [] fun K195 hk196 => ?_
    simp [hc14, hc37, hc129]
    apply hk196
    refine AWp.condK fun A197 B198 ga199 gb200 => ?_
    rcases ite_some hm131 with ⟨hc201, hm202⟩ | ⟨hc201, hm203⟩
    · clear hm131
      simp [hc14, hc37, hc129, hc201]
      apply ga199
      refine AWp.sr [] fun K204 hk205 => ?_
      obtain ⟨x206, hx207, hm208⟩ := bind1_some hm202
      clear hm202
      try dsimp only at hm208
      obtain ⟨x209, x210, hx211, hm212⟩ := bind2_some hm208
      clear hm208
      try dsimp only at hm212
      simp [hx207, hc14, hc37, hc129, hc201]
      refine CallAt.fn (ih hx211) ?_
      simp [hx207, hc14, hc37, hc129, hc201]
      apply hk205
      refine AWp.sr [] fun K213 hk214 => ?_
      obtain ⟨x215, hx216, hm217⟩ := bind1_some hm212
      clear hm212
      try dsimp only at hm217
      simp [hx207, hc14, hc37, hc129, hc201]
      refine CallAt.fn (r_ref23_Fun T hx216) ?_
      obtain ⟨x218, x219, hx220, hm221⟩ := bind2_some hm217
      clear hm217
      try dsimp only at hm221
      simp [hx207, hc14, hc37, hc129, hc201]
      refine CallAt.fn (r_ref23_fits T hx220) ?_
      simp [hx207, hc14, hc37, hc129, hc201]
      apply hk214
      refine AWp.ret ?_
      apply nr30
      simp only [Option.some.injEq, Prod.mk.injEq] at hm221
      obtain ⟨rfl, rfl⟩ := hm221
      simp [retQ, hx207, hc14, hc37, hc129, hc201]
    clear hm131
    simp [hc14, hc37, hc129, hc201]
    apply gb200
    refine AWp.sr [] fun K222 hk223 => ?_
    simp [hc14, hc37, hc129, hc201]
    apply hk223
    refine AWp.condK fun A224 B225 ga226 gb227 => ?_
    rcases ite_some hm203 with ⟨hc228, hm229⟩ | ⟨hc228, hm230⟩
    rotate_left
    · clear hm203
      simp [hc14, hc37, hc129, hc201, hc228]
      apply gb227
      refine AWp.skip ?_
      apply nn27
      apply hk23
      refine AWp.sr [] fun K231 hk232 => ?_
      obtain ⟨x233, hx234, hm235⟩ := bind1_some hm230
      clear hm230
      try dsimp only at hm235
      obtain ⟨x236, x237, hx238, hm239⟩ := bind2_some hm235
      clear hm235
      try dsimp only at hm239
      simp [hx234, hc14, hc37, hc129, hc201, hc228]
      refine CallAt.fn (ih hx238) ?_
      simp [hx234, hc14, hc37, hc129, hc201, hc228]
      apply hk232
      refine AWp.ret ?_
      simp only [Option.some.injEq, Prod.mk.injEq] at hm239
      obtain ⟨rfl, rfl⟩ := hm239
      simp [retQ, hx234, hc14, hc37, hc129, hc201, hc228]
    clear hm203
    simp [hc14, hc37, hc129, hc201, hc228]
    apply ga226
    refine AWp.seqK fun K240 hk241 => ?_
    refine AWp.sr [] fun K242 hk243 => ?_
    obtain ⟨x244, hx245, hm246⟩ := bind1_some hm229
    clear hm229
    try dsimp only at hm246
    obtain ⟨x247, hx248, hm249⟩ := bind1_some hm246
    clear hm246
    try dsimp only at hm249
    simp [hx245, hc14, hc37, hc129, hc201, hc228]
    refine CallAt.fn (r_ref23_Has T hx248) ?_
    simp [hx245, hc14, hc37, hc129, hc201, hc228]
    apply hk243
    refine AWp.condK fun A250 B251 ga252 gb253 => ?_
    rcases ite_some hm249 with ⟨hc254, hm255⟩ | ⟨hc254, hm256⟩
    rotate_left
    · clear hm249
      simp [hx245, hc14, hc37, hc129, hc201, hc228, hc254]
      apply ga252
      refine AWp.sr [] fun K257 hk258 => ?_
      simp [hx245, hc14, hc37, hc129, hc201, hc228, hc254]
      apply hk258
      refine AWp.ret ?_
      apply nr30
      simp only [Option.some.injEq, Prod.mk.injEq] at hm256
      obtain ⟨rfl, rfl⟩ := hm256
      simp [retQ, hx245, hc14, hc37, hc129, hc201, hc228, hc254]
    clear hm249
    simp [hx245, hc14, hc37, hc129, hc201, hc228, hc254]
    apply gb253
    refine AWp.skip ?_
    apply hk241
    refine AWp.sr [] fun K259 hk260 => ?_
    obtain ⟨x261, x262, hx263, hm264⟩ := bind2_some hm255
    clear hm255
    try dsimp only at hm264
    simp [hx245, hc14, hc37, hc129, hc201, hc228, hc254]
    refine CallAt.fn (ih hx263) ?_
    simp [hx245, hc14, hc37, hc129, hc201, hc228, hc254]
    apply hk260
    refine AWp.sr [] fun K265 hk266 => ?_
    obtain ⟨x267, hx268, hm269⟩ := bind1_some hm264
    clear hm264
    try dsimp only at hm269
    simp [hx245, hc14, hc37, hc129, hc201, hc228, hc254]
    refine CallAt.fn (r_ref23_Pair T hx268) ?_
    obtain ⟨x270, x271, hx272, hm273⟩ := bind2_some hm269
    clear hm269
    try dsimp only at hm273
    simp [hx245, hc14, hc37, hc129, hc201, hc228, hc254]
    refine CallAt.fn (r_ref23_fits T hx272) ?_
    simp [hx245, hc14, hc37, hc129, hc201, hc228, hc254]
    apply hk266
    refine AWp.ret ?_
    apply nr30
    simp only [Option.some.injEq, Prod.mk.injEq] at hm273
    obtain ⟨rfl, rfl⟩ := hm273
    simp [retQ, hx245, hc14, hc37, hc129, hc201, hc228, hc254]
theorem r_ref23_of (T : Tabs) {H : Heap} {a0 : Fm} {r0 : Ty} {r1 : Int} {n : Nat} (hm : ref23_of n a0 = some (r0, r1)) : ACall Tryd.prog T 47 [Fm.av a0] H (AV.tuple [Ty.av r0, AV.sc (.int .i64 r1)]) H := (rg_ref23_of T n) hm

theorem enters17 : entersB Tryd.prog 17 = true := by kernel_rfl

theorem r_ref23_Type (T : Tabs) {H : Heap} {a0 : Fm} {r0 : Ty} {r1 : Int} (hm : ref23_Type a0 = some (r0, r1)) : ACall Tryd.prog T 17 [Fm.av a0] H (AV.tuple [Ty.av r0, AV.sc (.int .i64 r1)]) H := by
  rw [ref23_Type] at hm
  refine ACallP.intro (fn := Tryd.f17) Tryd.func17 rfl enters17 (Nat.le_of_ble_eq_true rfl) ?_
  refine AWp.sr [] fun K1 hk2 => ?_
  simp
  apply hk2
  refine AWp.seqK fun K3 hk4 => ?_
  refine AWp.sr [] fun K5 hk6 => ?_
  obtain ⟨x7, hx8, hm9⟩ := bind1_some hm
  clear hm
  try dsimp only at hm9
  simp
  refine CallAt.fn (r_ref07_Check T hx8) ?_
  simp
  apply hk6
  refine AWp.sr [] fun K10 hk11 => ?_
  simp
  apply hk11
  refine AWp.condK fun A12 B13 ga14 gb15 => ?_
  rcases ite_some hm9 with ⟨hc16, hm17⟩ | ⟨hc16, hm18⟩
  · clear hm9
    simp [hc16]
    apply ga14
    refine AWp.sr [] fun K19 hk20 => ?_
    simp [hc16]
    apply hk20
    refine AWp.ret ?_
    simp only [Option.some.injEq, Prod.mk.injEq] at hm17
    obtain ⟨rfl, rfl⟩ := hm17
    simp [retQ, hc16]
  clear hm9
  simp [hc16]
  apply gb15
  refine AWp.skip ?_
  apply hk4
  refine AWp.sr [] fun K21 hk22 => ?_
  obtain ⟨x23, x24, hx25, hm26⟩ := bind2_some hm18
  clear hm18
  try dsimp only at hm26
  simp [hc16]
  refine CallAt.fn (r_ref23_of T hx25) ?_
  simp [hc16]
  apply hk22
  refine AWp.ret ?_
  simp only [Option.some.injEq, Prod.mk.injEq] at hm26
  obtain ⟨rfl, rfl⟩ := hm26
  simp [retQ, hc16]

end Go.Proofs.YtdihelfnjememaaDoor
