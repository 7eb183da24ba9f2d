/- The program's functions do what the models say. -/
import Derived.Test.YtnabbjnhemmkhaaDoorRR07
import Derived.Test.YtnabbjnhemmkhaaDoorRM
set_option maxRecDepth 20000
set_option maxHeartbeats 4000000
set_option linter.unusedSimpArgs false
set_option linter.unusedVariables false
namespace Go.Proofs.YtnabbjnhemmkhaaDoor
open Go Go.Abs Go.Mdl

theorem enters26 : entersB Tryd.prog 26 = true := by kernel_rfl

theorem r_reduce_Match (T : Tabs) (hT : T 0 = some (AV.agg (List.map (fun n => AV.sc (Value.int .i64 n)) tree_arities))) {H : Heap} {a0 : Tm} {a1 : Tm} {a2 : Int} {r0 : Int} (hm : reduce_Match a0 a1 a2 = some r0) : ACall Tryd.prog T 26 [Tm.av a0, Tm.av a1, AV.sc (.int .i64 a2)] H (AV.sc (.int .i64 r0)) H := by
  rw [reduce_Match] at hm
  refine ACallP.intro (fn := Tryd.f26) Tryd.func26 rfl enters26 (Nat.le_of_ble_eq_true rfl) ?_
  refine AWp.sr [] fun K1 hk2 => ?_
  simp [hT]
  apply hk2
  refine AWp.seqK fun K3 hk4 => ?_
  refine AWp.sr [] fun K5 hk6 => ?_
  obtain ⟨x7, hx8, hm9⟩ := bind1_some hm
  clear hm
  try dsimp only at hm9
  simp [hT]
  refine CallAt.fn (r_terms_Check T hT hx8) ?_
  simp [hT]
  apply hk6
  refine AWp.sr [] fun K10 hk11 => ?_
  simp [hT]
  apply hk11
  refine AWp.condK fun A12 B13 ga14 gb15 => ?_
  rcases ite_some hm9 with ⟨hc16, hm17⟩ | ⟨hc16, hm18⟩
  · clear hm9
    simp [hT, hc16]
    apply ga14
    refine AWp.sr [] fun K19 hk20 => ?_
    simp [hT, hc16]
    apply hk20
    refine AWp.ret ?_
    obtain rfl := Option.some.inj hm17
    simp [retQ, hT, hc16]
  clear hm9
  simp [hT, hc16]
  apply gb15
  refine AWp.skip ?_
  apply hk4
  refine AWp.seqK fun K21 hk22 => ?_
  refine AWp.sr [] fun K23 hk24 => ?_
  obtain ⟨x25, hx26, hm27⟩ := bind1_some hm18
  clear hm18
  try dsimp only at hm27
  simp [hT, hc16]
  refine CallAt.fn (r_terms_Check T hT hx26) ?_
  simp [hT, hc16]
  apply hk24
  refine AWp.sr [] fun K28 hk29 => ?_
  simp [hT, hc16]
  apply hk29
  refine AWp.condK fun A30 B31 ga32 gb33 => ?_
  rcases ite_some hm27 with ⟨hc34, hm35⟩ | ⟨hc34, hm36⟩
  · clear hm27
    simp [hT, hc16, hc34]
    apply ga32
    refine AWp.sr [] fun K37 hk38 => ?_
    simp [hT, hc16, hc34]
    apply hk38
    refine AWp.ret ?_
    obtain rfl := Option.some.inj hm35
    simp [retQ, hT, hc16, hc34]
  clear hm27
  simp [hT, hc16, hc34]
  apply gb33
  refine AWp.skip ?_
  apply hk22
  refine AWp.seqK fun K39 hk40 => ?_
  refine AWp.sr [] fun K41 hk42 => ?_
  obtain ⟨x43, hx44, hm45⟩ := bind1_some hm36
  clear hm36
  try dsimp only at hm45
  simp [hT, hc16, hc34]
  refine CallAt.fn (r_terms_Same T hx44) ?_
  simp [hT, hc16, hc34]
  apply hk42
  refine AWp.condK fun A46 B47 ga48 gb49 => ?_
  rcases ite_some hm45 with ⟨hc50, hm51⟩ | ⟨hc50, hm52⟩
  · clear hm45
    simp [hT, hc16, hc34, hc50]
    apply ga48
    refine AWp.sr [] fun K53 hk54 => ?_
    simp [hT, hc16, hc34, hc50]
    apply hk54
    refine AWp.ret ?_
    obtain rfl := Option.some.inj hm51
    simp [retQ, hT, hc16, hc34, hc50]
  clear hm45
  simp [hT, hc16, hc34, hc50]
  apply gb49
  refine AWp.skip ?_
  apply hk40
  refine AWp.sr [] fun K55 hk56 => ?_
  obtain ⟨x57, x58, x59, hx60, hm61⟩ := bind3_some hm52
  clear hm52
  try dsimp only at hm61
  simp [hT, hc16, hc34, hc50]
  refine CallAt.fn (r_reduce_Normal T hT hx60) ?_
  simp [hT, hc16, hc34, hc50]
  apply hk56
  refine AWp.seqK fun K62 hk63 => ?_
  refine AWp.sr [] fun K64 hk65 => ?_
  simp [hT, hc16, hc34, hc50]
  apply hk65
  refine AWp.condK fun A66 B67 ga68 gb69 => ?_
  rcases ite_some hm61 with ⟨hc70, hm71⟩ | ⟨hc70, hm72⟩
  · clear hm61
    simp [hT, hc16, hc34, hc50, hc70]
    apply ga68
    refine AWp.sr [] fun K73 hk74 => ?_
    simp [hT, hc16, hc34, hc50, hc70]
    apply hk74
    refine AWp.ret ?_
    obtain rfl := Option.some.inj hm71
    simp [retQ, hT, hc16, hc34, hc50, hc70]
  clear hm61
  simp [hT, hc16, hc34, hc50, hc70]
  apply gb69
  refine AWp.skip ?_
  apply hk63
  refine AWp.sr [] fun K75 hk76 => ?_
  obtain ⟨x77, x78, x79, hx80, hm81⟩ := bind3_some hm72
  clear hm72
  try dsimp only at hm81
  simp [hT, hc16, hc34, hc50, hc70]
  refine CallAt.fn (r_reduce_Normal T hT hx80) ?_
  simp [hT, hc16, hc34, hc50, hc70]
  apply hk76
  refine AWp.seqK fun K82 hk83 => ?_
  refine AWp.sr [] fun K84 hk85 => ?_
  simp [hT, hc16, hc34, hc50, hc70]
  apply hk85
  refine AWp.condK fun A86 B87 ga88 gb89 => ?_
  rcases ite_some hm81 with ⟨hc90, hm91⟩ | ⟨hc90, hm92⟩
  · clear hm81
    simp [hT, hc16, hc34, hc50, hc70, hc90]
    apply ga88
    refine AWp.sr [] fun K93 hk94 => ?_
    simp [hT, hc16, hc34, hc50, hc70, hc90]
    apply hk94
    refine AWp.ret ?_
    obtain rfl := Option.some.inj hm91
    simp [retQ, hT, hc16, hc34, hc50, hc70, hc90]
  clear hm81
  simp [hT, hc16, hc34, hc50, hc70, hc90]
  apply gb89
  refine AWp.skip ?_
  apply hk83
  refine AWp.seqK fun K95 hk96 => ?_
  refine AWp.sr [] fun K97 hk98 => ?_
  obtain ⟨x99, hx100, hm101⟩ := bind1_some hm92
  clear hm92
  try dsimp only at hm101
  simp [hT, hc16, hc34, hc50, hc70, hc90]
  refine CallAt.fn (r_terms_Same T hx100) ?_
  simp [hT, hc16, hc34, hc50, hc70, hc90]
  apply hk98
  refine AWp.condK fun A102 B103 ga104 gb105 => ?_
  rcases ite_some hm101 with ⟨hc106, hm107⟩ | ⟨hc106, hm108⟩
  rotate_left
  · clear hm101
    simp [hT, hc16, hc34, hc50, hc70, hc90, hc106]
    apply ga104
    refine AWp.sr [] fun K109 hk110 => ?_
    simp [hT, hc16, hc34, hc50, hc70, hc90, hc106]
    apply hk110
    refine AWp.ret ?_
    obtain rfl := Option.some.inj hm108
    simp [retQ, hT, hc16, hc34, hc50, hc70, hc90, hc106]
  clear hm101
  simp [hT, hc16, hc34, hc50, hc70, hc90, hc106]
  apply gb105
  refine AWp.skip ?_
  apply hk96
  refine AWp.sr [] fun K111 hk112 => ?_
  simp [hT, hc16, hc34, hc50, hc70, hc90, hc106]
  apply hk112
  refine AWp.ret ?_
  obtain rfl := Option.some.inj hm107
  simp [retQ, hT, hc16, hc34, hc50, hc70, hc90, hc106]

theorem enters105 : entersB Tryd.prog 105 = true := by kernel_rfl

theorem rg_mk_CountType (T : Tabs) : ∀ (n : Nat), (∀ {H : Heap} {a0 : Ty} {a1 : Int} {r0 : Int} (hm : mk_CountType n a0 a1 = some r0), ACall Tryd.prog T 105 [Ty.av a0, AV.sc (.int .i64 a1)] H (AV.sc (.int .i64 r0)) H) := by
  intro n
  induction n with
  | zero =>
    skip
    all_goals
      intros
      rename_i hm
      cases hm
  | succ n ih =>
    intro H a0 a1 r0 hm
    rw [mk_CountType] at hm
    refine ACallP.intro (fn := Tryd.f105) Tryd.func105 rfl enters105 (Nat.le_of_ble_eq_true rfl) ?_
    refine AWp.sr [] fun K1 hk2 => ?_
    simp
    apply hk2
    refine AWp.sr [] fun K3 hk4 => ?_
    simp
    apply hk4
    refine AWp.seqK fun K5 hk6 => ?_
    refine AWp.sr [] fun K7 hk8 => ?_
    simp
    apply hk8
    obtain ⟨F9, hF10, hm11⟩ := joinB_some hm
    clear hm
    try dsimp only at hm11
    obtain ⟨out12, hl13, hmB14⟩ := bind1_some hm11
    clear hm11
    refine AWp.blockK fun Q15 nn16 ne17 nx18 nr19 => ?_
    refine AWp.loopF (fun n20 fr h => ∃ (v21 : Int) (v22 : Int) (g2_23 : Nat), H = h ∧ (fr.env 1 = AV.sc (.int .i64 a1) ∧ fr.env 2 = AV.lptr 2 g2_23 0 ∧ fr.env 5 = AV.sc (.int .i64 v21) ∧ fr.env 6 = AV.sc (.int .i64 v22) ∧ fr.gen 2 = g2_23 ∧ fr.box 2 = some [AV.sc (.int .i64 a0.kind), AV.slice .frz (List.map Ty.av a0.args)]) ∧ loopN F9 n20 (v21, v22) = some out12) FU ?_ ?_
    · refine ⟨1, 0, 1, ?_, ⟨?_, ?_, ?_, ?_, ?_, ?_⟩, hl13⟩ <;> first | rfl | simp
    rintro n20 fr23 h23 ⟨v21, v22, g2_23, rfl, E23, hl13⟩ K24 hK25
    rcases n20 with _ | n20
    · rw [loopN_zero] at hl13
      cases hl13
    rw [loopN_succ] at hl13
    obtain ⟨c26, hb27, hk28⟩ := bind1_some hl13
    clear hl13
    rw [hF10] at hb27
    try dsimp only at hb27
    rw [un2_mk] at hb27
    try dsimp only at hb27
    refine AWp.seqK fun K29 hk30 => ?_
    refine AWp.seqP (fun fr h => ∃ (g2_34 : Nat), H = h ∧ (fr.env 1 = AV.sc (.int .i64 a1) ∧ fr.env 2 = AV.lptr 2 g2_34 0 ∧ fr.env 5 = AV.sc (.int .i64 v21) ∧ fr.env 6 = AV.sc (.int .i64 v22) ∧ fr.env 16 = AV.sc (.bool (sel (ilt v22 (llen a0.args)) (ile v21 a1) false)) ∧ fr.gen 2 = g2_34 ∧ fr.box 2 = some [AV.sc (.int .i64 a0.kind), AV.slice .frz (List.map Ty.av a0.args)])) (fun K31 hk32 => ?_) ?_
    · refine AWp.region [] (by decide +kernel) ?_
      rcases Bool.eq_false_or_eq_true (ilt v22 (llen a0.args)) with hc33 | hc33
      · simp [E23, hc33]
        refine hk32 _ _ ⟨g2_23, ?_, ⟨?_, ?_, ?_, ?_, ?_, ?_, ?_⟩⟩ <;> first | rfl | simp [E23, hc33]
      simp [E23, hc33]
      refine hk32 _ _ ⟨g2_23, ?_, ⟨?_, ?_, ?_, ?_, ?_, ?_, ?_⟩⟩ <;> first | rfl | simp [E23, hc33]
    rintro fr34 h34 ⟨g2_34, rfl, E34⟩
    refine AWp.condK fun A35 B36 ga37 gb38 => ?_
    rcases ite_some hb27 with ⟨hc39, hm40⟩ | ⟨hc39, hm41⟩
    rotate_left
    · clear hb27
      simp [E34, hc39]
      apply gb38
      refine AWp.exit ?_
      apply ne17
      obtain rfl := Option.some.inj hm41
      rw [ctlK_brk] at hk28
      obtain rfl := Option.some.inj hk28
      rw [sumK_inl, un2_mk] at hmB14
      try dsimp only at hmB14
      apply hk6
      refine AWp.sr [] fun K42 hk43 => ?_
      simp [E34, hc39]
      apply hk43
      refine AWp.ret ?_
      obtain rfl := Option.some.inj hmB14
      simp [retQ, E34, hc39]
    clear hb27
    simp [E34, hc39]
    apply ga37
    refine AWp.skip ?_
    apply hk30
    refine AWp.seqK fun K44 hk45 => ?_
    refine AWp.blockK fun Q46 nn47 ne48 nx49 nr50 => ?_
    refine AWp.region [] (by decide +kernel) ?_
    obtain ⟨x51, hx52, hm53⟩ := bind1_some hm40
    clear hm40
    try dsimp only at hm53
    obtain ⟨x54, hx55, hm56⟩ := bind1_some hm53
    clear hm53
    try dsimp only at hm56
    simp [E34, hx52, hc39]
    refine CallAt.fn (ih hx55) ?_
    simp [E34, hx52, hc39]
    apply nn47
    apply hk45
    refine AWp.region [] (by decide +kernel) ?_
    simp [E34, hx52, hc39]
    obtain rfl := Option.some.inj hm56
    rw [ctlK_next] at hk28
    refine hK25 _ _ n20 (Nat.lt_succ_self _) ⟨(iadd .i64 v21 x54), (iadd .i64 v22 1), g2_34, ?_, ⟨?_, ?_, ?_, ?_, ?_, ?_⟩, hk28⟩ <;> first | rfl | simp [E34, hx52, hc39]
theorem r_mk_CountType (T : Tabs) {H : Heap} {a0 : Ty} {a1 : Int} {r0 : Int} {n : Nat} (hm : mk_CountType n a0 a1 = some r0) : ACall Tryd.prog T 105 [Ty.av a0, AV.sc (.int .i64 a1)] H (AV.sc (.int .i64 r0)) H := (rg_mk_CountType T n) hm

theorem enters90 : entersB Tryd.prog 90 = true := by kernel_rfl

theorem rg_mk_CountTerm (T : Tabs) : ∀ (n : Nat), (∀ {H : Heap} {a0 : Tm} {a1 : Int} {r0 : Int} (hm : mk_CountTerm n a0 a1 = some r0), ACall Tryd.prog T 90 [Tm.av a0, AV.sc (.int .i64 a1)] H (AV.sc (.int .i64 r0)) H) := by
  intro n
  induction n with
  | zero =>
    skip
    all_goals
      intros
      rename_i hm
      cases hm
  | succ n ih =>
    intro H a0 a1 r0 hm
    rw [mk_CountTerm] at hm
    refine ACallP.intro (fn := Tryd.f90) Tryd.func90 rfl enters90 (Nat.le_of_ble_eq_true rfl) ?_
    refine AWp.sr [] fun K1 hk2 => ?_
    simp
    apply hk2
    refine AWp.sr [] fun K3 hk4 => ?_
    obtain ⟨x5, hx6, hm7⟩ := bind1_some hm
    clear hm
    try dsimp only at hm7
    simp
    refine CallAt.fn (r_mk_CountType T hx6) ?_
    simp
    apply hk4
    refine AWp.seqK fun K8 hk9 => ?_
    refine AWp.sr [] fun K10 hk11 => ?_
    simp
    apply hk11
    obtain ⟨F12, hF13, hm14⟩ := joinB_some hm7
    clear hm7
    try dsimp only at hm14
    obtain ⟨out15, hl16, hmB17⟩ := bind1_some hm14
    clear hm14
    refine AWp.blockK fun Q18 nn19 ne20 nx21 nr22 => ?_
    refine AWp.loopF (fun n23 fr h => ∃ (v24 : Int) (v25 : Int) (g2_26 : Nat), H = h ∧ (fr.env 1 = AV.sc (.int .i64 a1) ∧ fr.env 2 = AV.lptr 2 g2_26 0 ∧ fr.env 5 = AV.sc (.int .i64 v24) ∧ fr.env 6 = AV.sc (.int .i64 v25) ∧ fr.gen 2 = g2_26 ∧ fr.box 2 = some [AV.sc (.int .i64 a0.kind), AV.sc (.int .i64 a0.index), AV.sc (.int .i64 a0.typeF.kind), AV.slice .frz (List.map Ty.av a0.typeF.args), AV.slice .frz (List.map Tm.av a0.args)]) ∧ loopN F12 n23 (v24, v25) = some out15) FU ?_ ?_
    · refine ⟨(iadd .i64 1 x5), 0, 1, ?_, ⟨?_, ?_, ?_, ?_, ?_, ?_⟩, hl16⟩ <;> first | rfl | simp
    rintro n23 fr26 h26 ⟨v24, v25, g2_26, rfl, E26, hl16⟩ K27 hK28
    rcases n23 with _ | n23
    · rw [loopN_zero] at hl16
      cases hl16
    rw [loopN_succ] at hl16
    obtain ⟨c29, hb30, hk31⟩ := bind1_some hl16
    clear hl16
    rw [hF13] at hb30
    try dsimp only at hb30
    rw [un2_mk] at hb30
    try dsimp only at hb30
    refine AWp.seqK fun K32 hk33 => ?_
    refine AWp.seqP (fun fr h => ∃ (g2_37 : Nat), H = h ∧ (fr.env 1 = AV.sc (.int .i64 a1) ∧ fr.env 2 = AV.lptr 2 g2_37 0 ∧ fr.env 5 = AV.sc (.int .i64 v24) ∧ fr.env 6 = AV.sc (.int .i64 v25) ∧ fr.env 22 = AV.sc (.bool (sel (ilt v25 (llen a0.args)) (ile v24 a1) false)) ∧ fr.gen 2 = g2_37 ∧ fr.box 2 = some [AV.sc (.int .i64 a0.kind), AV.sc (.int .i64 a0.index), AV.sc (.int .i64 a0.typeF.kind), AV.slice .frz (List.map Ty.av a0.typeF.args), AV.slice .frz (List.map Tm.av a0.args)])) (fun K34 hk35 => ?_) ?_
    · refine AWp.region [] (by decide +kernel) ?_
      rcases Bool.eq_false_or_eq_true (ilt v25 (llen a0.args)) with hc36 | hc36
      · simp [E26, hc36]
        refine hk35 _ _ ⟨g2_26, ?_, ⟨?_, ?_, ?_, ?_, ?_, ?_, ?_⟩⟩ <;> first | rfl | simp [E26, hc36]
      simp [E26, hc36]
      refine hk35 _ _ ⟨g2_26, ?_, ⟨?_, ?_, ?_, ?_, ?_, ?_, ?_⟩⟩ <;> first | rfl | simp [E26, hc36]
    rintro fr37 h37 ⟨g2_37, rfl, E37⟩
    refine AWp.condK fun A38 B39 ga40 gb41 => ?_
    rcases ite_some hb30 with ⟨hc42, hm43⟩ | ⟨hc42, hm44⟩
    rotate_left
    · clear hb30
      simp [E37, hc42]
      apply gb41
      refine AWp.exit ?_
      apply ne20
      obtain rfl := Option.some.inj hm44
      rw [ctlK_brk] at hk31
      obtain rfl := Option.some.inj hk31
      rw [sumK_inl, un2_mk] at hmB17
      try dsimp only at hmB17
      apply hk9
      refine AWp.sr [] fun K45 hk46 => ?_
      simp [E37, hc42]
      apply hk46
      refine AWp.ret ?_
      obtain rfl := Option.some.inj hmB17
      simp [retQ, E37, hc42]
    clear hb30
    simp [E37, hc42]
    apply ga40
    refine AWp.skip ?_
    apply hk33
    refine AWp.seqK fun K47 hk48 => ?_
    refine AWp.blockK fun Q49 nn50 ne51 nx52 nr53 => ?_
    refine AWp.region [] (by decide +kernel) ?_
    obtain ⟨x54, hx55, hm56⟩ := bind1_some hm43
    clear hm43
    try dsimp only at hm56
    obtain ⟨x57, hx58, hm59⟩ := bind1_some hm56
    clear hm56
    try dsimp only at hm59
    simp [E37, hx55, hc42]
    refine CallAt.fn (ih hx58) ?_
    simp [E37, hx55, hc42]
    apply nn50
    apply hk48
    refine AWp.region [] (by decide +kernel) ?_
    simp [E37, hx55, hc42]
    obtain rfl := Option.some.inj hm59
    rw [ctlK_next] at hk31
    refine hK28 _ _ n23 (Nat.lt_succ_self _) ⟨(iadd .i64 v24 x57), (iadd .i64 v25 1), g2_37, ?_, ⟨?_, ?_, ?_, ?_, ?_, ?_⟩, hk31⟩ <;> first | rfl | simp [E37, hx55, hc42]
theorem r_mk_CountTerm (T : Tabs) {H : Heap} {a0 : Tm} {a1 : Int} {r0 : Int} {n : Nat} (hm : mk_CountTerm n a0 a1 = some r0) : ACall Tryd.prog T 90 [Tm.av a0, AV.sc (.int .i64 a1)] H (AV.sc (.int .i64 r0)) H := (rg_mk_CountTerm T n) hm

theorem enters64 : entersB Tryd.prog 64 = true := by kernel_rfl

theorem r_law04_nodes (T : Tabs) {H : Heap} {a0 : Tm} {r0 : Int} (hm : law04_nodes a0 = some r0) : ACall Tryd.prog T 64 [Tm.av a0] H (AV.sc (.int .i64 r0)) H := by
  rw [law04_nodes] at hm
  refine ACallP.intro (fn := Tryd.f64) Tryd.func64 rfl enters64 (Nat.le_of_ble_eq_true rfl) ?_
  refine AWp.sr [] fun K1 hk2 => ?_
  simp
  apply hk2
  refine AWp.sr [] fun K3 hk4 => ?_
  obtain ⟨x5, hx6, hm7⟩ := bind1_some hm
  clear hm
  try dsimp only at hm7
  simp
  refine CallAt.fn (r_mk_CountTerm T hx6) ?_
  simp
  apply hk4
  refine AWp.ret ?_
  obtain rfl := Option.some.inj hm7
  simp [retQ]

theorem enters27 : entersB Tryd.prog 27 = true := by kernel_rfl

theorem r_law04_few (T : Tabs) {H : Heap} {a0 : (List Tm)} {r0 : Bool} (hm : law04_few a0 = some r0) : ACall Tryd.prog T 27 [AV.slice .frz (List.map Tm.av a0)] H (AV.sc (.bool r0)) H := by
  rw [law04_few] at hm
  refine ACallP.intro (fn := Tryd.f27) Tryd.func27 rfl enters27 (Nat.le_of_ble_eq_true rfl) ?_
  refine AWp.sr [] fun K1 hk2 => ?_
  simp
  apply hk2
  refine AWp.sr [] fun K3 hk4 => ?_
  simp
  apply hk4
  refine AWp.seqK fun K5 hk6 => ?_
  refine AWp.sr [] fun K7 hk8 => ?_
  simp
  apply hk8
  obtain ⟨hok9, hm10⟩ := chk_some hm
  clear hm
  obtain ⟨F11, hF12, hm13⟩ := joinB_some hm10
  clear hm10
  try dsimp only at hm13
  obtain ⟨out14, hl15, hmB16⟩ := bind1_some hm13
  clear hm13
  refine AWp.blockK fun Q17 nn18 ne19 nx20 nr21 => ?_
  refine AWp.loopF (fun n22 fr h => ∃ (i23 : Nat) (j24 : Int) (v25 : Int), H = h ∧ (fr.env 3 = AV.sc (.int .i64 v25) ∧ fr.env 6 = AV.slice .frz (List.map Tm.av a0) ∧ fr.env 7 = AV.sc (.int .i64 (llen a0)) ∧ fr.env 8 = AV.sc (.int .i64 j24)) ∧ j24 = (i23 : Int) ∧ i23 + n22 = List.length a0 ∧ forR F11 (List.drop i23 a0) i23 v25 = some out14) (List.length a0) ?_ ?_
  · refine ⟨0, 0, 0, ?_, ⟨?_, ?_, ?_, ?_⟩, rfl, (by simp), hl15⟩ <;> first | rfl | simp
  rintro n22 fr26 h26 ⟨i23, j24, v25, rfl, E26, hj27, hi28, hl15⟩ K29 hK30
  rcases n22 with _ | n22
  · have hlt31 := ilt_notJ (l := a0) hj27 (by omega)
    refine AWp.sr [] fun K32 hk33 => ?_
    simp [E26, hlt31]
    apply hk33
    refine AWp.seqK fun K34 hk35 => ?_
    refine AWp.condK fun A36 B37 ga38 gb39 => ?_
    simp [E26, hlt31]
    apply gb39
    refine AWp.exit ?_
    apply ne19
    rw [List.drop_eq_nil_of_le (by omega), forR_nil] at hl15
    obtain rfl := Option.some.inj hl15
    rw [sumK_inl] at hmB16
    try dsimp only at hmB16
    apply hk6
    refine AWp.sr [] fun K40 hk41 => ?_
    simp [E26, hlt31]
    apply hk41
    refine AWp.ret ?_
    obtain rfl := Option.some.inj hmB16
    simp [retQ, E26, hlt31]
  have hlt31 := ilt_ofJ (l := a0) hj27 (by omega)
  obtain ⟨x42, hdn22, hg43⟩ := drop_ltJ (l := a0) hj27 (by omega)
  rw [hdn22, forR_cons] at hl15
  obtain ⟨c44, hb45, hk46⟩ := bind1_some hl15
  clear hl15
  rw [hF12, ← hj27] at hb45
  try dsimp only at hb45
  refine AWp.sr [] fun K47 hk48 => ?_
  simp [E26, hlt31, hg43]
  apply hk48
  refine AWp.seqK fun K49 hk50 => ?_
  refine AWp.condK fun A51 B52 ga53 gb54 => ?_
  simp [E26, hlt31, hg43]
  apply ga53
  refine AWp.skip ?_
  apply hk50
  refine AWp.seqK fun K55 hk56 => ?_
  refine AWp.blockK fun Q57 nn58 ne59 nx60 nr61 => ?_
  refine AWp.sr [] fun K62 hk63 => ?_
  simp [E26, hlt31, hg43]
  apply hk63
  refine AWp.region [] (by decide +kernel) ?_
  obtain ⟨x64, hx65, hm66⟩ := bind1_some hb45
  clear hb45
  try dsimp only at hm66
  simp [E26, hlt31, hg43]
  refine CallAt.fn (r_law04_nodes T hx65) ?_
  simp [E26, hlt31, hg43]
  apply nn58
  apply hk56
  refine AWp.region [] (by decide +kernel) ?_
  simp [E26, hlt31, hg43]
  obtain rfl := Option.some.inj hm66
  rw [ctlK_next] at hk46
  refine hK30 _ _ n22 (Nat.lt_succ_self _) ⟨(i23 + 1), (iadd .i64 j24 1), (iadd .i64 v25 x64), ?_, ⟨?_, ?_, ?_, ?_⟩, (iadd_idxJ hj27 (by omega) hok9), (by omega), hk46⟩ <;> first | rfl | simp [E26, hlt31, hg43]

theorem enters65 : entersB Tryd.prog 65 = true := by kernel_rfl

theorem r_graph_Node_Redex (T : Tabs) {H : Heap} {a0 : (Option Nat)} {nh : List HC} {r0 : Bool} (hm : graph_Node_Redex a0 nh = some r0) : ACall Tryd.prog T 65 [pav (List.length H) a0] (H ++ hmap (List.length H) nh) (AV.sc (.bool r0)) (H ++ hmap (List.length H) nh) := by
  rw [graph_Node_Redex] at hm
  refine ACallP.intro (fn := Tryd.f65) Tryd.func65 rfl enters65 (Nat.le_of_ble_eq_true rfl) ?_
  refine AWp.sr [] fun K1 hk2 => ?_
  simp
  apply hk2
  refine AWp.sr [] fun K3 hk4 => ?_
  obtain ⟨x5, hx6, hm7⟩ := bind1_some hm
  clear hm
  try dsimp only at hm7
  simp
  refine CallAt.fn (r_graph_Node_redex T (H := H) hx6) ?_
  simp
  apply hk4
  refine AWp.ret ?_
  obtain rfl := Option.some.inj hm7
  simp [retQ]

theorem enters28 : entersB Tryd.prog 28 = true := by kernel_rfl

theorem r_reduce_Redex (T : Tabs) (hT : T 0 = some (AV.agg (List.map (fun n => AV.sc (Value.int .i64 n)) tree_arities))) {H : Heap} {a0 : Tm} {r0 : Bool} {r1 : Int} (hm : reduce_Redex a0 = some (r0, r1)) : ACall Tryd.prog T 28 [Tm.av a0] H (AV.tuple [AV.sc (.bool r0), AV.sc (.int .i64 r1)]) H := by
  rw [reduce_Redex] at hm
  refine ACallP.drop0 (Post := fun x K => x = AV.tuple [AV.sc (.bool r0), AV.sc (.int .i64 r1)] ∧ ∃ X, K = H ++ X) ?_ (fun _ _ h => ⟨_, h.2.choose_spec, by rw [h.1]; simp [AV.low, AV.lowL], h.1, rfl⟩)
  refine ACallP.nh0 (c := HC.cells) ?_
  refine ACallP.intro (fn := Tryd.f28) Tryd.func28 rfl enters28 (Nat.le_of_ble_eq_true rfl) ?_
  refine AWp.sr [] fun K1 hk2 => ?_
  simp [hT]
  apply hk2
  refine AWp.seqK fun K3 hk4 => ?_
  refine AWp.sr [] fun K5 hk6 => ?_
  obtain ⟨x7, hx8, hm9⟩ := bind1_some hm
  clear hm
  try dsimp only at hm9
  simp [hT]
  refine CallAt.fn (r_terms_Check T hT hx8) ?_
  simp [hT]
  apply hk6
  refine AWp.sr [] fun K10 hk11 => ?_
  simp [hT]
  apply hk11
  refine AWp.condK fun A12 B13 ga14 gb15 => ?_
  rcases ite_some hm9 with ⟨hc16, hm17⟩ | ⟨hc16, hm18⟩
  · clear hm9
    simp [hT, hc16]
    apply ga14
    refine AWp.sr [] fun K19 hk20 => ?_
    simp [hT, hc16]
    apply hk20
    refine AWp.ret ?_
    simp only [Option.some.injEq, Prod.mk.injEq] at hm17
    obtain ⟨rfl, rfl⟩ := hm17
    simp [retQ, hT, hc16]
  clear hm9
  simp [hT, hc16]
  apply gb15
  refine AWp.skip ?_
  apply hk4
  refine AWp.sr [] fun K21 hk22 => ?_
  obtain ⟨x23, nh24, hx25, hm26⟩ := bind2_some hm18
  clear hm18
  try dsimp only at hm26
  simp [hT, hc16]
  refine CallAt.fn (r_graph_From T (H := H) hx25) ?_
  obtain ⟨x27, hx28, hm29⟩ := bind1_some hm26
  clear hm26
  try dsimp only at hm29
  simp [hT, hc16]
  refine CallAt.fn (r_graph_Node_Redex T (H := H) hx28) ?_
  simp [hT, hc16]
  apply hk22
  refine AWp.ret ?_
  simp only [Option.some.injEq, Prod.mk.injEq] at hm29
  obtain ⟨rfl, rfl⟩ := hm29
  simp [retQ, hT, hc16]

theorem enters66 : entersB Tryd.prog 66 = true := by kernel_rfl

theorem r_ref04_Root (T : Tabs) {H : Heap} {a0 : Tm} {r0 : Bool} (hm : ref04_Root a0 = some r0) : ACall Tryd.prog T 66 [Tm.av a0] H (AV.sc (.bool r0)) H := by
  rw [ref04_Root] at hm
  refine ACallP.intro (fn := Tryd.f66) Tryd.func66 rfl enters66 (Nat.le_of_ble_eq_true rfl) ?_
  refine AWp.sr [] fun K1 hk2 => ?_
  simp
  apply hk2
  refine AWp.seqK fun K3 hk4 => ?_
  refine AWp.sr [] fun K5 hk6 => ?_
  simp
  apply hk6
  refine AWp.blockK fun Q7 nn8 ne9 nx10 nr11 => ?_
  refine AWp.sr [] fun K12 hk13 => ?_
  simp
  apply hk13
  refine AWp.condK fun A14 B15 ga16 gb17 => ?_
  rcases ite_some hm with ⟨hc18, hm19⟩ | ⟨hc18, hm20⟩
  · clear hm
    simp [hc18]
    apply ga16
    refine AWp.sr [] fun K21 hk22 => ?_
    obtain ⟨x23, hx24, hm25⟩ := bind1_some hm19
    clear hm19
    try dsimp only at hm25
    simp [hx24, hc18]
    apply hk22
    refine AWp.ret ?_
    apply nr11
    obtain rfl := Option.some.inj hm25
    simp [retQ, hx24, hc18]
  clear hm
  simp [hc18]
  apply gb17
  refine AWp.sr [] fun K26 hk27 => ?_
  simp [hc18]
  apply hk27
  refine AWp.condK fun A28 B29 ga30 gb31 => ?_
  rcases ite_some hm20 with ⟨hc32, hm33⟩ | ⟨hc32, hm34⟩
  · clear hm20
    simp [hc18, hc32]
    apply ga30
    obtain ⟨j35, hj36, hm37⟩ := joinB_some hm33
    clear hm33
    refine AWp.seqP (fun fr h => ∃ (v38 : Bool), H = h ∧ fr.env 2 = AV.sc (.bool v38) ∧ j35 v38 = some r0) (fun K39 hk40 => ?_) ?_
    rotate_left
    · clear hm37
      rintro fr41 h41 ⟨v38, rfl, E41, hm42⟩
      subst hj36
      refine AWp.ret ?_
      apply nr11
      obtain rfl := Option.some.inj hm42
      simp [retQ, E41, hc18, hc32]
    refine AWp.region [] (by decide +kernel) ?_
    obtain ⟨x43, hx44, hm45⟩ := bind1_some hm37
    clear hm37
    try dsimp only at hm45
    rcases ite_some hm45 with ⟨hc46, hm47⟩ | ⟨hc46, hm48⟩
    · clear hm45
      simp [hx44, hc18, hc32, hc46]
      refine hk40 _ _ ⟨true, ?_, ?_, hm47⟩ <;> first | rfl | simp [hx44, hc18, hc32, hc46]
    clear hm45
    simp [hx44, hc18, hc32, hc46]
    refine hk40 _ _ ⟨(ieq x43.kind 5), ?_, ?_, hm48⟩ <;> first | rfl | simp [hx44, hc18, hc32, hc46]
  clear hm20
  simp [hc18, hc32]
  apply gb31
  refine AWp.sr [] fun K49 hk50 => ?_
  simp [hc18, hc32]
  apply hk50
  refine AWp.condK fun A51 B52 ga53 gb54 => ?_
  rcases ite_some hm34 with ⟨hc55, hm56⟩ | ⟨hc55, hm57⟩
  · clear hm34
    simp [hc18, hc32, hc55]
    apply ga53
    obtain ⟨j58, hj59, hm60⟩ := joinB_some hm56
    clear hm56
    refine AWp.seqP (fun fr h => ∃ (v61 : Bool), H = h ∧ fr.env 2 = AV.sc (.bool v61) ∧ j58 v61 = some r0) (fun K62 hk63 => ?_) ?_
    rotate_left
    · clear hm60
      rintro fr64 h64 ⟨v61, rfl, E64, hm65⟩
      subst hj59
      refine AWp.ret ?_
      apply nr11
      obtain rfl := Option.some.inj hm65
      simp [retQ, E64, hc18, hc32, hc55]
    refine AWp.region [] (by decide +kernel) ?_
    obtain ⟨x66, hx67, hm68⟩ := bind1_some hm60
    clear hm60
    try dsimp only at hm68
    rcases ite_some hm68 with ⟨hc69, hm70⟩ | ⟨hc69, hm71⟩
    · clear hm68
      simp [hx67, hc18, hc32, hc55, hc69]
      refine hk63 _ _ ⟨true, ?_, ?_, hm70⟩ <;> first | rfl | simp [hx67, hc18, hc32, hc55, hc69]
    clear hm68
    simp [hx67, hc18, hc32, hc55, hc69]
    refine hk63 _ _ ⟨(ieq x66.kind 8), ?_, ?_, hm71⟩ <;> first | rfl | simp [hx67, hc18, hc32, hc55, hc69]
  clear hm34
  simp [hc18, hc32, hc55]
  apply gb54
  refine AWp.seqP (fun fr h => ∃ (g1_81 : Nat), H = h ∧ (fr.env 1 = AV.lptr 1 g1_81 0 ∧ fr.env 45 = AV.sc (.bool (sel (ieq a0.kind 11) true (ieq a0.kind 12))) ∧ fr.gen 1 = g1_81 ∧ fr.box 1 = some [AV.sc (.int .i64 a0.kind), AV.sc (.int .i64 a0.index), AV.sc (.int .i64 a0.typeF.kind), AV.slice .frz (List.map Ty.av a0.typeF.args), AV.slice .frz (List.map Tm.av a0.args)])) (fun K72 hk73 => ?_) ?_
  · refine AWp.sr [] fun K74 hk75 => ?_
    simp [hc18, hc32, hc55]
    apply hk75
    refine AWp.condK fun A76 B77 ga78 gb79 => ?_
    rcases Bool.eq_false_or_eq_true (ieq a0.kind 11) with hc80 | hc80
    · simp [hc18, hc32, hc55, hc80]
      apply ga78
      refine AWp.skip ?_
      refine hk73 _ _ ⟨1, ?_, ⟨?_, ?_, ?_, ?_⟩⟩ <;> first | rfl | simp [hc18, hc32, hc55, hc80]
    simp [hc18, hc32, hc55, hc80]
    apply gb79
    refine AWp.region [] (by decide +kernel) ?_
    simp [hc18, hc32, hc55, hc80]
    refine hk73 _ _ ⟨1, ?_, ⟨?_, ?_, ?_, ?_⟩⟩ <;> first | rfl | simp [hc18, hc32, hc55, hc80]
  rintro fr81 h81 ⟨g1_81, rfl, E81⟩
  refine AWp.condK fun A82 B83 ga84 gb85 => ?_
  rcases ite_some hm57 with ⟨hc86, hm87⟩ | ⟨hc86, hm88⟩
  rotate_left
  · clear hm57
    simp [E81, hc18, hc32, hc55, hc86]
    apply gb85
    refine AWp.skip ?_
    apply nn8
    apply hk4
    refine AWp.sr [] fun K89 hk90 => ?_
    simp [E81, hc18, hc32, hc55, hc86]
    apply hk90
    refine AWp.ret ?_
    obtain rfl := Option.some.inj hm88
    simp [retQ, E81, hc18, hc32, hc55, hc86]
  clear hm57
  simp [E81, hc18, hc32, hc55, hc86]
  apply ga84
  refine AWp.sr [] fun K91 hk92 => ?_
  obtain ⟨x93, hx94, hm95⟩ := bind1_some hm87
  clear hm87
  try dsimp only at hm95
  simp [E81, hx94, hc18, hc32, hc55, hc86]
  apply hk92
  refine AWp.ret ?_
  apply nr11
  obtain rfl := Option.some.inj hm95
  simp [retQ, E81, hx94, hc18, hc32, hc55, hc86]

theorem enters29 : entersB Tryd.prog 29 = true := by kernel_rfl

theorem r_ref04_Redex (T : Tabs) {H : Heap} {a0 : Tm} {r0 : Bool} {r1 : Int} (hm : ref04_Redex a0 = some (r0, r1)) : ACall Tryd.prog T 29 [Tm.av a0] H (AV.tuple [AV.sc (.bool r0), AV.sc (.int .i64 r1)]) H := by
  rw [ref04_Redex] at hm
  refine ACallP.intro (fn := Tryd.f29) Tryd.func29 rfl enters29 (Nat.le_of_ble_eq_true rfl) ?_
  refine AWp.sr [] fun K1 hk2 => ?_
  simp
  apply hk2
  refine AWp.seqK fun K3 hk4 => ?_
  refine AWp.sr [] fun K5 hk6 => ?_
  obtain ⟨x7, hx8, hm9⟩ := bind1_some hm
  clear hm
  try dsimp only at hm9
  simp
  refine CallAt.fn (r_ref02_Check T hx8) ?_
  simp
  apply hk6
  refine AWp.sr [] fun K10 hk11 => ?_
  simp
  apply hk11
  refine AWp.condK fun A12 B13 ga14 gb15 => ?_
  rcases ite_some hm9 with ⟨hc16, hm17⟩ | ⟨hc16, hm18⟩
  · clear hm9
    simp [hc16]
    apply ga14
    refine AWp.sr [] fun K19 hk20 => ?_
    simp [hc16]
    apply hk20
    refine AWp.ret ?_
    simp only [Option.some.injEq, Prod.mk.injEq] at hm17
    obtain ⟨rfl, rfl⟩ := hm17
    simp [retQ, hc16]
  clear hm9
  simp [hc16]
  apply gb15
  refine AWp.skip ?_
  apply hk4
  refine AWp.sr [] fun K21 hk22 => ?_
  obtain ⟨x23, hx24, hm25⟩ := bind1_some hm18
  clear hm18
  try dsimp only at hm25
  simp [hc16]
  refine CallAt.fn (r_ref04_Root T hx24) ?_
  simp [hc16]
  apply hk22
  refine AWp.ret ?_
  simp only [Option.some.injEq, Prod.mk.injEq] at hm25
  obtain ⟨rfl, rfl⟩ := hm25
  simp [retQ, hc16]

theorem enters67 : entersB Tryd.prog 67 = true := by kernel_rfl

theorem r_graph_Node_Contract (T : Tabs) {H : Heap} {a0 : (Option Nat)} {nh : List HC} {r0 : (Option Nat)} {r1 : Bool} {nh1 : List HC} (hm : graph_Node_Contract a0 nh = some (r0, r1, nh1)) : ACall Tryd.prog T 67 [pav (List.length H) a0] (H ++ hmap (List.length H) nh) (AV.tuple [pav (List.length H) r0, AV.sc (.bool r1)]) (H ++ hmap (List.length H) nh1) := by
  rw [graph_Node_Contract] at hm
  refine ACallP.intro (fn := Tryd.f67) Tryd.func67 rfl enters67 (Nat.le_of_ble_eq_true rfl) ?_
  refine AWp.sr [] fun K1 hk2 => ?_
  simp
  apply hk2
  refine AWp.seqK fun K3 hk4 => ?_
  refine AWp.sr [] fun K5 hk6 => ?_
  obtain ⟨x7, hx8, hm9⟩ := bind1_some hm
  clear hm
  try dsimp only at hm9
  simp
  refine CallAt.fn (r_graph_Node_grownR T (H := H) hx8) ?_
  simp
  apply hk6
  refine AWp.condK fun A10 B11 ga12 gb13 => ?_
  rcases ite_some hm9 with ⟨hc14, hm15⟩ | ⟨hc14, hm16⟩
  · clear hm9
    simp [hc14]
    apply ga12
    refine AWp.sr [] fun K17 hk18 => ?_
    simp [hc14]
    apply hk18
    refine AWp.ret ?_
    simp only [Option.some.injEq, Prod.mk.injEq] at hm15
    obtain ⟨rfl, rfl, rfl⟩ := hm15
    simp [retQ, hc14]
  clear hm9
  simp [hc14]
  apply gb13
  refine AWp.skip ?_
  apply hk4
  refine AWp.sr [] fun K19 hk20 => ?_
  obtain ⟨x21, nh22, hx23, hm24⟩ := bind2_some hm16
  clear hm16
  try dsimp only at hm24
  simp [hc14]
  refine CallAt.fn (r_graph_Node_contract T (H := H) hx23) ?_
  simp [hc14]
  apply hk20
  refine AWp.ret ?_
  simp only [Option.some.injEq, Prod.mk.injEq] at hm24
  obtain ⟨rfl, rfl, rfl⟩ := hm24
  simp [retQ, hc14]

theorem enters30 : entersB Tryd.prog 30 = true := by kernel_rfl

theorem r_reduce_Contract (T : Tabs) (hT : T 0 = some (AV.agg (List.map (fun n => AV.sc (Value.int .i64 n)) tree_arities))) {H : Heap} {a0 : Tm} {r0 : Tm} {r1 : Int} (hm : reduce_Contract a0 = some (r0, r1)) : ACall Tryd.prog T 30 [Tm.av a0] H (AV.tuple [Tm.av r0, AV.sc (.int .i64 r1)]) H := by
  rw [reduce_Contract] at hm
  refine ACallP.drop0 (Post := fun x K => x = AV.tuple [Tm.av r0, AV.sc (.int .i64 r1)] ∧ ∃ X, K = H ++ X) ?_ (fun _ _ h => ⟨_, h.2.choose_spec, by rw [h.1]; simp [AV.low, AV.lowL], h.1, rfl⟩)
  refine ACallP.nh0 (c := HC.cells) ?_
  refine ACallP.intro (fn := Tryd.f30) Tryd.func30 rfl enters30 (Nat.le_of_ble_eq_true rfl) ?_
  refine AWp.sr [] fun K1 hk2 => ?_
  simp [hT]
  apply hk2
  refine AWp.sr [] fun K3 hk4 => ?_
  obtain ⟨x5, x6, hx7, hm8⟩ := bind2_some hm
  clear hm
  try dsimp only at hm8
  simp [hT]
  refine CallAt.fn (r_reduce_Redex T hT hx7) ?_
  simp [hT]
  apply hk4
  refine AWp.seqK fun K9 hk10 => ?_
  refine AWp.blockK fun Q11 nn12 ne13 nx14 nr15 => ?_
  refine AWp.sr [] fun K16 hk17 => ?_
  simp [hT]
  apply hk17
  refine AWp.condK fun A18 B19 ga20 gb21 => ?_
  rcases ite_some hm8 with ⟨hc22, hm23⟩ | ⟨hc22, hm24⟩
  · clear hm8
    simp [hT, hc22]
    apply ga20
    refine AWp.sr [] fun K25 hk26 => ?_
    simp [hT, hc22]
    apply hk26
    refine AWp.ret ?_
    apply nr15
    simp only [Option.some.injEq, Prod.mk.injEq] at hm23
    obtain ⟨rfl, rfl⟩ := hm23
    simp [retQ, hT, hc22]
  clear hm8
  simp [hT, hc22]
  apply gb21
  refine AWp.sr [] fun K27 hk28 => ?_
  simp [hT, hc22]
  apply hk28
  refine AWp.condK fun A29 B30 ga31 gb32 => ?_
  rcases ite_some hm24 with ⟨hc33, hm34⟩ | ⟨hc33, hm35⟩
  rotate_left
  · clear hm24
    simp [hT, hc22, hc33]
    apply ga31
    refine AWp.sr [] fun K36 hk37 => ?_
    simp [hT, hc22, hc33]
    apply hk37
    refine AWp.ret ?_
    apply nr15
    simp only [Option.some.injEq, Prod.mk.injEq] at hm35
    obtain ⟨rfl, rfl⟩ := hm35
    simp [retQ, hT, hc22, hc33]
  clear hm24
  simp [hT, hc22, hc33]
  apply gb32
  refine AWp.sr [] fun K38 hk39 => ?_
  obtain ⟨x40, hx41, hm42⟩ := bind1_some hm34
  clear hm34
  try dsimp only at hm42
  simp [hT, hc22, hc33]
  refine CallAt.fn (r_tree_Near T hx41) ?_
  simp [hT, hc22, hc33]
  apply hk39
  refine AWp.condK fun A43 B44 ga45 gb46 => ?_
  rcases ite_some hm42 with ⟨hc47, hm48⟩ | ⟨hc47, hm49⟩
  rotate_left
  · clear hm42
    simp [hT, hc22, hc33, hc47]
    apply ga45
    refine AWp.sr [] fun K50 hk51 => ?_
    simp [hT, hc22, hc33, hc47]
    apply hk51
    refine AWp.ret ?_
    apply nr15
    simp only [Option.some.injEq, Prod.mk.injEq] at hm49
    obtain ⟨rfl, rfl⟩ := hm49
    simp [retQ, hT, hc22, hc33, hc47]
  clear hm42
  simp [hT, hc22, hc33, hc47]
  apply gb46
  refine AWp.skip ?_
  apply nn12
  apply hk10
  refine AWp.sr [] fun K52 hk53 => ?_
  obtain ⟨x54, nh55, hx56, hm57⟩ := bind2_some hm48
  clear hm48
  try dsimp only at hm57
  simp [hT, hc22, hc33, hc47]
  refine CallAt.fn (r_graph_From T (H := H) hx56) ?_
  obtain ⟨x58, x59, nh60, hx61, hm62⟩ := bind3_some hm57
  clear hm57
  try dsimp only at hm62
  simp [hT, hc22, hc33, hc47]
  refine CallAt.fn (r_graph_Node_Contract T (H := H) hx61) ?_
  simp [hT, hc22, hc33, hc47]
  apply hk53
  refine AWp.seqK fun K63 hk64 => ?_
  refine AWp.sr [] fun K65 hk66 => ?_
  simp [hT, hc22, hc33, hc47]
  apply hk66
  refine AWp.condK fun A67 B68 ga69 gb70 => ?_
  rcases ite_some hm62 with ⟨hc71, hm72⟩ | ⟨hc71, hm73⟩
  rotate_left
  · clear hm62
    simp [hT, hc22, hc33, hc47, hc71]
    apply ga69
    refine AWp.sr [] fun K74 hk75 => ?_
    simp [hT, hc22, hc33, hc47, hc71]
    apply hk75
    refine AWp.ret ?_
    simp only [Option.some.injEq, Prod.mk.injEq] at hm73
    obtain ⟨rfl, rfl⟩ := hm73
    simp [retQ, hT, hc22, hc33, hc47, hc71]
  clear hm62
  simp [hT, hc22, hc33, hc47, hc71]
  apply gb70
  refine AWp.skip ?_
  apply hk64
  refine AWp.sr [] fun K76 hk77 => ?_
  obtain ⟨x78, hx79, hm80⟩ := bind1_some hm72
  clear hm72
  try dsimp only at hm80
  simp [hT, hc22, hc33, hc47, hc71]
  refine CallAt.fn (r_graph_Node_Term T (H := H) hx79) ?_
  simp [hT, hc22, hc33, hc47, hc71]
  apply hk77
  refine AWp.ret ?_
  simp only [Option.some.injEq, Prod.mk.injEq] at hm80
  obtain ⟨rfl, rfl⟩ := hm80
  simp [retQ, hT, hc22, hc33, hc47, hc71]

end Go.Proofs.YtnabbjnhemmkhaaDoor
