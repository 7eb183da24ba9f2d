/- The program's functions do what the models say. -/
import Derived.Test.YtnabbjnhemmkhaaDoorRR02
import Derived.Test.YtnabbjnhemmkhaaDoorRM
set_option maxRecDepth 20000
set_option maxHeartbeats 4000000
set_option linter.unusedSimpArgs false
set_option linter.unusedVariables false
namespace Go.Proofs.YtnabbjnhemmkhaaDoor
open Go Go.Abs Go.Mdl

theorem enters98 : entersB Tryd.prog 98 = true := by kernel_rfl

theorem r_graph_Node_with (T : Tabs) {H : Heap} {a0 : (Option Nat)} {a1 : (List (Option Nat))} {nh : List HC} {r0 : (Option Nat)} {nh1 : List HC} (hm : graph_Node_with a0 a1 nh = some (r0, nh1)) : ACall Tryd.prog T 98 [pav (List.length H) a0, AV.slice .frz (List.map (pav (List.length H)) a1)] (H ++ hmap (List.length H) nh) (pav (List.length H) r0) (H ++ hmap (List.length H) nh1) := by
  rw [graph_Node_with] at hm
  refine ACallP.intro (fn := Tryd.f98) Tryd.func98 rfl enters98 (Nat.le_of_ble_eq_true rfl) ?_
  refine AWp.sr [] fun K1 hk2 => ?_
  simp
  apply hk2
  refine AWp.seqK fun K3 hk4 => ?_
  refine AWp.regionS [] false [true, true, true, false, true, true, true, false, true, true, true, false, true, true, true] mixed (by decide +kernel) (by decide +kernel) ?_
  obtain ⟨x5, hx6, hm7⟩ := bind1_some hm
  clear hm
  try dsimp only at hm7
  obtain ⟨x8, hx9, hm10⟩ := bind1_some hm7
  replace hx9 := HC.get_cgraph_Node_some hx9
  clear hm7
  try dsimp only at hm10
  obtain ⟨x11, nh12, hx13, hm14⟩ := bind2_some hm10
  clear hm10
  try dsimp only at hm14
  simp [hx6, hx9]
  refine CallAtS.fn (r_graph_build T (H := H) hx13) (by simp) ?_
  simp [hx6, hx9]
  apply hk4
  refine AWp.ret ?_
  simp only [Option.some.injEq, Prod.mk.injEq] at hm14
  obtain ⟨rfl, rfl⟩ := hm14
  simp [retQ, hx6, hx9]

theorem enters115 : entersB Tryd.prog 115 = true := by kernel_rfl

theorem rg_graph_Node_lift (T : Tabs) : ∀ (n : Nat), (∀ {H : Heap} {a0 : (Option Nat)} {a1 : Int} {a2 : Int} {nh : List HC} {r0 : (Option Nat)} {nh1 : List HC} (hm : graph_Node_lift n a0 a1 a2 nh = some (r0, nh1)), ACall Tryd.prog T 115 [pav (List.length H) a0, AV.sc (.int .i64 a1), AV.sc (.int .i64 a2)] (H ++ hmap (List.length H) nh) (pav (List.length H) r0) (H ++ hmap (List.length H) nh1)) := by
  intro n
  induction n with
  | zero =>
    skip
    all_goals
      intros
      rename_i hm
      cases hm
  | succ n ih =>
    intro H a0 a1 a2 nh r0 nh1 hm
    rw [graph_Node_lift] at hm
    refine ACallP.intro (fn := Tryd.f115) Tryd.func115 rfl enters115 (Nat.le_of_ble_eq_true rfl) ?_
    refine AWp.sr [] fun K1 hk2 => ?_
    simp
    apply hk2
    refine AWp.seqK fun K3 hk4 => ?_
    obtain ⟨j5, hj6, hm7⟩ := joinB_some hm
    clear hm
    refine AWp.seqP (fun fr h => ∃ (v8 : Bool), H ++ hmap (List.length H) nh = h ∧ (fr.env 0 = pav (List.length H) a0 ∧ fr.env 1 = AV.sc (.int .i64 a1) ∧ fr.env 2 = AV.sc (.int .i64 a2) ∧ fr.env 19 = AV.sc (.bool v8)) ∧ j5 v8 = some (r0, nh1)) (fun K9 hk10 => ?_) ?_
    · refine AWp.region [] (by decide +kernel) ?_
      obtain ⟨x11, hx12, hm13⟩ := bind1_some hm7
      clear hm7
      try dsimp only at hm13
      obtain ⟨x14, hx15, hm16⟩ := bind1_some hm13
      replace hx15 := HC.get_cgraph_Node_some hx15
      clear hm13
      try dsimp only at hm16
      rcases ite_some hm16 with ⟨hc17, hm18⟩ | ⟨hc17, hm19⟩
      · clear hm16
        simp [hx12, hx15, hc17]
        refine hk10 _ _ ⟨true, ?_, ⟨?_, ?_, ?_, ?_⟩, hm18⟩ <;> first | rfl | simp [hx12, hx15, hc17]
      clear hm16
      simp [hx12, hx15, hc17]
      refine hk10 _ _ ⟨(ieq a2 0), ?_, ⟨?_, ?_, ?_, ?_⟩, hm19⟩ <;> first | rfl | simp [hx12, hx15, hc17]
    clear hm7
    rintro fr20 h20 ⟨v8, rfl, E20, hm21⟩
    subst hj6
    refine AWp.condK fun A22 B23 ga24 gb25 => ?_
    rcases ite_some hm21 with ⟨hc26, hm27⟩ | ⟨hc26, hm28⟩
    · clear hm21
      simp [E20, hc26]
      apply ga24
      refine AWp.sr [] fun K29 hk30 => ?_
      simp [E20, hc26]
      apply hk30
      refine AWp.ret ?_
      simp only [Option.some.injEq, Prod.mk.injEq] at hm27
      obtain ⟨rfl, rfl⟩ := hm27
      simp [retQ, E20, hc26]
    clear hm21
    simp [E20, hc26]
    apply gb25
    refine AWp.skip ?_
    apply hk4
    refine AWp.seqK fun K31 hk32 => ?_
    refine AWp.sr [] fun K33 hk34 => ?_
    obtain ⟨x35, hx36, hm37⟩ := bind1_some hm28
    clear hm28
    try dsimp only at hm37
    obtain ⟨x38, hx39, hm40⟩ := bind1_some hm37
    replace hx39 := HC.get_cgraph_Node_some hx39
    clear hm37
    try dsimp only at hm40
    simp [E20, hx36, hx39, hc26]
    apply hk34
    refine AWp.condK fun A41 B42 ga43 gb44 => ?_
    rcases ite_some hm40 with ⟨hc45, hm46⟩ | ⟨hc45, hm47⟩
    · clear hm40
      simp [E20, hx36, hx39, hc26, hc45]
      apply ga43
      refine AWp.seqK fun K48 hk49 => ?_
      refine AWp.regionS [] false [true, true, true, false, true, true, true, false, true, true, true, true, true, false, true, true] mixed (by decide +kernel) (by decide +kernel) ?_
      obtain ⟨x50, nh51, hx52, hm53⟩ := bind2_some hm46
      clear hm46
      try dsimp only at hm53
      simp [E20, hx36, hx39, hc26, hc45]
      refine CallAtS.fn (r_graph_build T (H := H) hx52) (by simp) ?_
      simp [E20, hx36, hx39, hc26, hc45]
      apply hk49
      refine AWp.ret ?_
      simp only [Option.some.injEq, Prod.mk.injEq] at hm53
      obtain ⟨rfl, rfl⟩ := hm53
      simp [retQ, E20, hx36, hx39, hc26, hc45]
    clear hm40
    simp [E20, hx36, hx39, hc26, hc45]
    apply gb44
    refine AWp.skip ?_
    apply hk32
    refine AWp.sr [] fun K54 hk55 => ?_
    simp [E20, hx36, hx39, hc26, hc45]
    apply hk55
    refine AWp.seqK fun K56 hk57 => ?_
    refine AWp.sr [] fun K58 hk59 => ?_
    simp [E20, hx36, hx39, hc26, hc45]
    apply hk59
    obtain ⟨hok60, hm61⟩ := chk_some hm47
    clear hm47
    obtain ⟨F62, hF63, hm64⟩ := joinB_some hm61
    clear hm61
    try dsimp only at hm64
    obtain ⟨out65, hl66, hmB67⟩ := bind1_some hm64
    clear hm64
    refine AWp.blockK fun Q68 nn69 ne70 nx71 nr72 => ?_
    refine AWp.loopF (fun n73 fr h => ∃ (i74 : Nat) (j75 : Int) (v76 : (List (Option Nat))) (v77 : List HC) (tg0_78 : Tag), H ++ hmap (List.length H) v77 = h ∧ (fr.env 0 = pav (List.length H) a0 ∧ fr.env 1 = AV.sc (.int .i64 a1) ∧ fr.env 2 = AV.sc (.int .i64 a2) ∧ fr.env 7 = AV.slice tg0_78 (List.map (pav (List.length H)) v76) ∧ fr.env 44 = AV.slice .frz (List.map (pav (List.length H)) x38.args) ∧ fr.env 45 = AV.sc (.int .i64 (llen x38.args)) ∧ fr.env 46 = AV.sc (.int .i64 j75)) ∧ OwnT fr.tab fr.tgen [59] tg0_78 (List.length v76) ∧ j75 = (i74 : Int) ∧ i74 + n73 = List.length x38.args ∧ forR F62 (List.drop i74 x38.args) i74 (v76, v77) = some out65) (List.length x38.args) ?_ ?_
    · refine ⟨0, 0, [], nh, .full, ?_, ⟨?_, ?_, ?_, ?_, ?_, ?_, ?_⟩, OwnT.full, rfl, (by simp), hl66⟩ <;> first | rfl | simp [E20, hx36, hx39, hc26, hc45]
    rintro n73 fr78 h78 ⟨i74, j75, v76, v77, tg0_78, rfl, E78, o0_78, hj79, hi80, hl66⟩ K81 hK82
    rcases n73 with _ | n73
    · have hlt83 := ilt_notJ (l := x38.args) hj79 (by omega)
      refine AWp.sr [] fun K84 hk85 => ?_
      simp [E78, hx36, hx39, hlt83, hc26, hc45]
      apply hk85
      refine AWp.seqK fun K86 hk87 => ?_
      refine AWp.condK fun A88 B89 ga90 gb91 => ?_
      simp [E78, hx36, hx39, hlt83, hc26, hc45]
      apply gb91
      refine AWp.exit ?_
      apply ne70
      rw [List.drop_eq_nil_of_le (by omega), forR_nil] at hl66
      obtain rfl := Option.some.inj hl66
      rw [sumK_inl, un2_mk] at hmB67
      try dsimp only at hmB67
      apply hk57
      refine AWp.sr [] fun K92 hk93 => ?_
      obtain ⟨x94, nh95, hx96, hm97⟩ := bind2_some hmB67
      clear hmB67
      try dsimp only at hm97
      simp [E78, hx36, hx39, hlt83, hc26, hc45]
      refine CallAt.fn (r_graph_Node_with T (H := H) hx96) ?_
      simp [E78, hx36, hx39, hlt83, hc26, hc45]
      apply hk93
      refine AWp.ret ?_
      simp only [Option.some.injEq, Prod.mk.injEq] at hm97
      obtain ⟨rfl, rfl⟩ := hm97
      simp [retQ, E78, hx36, hx39, hlt83, hc26, hc45]
    have hlt83 := ilt_ofJ (l := x38.args) hj79 (by omega)
    obtain ⟨x98, hdn73, hg99⟩ := drop_ltJ (l := x38.args) hj79 (by omega)
    rw [hdn73, forR_cons] at hl66
    obtain ⟨c100, hb101, hk102⟩ := bind1_some hl66
    clear hl66
    rw [hF63, ← hj79] at hb101
    try dsimp only at hb101
    rw [un2_mk] at hb101
    try dsimp only at hb101
    refine AWp.sr [] fun K103 hk104 => ?_
    simp [E78, hx36, hx39, hlt83, hg99, hc26, hc45]
    apply hk104
    refine AWp.seqK fun K105 hk106 => ?_
    refine AWp.condK fun A107 B108 ga109 gb110 => ?_
    simp [E78, hx36, hx39, hlt83, hg99, hc26, hc45]
    apply ga109
    refine AWp.skip ?_
    apply hk106
    refine AWp.seqK fun K111 hk112 => ?_
    refine AWp.blockK fun Q113 nn114 ne115 nx116 nr117 => ?_
    refine AWp.sr [] fun K118 hk119 => ?_
    simp [E78, hx36, hx39, hlt83, hg99, hc26, hc45]
    apply hk119
    refine AWp.region [] (by decide +kernel) ?_
    obtain ⟨x120, hx121, hm122⟩ := bind1_some hb101
    clear hb101
    try dsimp only at hm122
    simp [E78, hx36, hx39, hlt83, hg99, hc26, hc45]
    refine CallAt.fn (r_graph_Node_below T (H := H) hx121) ?_
    obtain ⟨x123, nh124, hx125, hm126⟩ := bind2_some hm122
    clear hm122
    try dsimp only at hm126
    simp [E78, hx36, hx39, hlt83, hg99, hc26, hc45]
    refine CallAt.fn (ih (H := H) hx125) ?_
    obtain ⟨ha127, hm128⟩ := chk_some hm126
    clear hm126
    simp [E78, hx36, hx39, hlt83, hg99, hc26, hc45]
    refine AppAt2.own (f := (pav (List.length H))) v76 [x123] o0_78 ap99 (by intro x; simp) ha127 (by first | rfl | simp) (by first | rfl | simp) ?_
    simp [E78, hx36, hx39, hlt83, hg99, hc26, hc45]
    apply nn114
    apply hk112
    refine AWp.region [] (by decide +kernel) ?_
    simp [E78, hx36, hx39, hlt83, hg99, hc26, hc45]
    obtain rfl := Option.some.inj hm128
    rw [ctlK_next] at hk102
    refine hK82 _ _ n73 (Nat.lt_succ_self _) ⟨(i74 + 1), (iadd .i64 j75 1), (lapp v76 [x123]), nh124, (.loc 59 (fr78.tgen 59 + 1)), ?_, ⟨?_, ?_, ?_, ?_, ?_, ?_, ?_⟩, (OwnT.mono (D := [59]) (OwnT.new (D := [59]) (d := 59) (by decide)) (by decide)), (iadd_idxJ hj79 (by omega) hok60), (by omega), hk102⟩ <;> first | rfl | simp [E78, hx36, hx39, hlt83, hg99, hc26, hc45]
theorem r_graph_Node_lift (T : Tabs) {H : Heap} {a0 : (Option Nat)} {a1 : Int} {a2 : Int} {nh : List HC} {r0 : (Option Nat)} {nh1 : List HC} {n : Nat} (hm : graph_Node_lift n a0 a1 a2 nh = some (r0, nh1)) : ACall Tryd.prog T 115 [pav (List.length H) a0, AV.sc (.int .i64 a1), AV.sc (.int .i64 a2)] (H ++ hmap (List.length H) nh) (pav (List.length H) r0) (H ++ hmap (List.length H) nh1) := (rg_graph_Node_lift T n) hm

theorem enters107 : entersB Tryd.prog 107 = true := by kernel_rfl

theorem rg_graph_Node_put (T : Tabs) : ∀ (n : Nat), (∀ {H : Heap} {a0 : (Option Nat)} {a1 : Int} {a2 : (Option Nat)} {nh : List HC} {r0 : (Option Nat)} {nh1 : List HC} (hm : graph_Node_put n a0 a1 a2 nh = some (r0, nh1)), ACall Tryd.prog T 107 [pav (List.length H) a0, AV.sc (.int .i64 a1), pav (List.length H) a2] (H ++ hmap (List.length H) nh) (pav (List.length H) r0) (H ++ hmap (List.length H) nh1)) := by
  intro n
  induction n with
  | zero =>
    skip
    all_goals
      intros
      rename_i hm
      cases hm
  | succ n ih =>
    intro H a0 a1 a2 nh r0 nh1 hm
    rw [graph_Node_put] at hm
    refine ACallP.intro (fn := Tryd.f107) Tryd.func107 rfl enters107 (Nat.le_of_ble_eq_true rfl) ?_
    refine AWp.sr [] fun K1 hk2 => ?_
    simp
    apply hk2
    refine AWp.seqK fun K3 hk4 => ?_
    refine AWp.sr [] fun K5 hk6 => ?_
    obtain ⟨x7, hx8, hm9⟩ := bind1_some hm
    clear hm
    try dsimp only at hm9
    obtain ⟨x10, hx11, hm12⟩ := bind1_some hm9
    replace hx11 := HC.get_cgraph_Node_some hx11
    clear hm9
    try dsimp only at hm12
    simp [hx8, hx11]
    apply hk6
    refine AWp.condK fun A13 B14 ga15 gb16 => ?_
    rcases ite_some hm12 with ⟨hc17, hm18⟩ | ⟨hc17, hm19⟩
    · clear hm12
      simp [hx8, hx11, hc17]
      apply ga15
      refine AWp.sr [] fun K20 hk21 => ?_
      simp [hx8, hx11, hc17]
      apply hk21
      refine AWp.ret ?_
      simp only [Option.some.injEq, Prod.mk.injEq] at hm18
      obtain ⟨rfl, rfl⟩ := hm18
      simp [retQ, hx8, hx11, hc17]
    clear hm12
    simp [hx8, hx11, hc17]
    apply gb16
    refine AWp.skip ?_
    apply hk4
    refine AWp.seqK fun K22 hk23 => ?_
    refine AWp.sr [] fun K24 hk25 => ?_
    simp [hx8, hx11, hc17]
    apply hk25
    refine AWp.condK fun A26 B27 ga28 gb29 => ?_
    rcases ite_some hm19 with ⟨hc30, hm31⟩ | ⟨hc30, hm32⟩
    · clear hm19
      simp [hx8, hx11, hc17, hc30]
      apply ga28
      refine AWp.seqK fun K33 hk34 => ?_
      refine AWp.sr [] fun K35 hk36 => ?_
      simp [hx8, hx11, hc17, hc30]
      apply hk36
      refine AWp.condK fun A37 B38 ga39 gb40 => ?_
      rcases ite_some hm31 with ⟨hc41, hm42⟩ | ⟨hc41, hm43⟩
      · clear hm31
        simp [hx8, hx11, hc17, hc30, hc41]
        apply ga39
        refine AWp.sr [] fun K44 hk45 => ?_
        obtain ⟨x46, nh47, hx48, hm49⟩ := bind2_some hm42
        clear hm42
        try dsimp only at hm49
        simp [hx8, hx11, hc17, hc30, hc41]
        refine CallAt.fn (r_graph_Node_lift T (H := H) hx48) ?_
        simp [hx8, hx11, hc17, hc30, hc41]
        apply hk45
        refine AWp.ret ?_
        simp only [Option.some.injEq, Prod.mk.injEq] at hm49
        obtain ⟨rfl, rfl⟩ := hm49
        simp [retQ, hx8, hx11, hc17, hc30, hc41]
      clear hm31
      simp [hx8, hx11, hc17, hc30, hc41]
      apply gb40
      refine AWp.skip ?_
      apply hk34
      refine AWp.seqK fun K50 hk51 => ?_
      refine AWp.regionS [] false [true, true, true, false, true, true, true, false, true, true, true, true, false, true, true] mixed (by decide +kernel) (by decide +kernel) ?_
      obtain ⟨x52, nh53, hx54, hm55⟩ := bind2_some hm43
      clear hm43
      try dsimp only at hm55
      simp [hx8, hx11, hc17, hc30, hc41]
      refine CallAtS.fn (r_graph_build T (H := H) hx54) (by simp) ?_
      simp [hx8, hx11, hc17, hc30, hc41]
      apply hk51
      refine AWp.ret ?_
      simp only [Option.some.injEq, Prod.mk.injEq] at hm55
      obtain ⟨rfl, rfl⟩ := hm55
      simp [retQ, hx8, hx11, hc17, hc30, hc41]
    clear hm19
    simp [hx8, hx11, hc17, hc30]
    apply gb29
    refine AWp.skip ?_
    apply hk23
    refine AWp.sr [] fun K56 hk57 => ?_
    simp [hx8, hx11, hc17, hc30]
    apply hk57
    refine AWp.seqK fun K58 hk59 => ?_
    refine AWp.sr [] fun K60 hk61 => ?_
    simp [hx8, hx11, hc17, hc30]
    apply hk61
    obtain ⟨hok62, hm63⟩ := chk_some hm32
    clear hm32
    obtain ⟨F64, hF65, hm66⟩ := joinB_some hm63
    clear hm63
    try dsimp only at hm66
    obtain ⟨out67, hl68, hmB69⟩ := bind1_some hm66
    clear hm66
    refine AWp.blockK fun Q70 nn71 ne72 nx73 nr74 => ?_
    refine AWp.loopF (fun n75 fr h => ∃ (i76 : Nat) (j77 : Int) (v78 : (List (Option Nat))) (v79 : List HC) (tg0_80 : Tag), H ++ hmap (List.length H) v79 = h ∧ (fr.env 0 = pav (List.length H) a0 ∧ fr.env 1 = AV.sc (.int .i64 a1) ∧ fr.env 2 = pav (List.length H) a2 ∧ fr.env 7 = AV.slice tg0_80 (List.map (pav (List.length H)) v78) ∧ fr.env 48 = AV.slice .frz (List.map (pav (List.length H)) x10.args) ∧ fr.env 49 = AV.sc (.int .i64 (llen x10.args)) ∧ fr.env 50 = AV.sc (.int .i64 j77)) ∧ OwnT fr.tab fr.tgen [63] tg0_80 (List.length v78) ∧ j77 = (i76 : Int) ∧ i76 + n75 = List.length x10.args ∧ forR F64 (List.drop i76 x10.args) i76 (v78, v79) = some out67) (List.length x10.args) ?_ ?_
    · refine ⟨0, 0, [], nh, .full, ?_, ⟨?_, ?_, ?_, ?_, ?_, ?_, ?_⟩, OwnT.full, rfl, (by simp), hl68⟩ <;> first | rfl | simp [hx8, hx11, hc17, hc30]
    rintro n75 fr80 h80 ⟨i76, j77, v78, v79, tg0_80, rfl, E80, o0_80, hj81, hi82, hl68⟩ K83 hK84
    rcases n75 with _ | n75
    · have hlt85 := ilt_notJ (l := x10.args) hj81 (by omega)
      refine AWp.sr [] fun K86 hk87 => ?_
      simp [E80, hx8, hx11, hlt85, hc17, hc30]
      apply hk87
      refine AWp.seqK fun K88 hk89 => ?_
      refine AWp.condK fun A90 B91 ga92 gb93 => ?_
      simp [E80, hx8, hx11, hlt85, hc17, hc30]
      apply gb93
      refine AWp.exit ?_
      apply ne72
      rw [List.drop_eq_nil_of_le (by omega), forR_nil] at hl68
      obtain rfl := Option.some.inj hl68
      rw [sumK_inl, un2_mk] at hmB69
      try dsimp only at hmB69
      apply hk59
      refine AWp.sr [] fun K94 hk95 => ?_
      obtain ⟨x96, nh97, hx98, hm99⟩ := bind2_some hmB69
      clear hmB69
      try dsimp only at hm99
      simp [E80, hx8, hx11, hlt85, hc17, hc30]
      refine CallAt.fn (r_graph_Node_with T (H := H) hx98) ?_
      simp [E80, hx8, hx11, hlt85, hc17, hc30]
      apply hk95
      refine AWp.ret ?_
      simp only [Option.some.injEq, Prod.mk.injEq] at hm99
      obtain ⟨rfl, rfl⟩ := hm99
      simp [retQ, E80, hx8, hx11, hlt85, hc17, hc30]
    have hlt85 := ilt_ofJ (l := x10.args) hj81 (by omega)
    obtain ⟨x100, hdn75, hg101⟩ := drop_ltJ (l := x10.args) hj81 (by omega)
    rw [hdn75, forR_cons] at hl68
    obtain ⟨c102, hb103, hk104⟩ := bind1_some hl68
    clear hl68
    rw [hF65, ← hj81] at hb103
    try dsimp only at hb103
    rw [un2_mk] at hb103
    try dsimp only at hb103
    refine AWp.sr [] fun K105 hk106 => ?_
    simp [E80, hx8, hx11, hlt85, hg101, hc17, hc30]
    apply hk106
    refine AWp.seqK fun K107 hk108 => ?_
    refine AWp.condK fun A109 B110 ga111 gb112 => ?_
    simp [E80, hx8, hx11, hlt85, hg101, hc17, hc30]
    apply ga111
    refine AWp.skip ?_
    apply hk108
    refine AWp.seqK fun K113 hk114 => ?_
    refine AWp.blockK fun Q115 nn116 ne117 nx118 nr119 => ?_
    refine AWp.sr [] fun K120 hk121 => ?_
    simp [E80, hx8, hx11, hlt85, hg101, hc17, hc30]
    apply hk121
    refine AWp.region [] (by decide +kernel) ?_
    obtain ⟨x122, hx123, hm124⟩ := bind1_some hb103
    clear hb103
    try dsimp only at hm124
    simp [E80, hx8, hx11, hlt85, hg101, hc17, hc30]
    refine CallAt.fn (r_graph_Node_below T (H := H) hx123) ?_
    obtain ⟨x125, nh126, hx127, hm128⟩ := bind2_some hm124
    clear hm124
    try dsimp only at hm128
    simp [E80, hx8, hx11, hlt85, hg101, hc17, hc30]
    refine CallAt.fn (ih (H := H) hx127) ?_
    obtain ⟨ha129, hm130⟩ := chk_some hm128
    clear hm128
    simp [E80, hx8, hx11, hlt85, hg101, hc17, hc30]
    refine AppAt2.own (f := (pav (List.length H))) v78 [x125] o0_80 ap99 (by intro x; simp) ha129 (by first | rfl | simp) (by first | rfl | simp) ?_
    simp [E80, hx8, hx11, hlt85, hg101, hc17, hc30]
    apply nn116
    apply hk114
    refine AWp.region [] (by decide +kernel) ?_
    simp [E80, hx8, hx11, hlt85, hg101, hc17, hc30]
    obtain rfl := Option.some.inj hm130
    rw [ctlK_next] at hk104
    refine hK84 _ _ n75 (Nat.lt_succ_self _) ⟨(i76 + 1), (iadd .i64 j77 1), (lapp v78 [x125]), nh126, (.loc 63 (fr80.tgen 63 + 1)), ?_, ⟨?_, ?_, ?_, ?_, ?_, ?_, ?_⟩, (OwnT.mono (D := [63]) (OwnT.new (D := [63]) (d := 63) (by decide)) (by decide)), (iadd_idxJ hj81 (by omega) hok62), (by omega), hk104⟩ <;> first | rfl | simp [E80, hx8, hx11, hlt85, hg101, hc17, hc30]
theorem r_graph_Node_put (T : Tabs) {H : Heap} {a0 : (Option Nat)} {a1 : Int} {a2 : (Option Nat)} {nh : List HC} {r0 : (Option Nat)} {nh1 : List HC} {n : Nat} (hm : graph_Node_put n a0 a1 a2 nh = some (r0, nh1)) : ACall Tryd.prog T 107 [pav (List.length H) a0, AV.sc (.int .i64 a1), pav (List.length H) a2] (H ++ hmap (List.length H) nh) (pav (List.length H) r0) (H ++ hmap (List.length H) nh1) := (rg_graph_Node_put T n) hm

theorem enters108 : entersB Tryd.prog 108 = true := by kernel_rfl

theorem r_graph_app (T : Tabs) {H : Heap} {a0 : (Option Nat)} {a1 : (List (Option Nat))} {nh : List HC} {r0 : (Option Nat)} {nh1 : List HC} (hm : graph_app a0 a1 nh = some (r0, nh1)) : ACall Tryd.prog T 108 [pav (List.length H) a0, AV.slice .frz (List.map (pav (List.length H)) a1)] (H ++ hmap (List.length H) nh) (pav (List.length H) r0) (H ++ hmap (List.length H) nh1) := by
  rw [graph_app] at hm
  refine ACallP.intro (fn := Tryd.f108) Tryd.func108 rfl enters108 (Nat.le_of_ble_eq_true rfl) ?_
  refine AWp.sr [] fun K1 hk2 => ?_
  simp
  apply hk2
  refine AWp.seqK fun K3 hk4 => ?_
  refine AWp.sr [] fun K5 hk6 => ?_
  simp
  apply hk6
  obtain ⟨hok7, hm8⟩ := chk_some hm
  clear hm
  obtain ⟨F9, hF10, hm11⟩ := joinB_some hm8
  clear hm8
  try dsimp only at hm11
  obtain ⟨out12, hl13, hmB14⟩ := bind1_some hm11
  clear hm11
  refine AWp.blockK fun Q15 nn16 ne17 nx18 nr19 => ?_
  refine AWp.loopF (fun n20 fr h => ∃ (i21 : Nat) (j22 : Int) (v23 : (Option Nat)) (v24 : List HC), H ++ hmap (List.length H) v24 = h ∧ (fr.env 0 = pav (List.length H) v23 ∧ fr.env 7 = AV.slice .frz (List.map (pav (List.length H)) a1) ∧ fr.env 8 = AV.sc (.int .i64 (llen a1)) ∧ fr.env 9 = AV.sc (.int .i64 j22)) ∧ j22 = (i21 : Int) ∧ i21 + n20 = List.length a1 ∧ forR F9 (List.drop i21 a1) i21 (v23, v24) = some out12) (List.length a1) ?_ ?_
  · refine ⟨0, 0, a0, nh, ?_, ⟨?_, ?_, ?_, ?_⟩, rfl, (by simp), hl13⟩ <;> first | rfl | simp
  rintro n20 fr25 h25 ⟨i21, j22, v23, v24, rfl, E25, hj26, hi27, hl13⟩ K28 hK29
  rcases n20 with _ | n20
  · have hlt30 := ilt_notJ (l := a1) hj26 (by omega)
    refine AWp.sr [] fun K31 hk32 => ?_
    simp [E25, hlt30]
    apply hk32
    refine AWp.seqK fun K33 hk34 => ?_
    refine AWp.condK fun A35 B36 ga37 gb38 => ?_
    simp [E25, hlt30]
    apply gb38
    refine AWp.exit ?_
    apply ne17
    rw [List.drop_eq_nil_of_le (by omega), forR_nil] at hl13
    obtain rfl := Option.some.inj hl13
    rw [sumK_inl, un2_mk] at hmB14
    try dsimp only at hmB14
    apply hk4
    refine AWp.sr [] fun K39 hk40 => ?_
    simp [E25, hlt30]
    apply hk40
    refine AWp.ret ?_
    simp only [Option.some.injEq, Prod.mk.injEq] at hmB14
    obtain ⟨rfl, rfl⟩ := hmB14
    simp [retQ, E25, hlt30]
  have hlt30 := ilt_ofJ (l := a1) hj26 (by omega)
  obtain ⟨x41, hdn20, hg42⟩ := drop_ltJ (l := a1) hj26 (by omega)
  rw [hdn20, forR_cons] at hl13
  obtain ⟨c43, hb44, hk45⟩ := bind1_some hl13
  clear hl13
  rw [hF10, ← hj26] at hb44
  try dsimp only at hb44
  rw [un2_mk] at hb44
  try dsimp only at hb44
  refine AWp.sr [] fun K46 hk47 => ?_
  simp [E25, hlt30, hg42]
  apply hk47
  refine AWp.seqK fun K48 hk49 => ?_
  refine AWp.condK fun A50 B51 ga52 gb53 => ?_
  simp [E25, hlt30, hg42]
  apply ga52
  refine AWp.skip ?_
  apply hk49
  refine AWp.seqK fun K54 hk55 => ?_
  refine AWp.blockK fun Q56 nn57 ne58 nx59 nr60 => ?_
  refine AWp.sr [] fun K61 hk62 => ?_
  simp [E25, hlt30, hg42]
  apply hk62
  refine AWp.region [] (by decide +kernel) ?_
  obtain ⟨x63, nh64, hx65, hm66⟩ := bind2_some hb44
  clear hb44
  try dsimp only at hm66
  simp [E25, hlt30, hg42]
  refine CallAt.fn (r_graph_build T (H := H) hx65) ?_
  simp [E25, hlt30, hg42]
  apply nn57
  apply hk55
  refine AWp.region [] (by decide +kernel) ?_
  simp [E25, hlt30, hg42]
  obtain rfl := Option.some.inj hm66
  rw [ctlK_next] at hk45
  refine hK29 _ _ n20 (Nat.lt_succ_self _) ⟨(i21 + 1), (iadd .i64 j22 1), x63, nh64, ?_, ⟨?_, ?_, ?_, ?_⟩, (iadd_idxJ hj26 (by omega) hok7), (by omega), hk45⟩ <;> first | rfl | simp [E25, hlt30, hg42]

theorem enters92 : entersB Tryd.prog 92 = true := by kernel_rfl

theorem r_graph_Node_contract (T : Tabs) {H : Heap} {a0 : (Option Nat)} {nh : List HC} {r0 : (Option Nat)} {nh1 : List HC} (hm : graph_Node_contract a0 nh = some (r0, nh1)) : ACall Tryd.prog T 92 [pav (List.length H) a0] (H ++ hmap (List.length H) nh) (pav (List.length H) r0) (H ++ hmap (List.length H) nh1) := by
  rw [graph_Node_contract] at hm
  refine ACallP.intro (fn := Tryd.f92) Tryd.func92 rfl enters92 (Nat.le_of_ble_eq_true rfl) ?_
  refine AWp.sr [] fun K1 hk2 => ?_
  simp
  apply hk2
  refine AWp.seqK fun K3 hk4 => ?_
  refine AWp.sr [] fun K5 hk6 => ?_
  obtain ⟨x7, hx8, hm9⟩ := bind1_some hm
  clear hm
  try dsimp only at hm9
  obtain ⟨x10, hx11, hm12⟩ := bind1_some hm9
  replace hx11 := HC.get_cgraph_Node_some hx11
  clear hm9
  try dsimp only at hm12
  simp [hx8, hx11]
  apply hk6
  refine AWp.blockK fun Q13 nn14 ne15 nx16 nr17 => ?_
  refine AWp.sr [] fun K18 hk19 => ?_
  simp [hx8, hx11]
  apply hk19
  refine AWp.condK fun A20 B21 ga22 gb23 => ?_
  rcases ite_some hm12 with ⟨hc24, hm25⟩ | ⟨hc24, hm26⟩
  · clear hm12
    simp [hx8, hx11, hc24]
    apply ga22
    refine AWp.seqK fun K27 hk28 => ?_
    refine AWp.regionS [] false [true, true, true, false, true, true, true, true, false, true, true, true, true, true, false, true, true, true, true] mixed (by decide +kernel) (by decide +kernel) ?_
    obtain ⟨x29, hx30, hm31⟩ := bind1_some hm25
    clear hm25
    try dsimp only at hm31
    obtain ⟨x32, hx33, hm34⟩ := bind1_some hm31
    clear hm31
    try dsimp only at hm34
    obtain ⟨x35, hx36, hm37⟩ := bind1_some hm34
    replace hx36 := HC.get_cgraph_Node_some hx36
    clear hm34
    try dsimp only at hm37
    obtain ⟨x38, hx39, hm40⟩ := bind1_some hm37
    clear hm37
    try dsimp only at hm40
    obtain ⟨x41, hx42, hm43⟩ := bind1_some hm40
    clear hm40
    try dsimp only at hm43
    obtain ⟨x44, nh45, hx46, hm47⟩ := bind2_some hm43
    clear hm43
    try dsimp only at hm47
    simp [hx8, hx11, hx30, hx33, hx36, hx39, hx42, hc24]
    refine CallAtS.fn (r_graph_Node_put T (H := H) hx46) (by simp) ?_
    simp [hx8, hx11, hx30, hx33, hx36, hx39, hx42, hc24]
    apply hk28
    refine AWp.ret ?_
    apply nr17
    simp only [Option.some.injEq, Prod.mk.injEq] at hm47
    obtain ⟨rfl, rfl⟩ := hm47
    simp [retQ, hx8, hx11, hx30, hx33, hx36, hx39, hx42, hc24]
  clear hm12
  simp [hx8, hx11, hc24]
  apply gb23
  refine AWp.sr [] fun K48 hk49 => ?_
  simp [hx8, hx11, hc24]
  apply hk49
  refine AWp.condK fun A50 B51 ga52 gb53 => ?_
  rcases ite_some hm26 with ⟨hc54, hm55⟩ | ⟨hc54, hm56⟩
  · clear hm26
    simp [hx8, hx11, hc24, hc54]
    apply ga52
    refine AWp.sr [] fun K57 hk58 => ?_
    obtain ⟨x59, hx60, hm61⟩ := bind1_some hm55
    clear hm55
    try dsimp only at hm61
    obtain ⟨x62, hx63, hm64⟩ := bind1_some hm61
    clear hm61
    try dsimp only at hm64
    obtain ⟨x65, hx66, hm67⟩ := bind1_some hm64
    replace hx66 := HC.get_cgraph_Node_some hx66
    clear hm64
    try dsimp only at hm67
    obtain ⟨x68, hx69, hm70⟩ := bind1_some hm67
    clear hm67
    try dsimp only at hm70
    simp [hx8, hx11, hx60, hx63, hx66, hx69, hc24, hc54]
    apply hk58
    refine AWp.ret ?_
    apply nr17
    simp only [Option.some.injEq, Prod.mk.injEq] at hm70
    obtain ⟨rfl, rfl⟩ := hm70
    simp [retQ, hx8, hx11, hx60, hx63, hx66, hx69, hc24, hc54]
  clear hm26
  simp [hx8, hx11, hc24, hc54]
  apply gb53
  refine AWp.sr [] fun K71 hk72 => ?_
  simp [hx8, hx11, hc24, hc54]
  apply hk72
  refine AWp.condK fun A73 B74 ga75 gb76 => ?_
  rcases ite_some hm56 with ⟨hc77, hm78⟩ | ⟨hc77, hm79⟩
  · clear hm56
    simp [hx8, hx11, hc24, hc54, hc77]
    apply ga75
    refine AWp.sr [] fun K80 hk81 => ?_
    obtain ⟨x82, hx83, hm84⟩ := bind1_some hm78
    clear hm78
    try dsimp only at hm84
    obtain ⟨x85, hx86, hm87⟩ := bind1_some hm84
    clear hm84
    try dsimp only at hm87
    obtain ⟨x88, hx89, hm90⟩ := bind1_some hm87
    replace hx89 := HC.get_cgraph_Node_some hx89
    clear hm87
    try dsimp only at hm90
    obtain ⟨x91, hx92, hm93⟩ := bind1_some hm90
    clear hm90
    try dsimp only at hm93
    simp [hx8, hx11, hx83, hx86, hx89, hx92, hc24, hc54, hc77]
    apply hk81
    refine AWp.ret ?_
    apply nr17
    simp only [Option.some.injEq, Prod.mk.injEq] at hm93
    obtain ⟨rfl, rfl⟩ := hm93
    simp [retQ, hx8, hx11, hx83, hx86, hx89, hx92, hc24, hc54, hc77]
  clear hm56
  simp [hx8, hx11, hc24, hc54, hc77]
  apply gb76
  refine AWp.skip ?_
  apply nn14
  apply hk4
  refine AWp.seqK fun K94 hk95 => ?_
  refine AWp.regionD [] true mixed (by decide +kernel) (by decide +kernel) ?_
  obtain ⟨x96, hx97, hm98⟩ := bind1_some hm79
  clear hm79
  try dsimp only at hm98
  obtain ⟨x99, hx100, hm101⟩ := bind1_some hm98
  clear hm98
  try dsimp only at hm101
  obtain ⟨x102, hx103, hm104⟩ := bind1_some hm101
  clear hm101
  try dsimp only at hm104
  simp [hx8, hx11, hx97, hx100, hx103, hc24, hc54, hc77]
  apply hk95
  refine AWp.seqK fun K105 hk106 => ?_
  refine AWp.sr [] fun K107 hk108 => ?_
  obtain ⟨x109, hx110, hm111⟩ := bind1_some hm104
  clear hm104
  try dsimp only at hm111
  obtain ⟨x112, hx113, hm114⟩ := bind1_some hm111
  replace hx113 := HC.get_cgraph_Node_some hx113
  clear hm111
  try dsimp only at hm114
  simp [hx8, hx11, hx97, hx100, hx103, hx110, hx113, hc24, hc54, hc77]
  apply hk108
  refine AWp.condK fun A115 B116 ga117 gb118 => ?_
  rcases ite_some hm114 with ⟨hc119, hm120⟩ | ⟨hc119, hm121⟩
  · clear hm114
    simp [hx8, hx11, hx97, hx100, hx103, hx110, hx113, hc24, hc54, hc77, hc119]
    apply ga117
    refine AWp.sr [] fun K122 hk123 => ?_
    simp [hx8, hx11, hx97, hx100, hx103, hx110, hx113, hc24, hc54, hc77, hc119]
    apply hk123
    refine AWp.ret ?_
    simp only [Option.some.injEq, Prod.mk.injEq] at hm120
    obtain ⟨rfl, rfl⟩ := hm120
    simp [retQ, hx8, hx11, hx97, hx100, hx103, hx110, hx113, hc24, hc54, hc77, hc119]
  clear hm114
  simp [hx8, hx11, hx97, hx100, hx103, hx110, hx113, hc24, hc54, hc77, hc119]
  apply gb118
  refine AWp.skip ?_
  apply hk106
  refine AWp.seqK fun K124 hk125 => ?_
  refine AWp.regionS [] false [true, true, true, true, true, true, false, true, true, true, false, true, true, true, true, true, true, true] mixed (by decide +kernel) (by decide +kernel) ?_
  obtain ⟨x126, hx127, hm128⟩ := bind1_some hm121
  clear hm121
  try dsimp only at hm128
  obtain ⟨x129, nh130, hx131, hm132⟩ := bind2_some hm128
  clear hm128
  try dsimp only at hm132
  simp [hx8, hx11, hx97, hx100, hx103, hx110, hx113, hx127, hc24, hc54, hc77, hc119]
  refine CallAtS.fn (r_graph_Node_with T (H := H) hx131) (by simp) ?_
  simp [hx8, hx11, hx97, hx100, hx103, hx110, hx113, hx127, hc24, hc54, hc77, hc119]
  apply hk125
  refine AWp.sr [] fun K133 hk134 => ?_
  obtain ⟨x135, hx136, hm137⟩ := bind1_some hm132
  replace hx136 := HC.get_cgraph_Node_some hx136
  clear hm132
  try dsimp only at hm137
  obtain ⟨x138, nh139, hx140, hm141⟩ := bind2_some hm137
  clear hm137
  try dsimp only at hm141
  simp [hx8, hx11, hx97, hx100, hx103, hx110, hx113, hx127, hx136, hc24, hc54, hc77, hc119]
  refine CallAt.fn (r_graph_app T (H := H) hx140) ?_
  obtain ⟨x142, nh143, hx144, hm145⟩ := bind2_some hm141
  clear hm141
  try dsimp only at hm145
  simp [hx8, hx11, hx97, hx100, hx103, hx110, hx113, hx127, hx136, hc24, hc54, hc77, hc119]
  refine CallAt.fn (r_graph_app T (H := H) hx144) ?_
  simp [hx8, hx11, hx97, hx100, hx103, hx110, hx113, hx127, hx136, hc24, hc54, hc77, hc119]
  apply hk134
  refine AWp.ret ?_
  simp only [Option.some.injEq, Prod.mk.injEq] at hm145
  obtain ⟨rfl, rfl⟩ := hm145
  simp [retQ, hx8, hx11, hx97, hx100, hx103, hx110, hx113, hx127, hx136, hc24, hc54, hc77, hc119]

theorem enters91 : entersB Tryd.prog 91 = true := by kernel_rfl

theorem r_graph_Node_grown (T : Tabs) {H : Heap} {a0 : (Option Nat)} {nh : List HC} {r0 : Int} {nh1 : List HC} (hm : graph_Node_grown a0 nh = some (r0, nh1)) : ACall Tryd.prog T 91 [pav (List.length H) a0] (H ++ hmap (List.length H) nh) (AV.sc (.int .i64 r0)) (H ++ hmap (List.length H) nh1) := by
  rw [graph_Node_grown] at hm
  refine ACallP.intro (fn := Tryd.f91) Tryd.func91 rfl enters91 (Nat.le_of_ble_eq_true rfl) ?_
  refine AWp.sr [] fun K1 hk2 => ?_
  simp
  apply hk2
  refine AWp.seqK fun K3 hk4 => ?_
  refine AWp.sr [] fun K5 hk6 => ?_
  obtain ⟨x7, hx8, hm9⟩ := bind1_some hm
  clear hm
  try dsimp only at hm9
  obtain ⟨x10, hx11, hm12⟩ := bind1_some hm9
  replace hx11 := HC.get_cgraph_Node_some hx11
  clear hm9
  try dsimp only at hm12
  simp [hx8, hx11]
  apply hk6
  refine AWp.blockK fun Q13 nn14 ne15 nx16 nr17 => ?_
  refine AWp.sr [] fun K18 hk19 => ?_
  simp [hx8, hx11]
  apply hk19
  refine AWp.condK fun A20 B21 ga22 gb23 => ?_
  rcases ite_some hm12 with ⟨hc24, hm25⟩ | ⟨hc24, hm26⟩
  · clear hm12
    simp [hx8, hx11, hc24]
    apply ga22
    refine AWp.sr [] fun K27 hk28 => ?_
    obtain ⟨x29, hx30, hm31⟩ := bind1_some hm25
    clear hm25
    try dsimp only at hm31
    obtain ⟨x32, hx33, hm34⟩ := bind1_some hm31
    clear hm31
    try dsimp only at hm34
    obtain ⟨x35, hx36, hm37⟩ := bind1_some hm34
    replace hx36 := HC.get_cgraph_Node_some hx36
    clear hm34
    try dsimp only at hm37
    obtain ⟨x38, hx39, hm40⟩ := bind1_some hm37
    clear hm37
    try dsimp only at hm40
    simp [hx8, hx11, hx30, hx33, hx36, hx39, hc24]
    apply hk28
    refine AWp.seqK fun K41 hk42 => ?_
    refine AWp.regionD [] true mixed (by decide +kernel) (by decide +kernel) ?_
    obtain ⟨x43, hx44, hm45⟩ := bind1_some hm40
    clear hm40
    try dsimp only at hm45
    obtain ⟨x46, hx47, hm48⟩ := bind1_some hm45
    replace hx47 := HC.get_cgraph_Node_some hx47
    clear hm45
    try dsimp only at hm48
    obtain ⟨x49, hx50, hm51⟩ := bind1_some hm48
    clear hm48
    try dsimp only at hm51
    simp [hx8, hx11, hx30, hx33, hx36, hx39, hx44, hx47, hc24]
    refine CallAtD.fn (r_graph_Node_count T (H := H) hx50) (by simp) ?_
    obtain ⟨x52, hx53, hm54⟩ := bind1_some hm51
    clear hm51
    try dsimp only at hm54
    obtain ⟨x55, hx56, hm57⟩ := bind1_some hm54
    clear hm54
    try dsimp only at hm57
    obtain ⟨x58, hx59, hm60⟩ := bind1_some hm57
    replace hx59 := HC.get_cgraph_Node_some hx59
    clear hm57
    try dsimp only at hm60
    simp [hx8, hx11, hx30, hx33, hx36, hx39, hx44, hx47, hx53, hx56, hx59, hc24]
    apply hk42
    refine AWp.ret ?_
    apply nr17
    simp only [Option.some.injEq, Prod.mk.injEq] at hm60
    obtain ⟨rfl, rfl⟩ := hm60
    simp [retQ, hx8, hx11, hx30, hx33, hx36, hx39, hx44, hx47, hx53, hx56, hx59, hc24]
  clear hm12
  simp [hx8, hx11, hc24]
  apply gb23
  refine AWp.sr [] fun K61 hk62 => ?_
  simp [hx8, hx11, hc24]
  apply hk62
  refine AWp.condK fun A63 B64 ga65 gb66 => ?_
  rcases ite_some hm26 with ⟨hc67, hm68⟩ | ⟨hc67, hm69⟩
  · clear hm26
    simp [hx8, hx11, hc24, hc67]
    apply ga65
    refine AWp.seqK fun K70 hk71 => ?_
    refine AWp.sr [] fun K72 hk73 => ?_
    obtain ⟨x74, hx75, hm76⟩ := bind1_some hm68
    clear hm68
    try dsimp only at hm76
    obtain ⟨x77, hx78, hm79⟩ := bind1_some hm76
    clear hm76
    try dsimp only at hm79
    obtain ⟨x80, hx81, hm82⟩ := bind1_some hm79
    replace hx81 := HC.get_cgraph_Node_some hx81
    clear hm79
    try dsimp only at hm82
    simp [hx8, hx11, hx75, hx78, hx81, hc24, hc67]
    apply hk73
    refine AWp.condK fun A83 B84 ga85 gb86 => ?_
    rcases ite_some hm82 with ⟨hc87, hm88⟩ | ⟨hc87, hm89⟩
    rotate_left
    · clear hm82
      simp [hx8, hx11, hx75, hx78, hx81, hc24, hc67, hc87]
      apply gb86
      refine AWp.skip ?_
      apply hk71
      refine AWp.sr [] fun K90 hk91 => ?_
      obtain ⟨x92, hx93, hm94⟩ := bind1_some hm89
      clear hm89
      try dsimp only at hm94
      obtain ⟨x95, hx96, hm97⟩ := bind1_some hm94
      clear hm94
      try dsimp only at hm97
      obtain ⟨x98, hx99, hm100⟩ := bind1_some hm97
      replace hx99 := HC.get_cgraph_Node_some hx99
      clear hm97
      try dsimp only at hm100
      simp [hx8, hx11, hx75, hx78, hx81, hx93, hx96, hx99, hc24, hc67, hc87]
      apply hk91
      refine AWp.ret ?_
      apply nr17
      simp only [Option.some.injEq, Prod.mk.injEq] at hm100
      obtain ⟨rfl, rfl⟩ := hm100
      simp [retQ, hx8, hx11, hx75, hx78, hx81, hx93, hx96, hx99, hc24, hc67, hc87]
    clear hm82
    simp [hx8, hx11, hx75, hx78, hx81, hc24, hc67, hc87]
    apply ga85
    refine AWp.seqK fun K101 hk102 => ?_
    refine AWp.regionD [] true mixed (by decide +kernel) (by decide +kernel) ?_
    obtain ⟨x103, hx104, hm105⟩ := bind1_some hm88
    clear hm88
    try dsimp only at hm105
    obtain ⟨x106, hx107, hm108⟩ := bind1_some hm105
    clear hm105
    try dsimp only at hm108
    obtain ⟨x109, hx110, hm111⟩ := bind1_some hm108
    replace hx110 := HC.get_cgraph_Node_some hx110
    clear hm108
    try dsimp only at hm111
    obtain ⟨x112, hx113, hm114⟩ := bind1_some hm111
    clear hm111
    try dsimp only at hm114
    obtain ⟨x115, hx116, hm117⟩ := bind1_some hm114
    clear hm114
    try dsimp only at hm117
    obtain ⟨x118, hx119, hm120⟩ := bind1_some hm117
    replace hx119 := HC.get_cgraph_Node_some hx119
    clear hm117
    try dsimp only at hm120
    obtain ⟨x121, hx122, hm123⟩ := bind1_some hm120
    clear hm120
    try dsimp only at hm123
    obtain ⟨x124, hx125, hm126⟩ := bind1_some hm123
    clear hm123
    try dsimp only at hm126
    obtain ⟨x127, hx128, hm129⟩ := bind1_some hm126
    replace hx128 := HC.get_cgraph_Node_some hx128
    clear hm126
    try dsimp only at hm129
    simp [hx8, hx11, hx75, hx78, hx81, hx104, hx107, hx110, hx113, hx116, hx119, hx122, hx125, hx128, hc24, hc67, hc87]
    apply hk102
    refine AWp.ret ?_
    apply nr17
    simp only [Option.some.injEq, Prod.mk.injEq] at hm129
    obtain ⟨rfl, rfl⟩ := hm129
    simp [retQ, hx8, hx11, hx75, hx78, hx81, hx104, hx107, hx110, hx113, hx116, hx119, hx122, hx125, hx128, hc24, hc67, hc87]
  clear hm26
  simp [hx8, hx11, hc24, hc67]
  apply gb66
  refine AWp.sr [] fun K130 hk131 => ?_
  simp [hx8, hx11, hc24, hc67]
  apply hk131
  refine AWp.condK fun A132 B133 ga134 gb135 => ?_
  rcases ite_some hm69 with ⟨hc136, hm137⟩ | ⟨hc136, hm138⟩
  rotate_left
  · clear hm69
    simp [hx8, hx11, hc24, hc67, hc136]
    apply gb135
    refine AWp.skip ?_
    apply nn14
    apply hk4
    refine AWp.sr [] fun K139 hk140 => ?_
    obtain ⟨x141, nh142, hx143, hm144⟩ := bind2_some hm138
    clear hm138
    try dsimp only at hm144
    simp [hx8, hx11, hc24, hc67, hc136]
    refine CallAt.fn (r_graph_Node_contract T (H := H) hx143) ?_
    obtain ⟨x145, hx146, hm147⟩ := bind1_some hm144
    clear hm144
    try dsimp only at hm147
    obtain ⟨x148, hx149, hm150⟩ := bind1_some hm147
    replace hx149 := HC.get_cgraph_Node_some hx149
    clear hm147
    try dsimp only at hm150
    simp [hx8, hx11, hx146, hx149, hc24, hc67, hc136]
    apply hk140
    refine AWp.ret ?_
    simp only [Option.some.injEq, Prod.mk.injEq] at hm150
    obtain ⟨rfl, rfl⟩ := hm150
    simp [retQ, hx8, hx11, hx146, hx149, hc24, hc67, hc136]
  clear hm69
  simp [hx8, hx11, hc24, hc67, hc136]
  apply ga134
  refine AWp.seqK fun K151 hk152 => ?_
  refine AWp.sr [] fun K153 hk154 => ?_
  obtain ⟨x155, hx156, hm157⟩ := bind1_some hm137
  clear hm137
  try dsimp only at hm157
  simp [hx8, hx11, hx156, hc24, hc67, hc136]
  apply hk154
  refine AWp.sr [] fun K158 hk159 => ?_
  obtain ⟨x160, hx161, hm162⟩ := bind1_some hm157
  clear hm157
  try dsimp only at hm162
  obtain ⟨x163, hx164, hm165⟩ := bind1_some hm162
  replace hx164 := HC.get_cgraph_Node_some hx164
  clear hm162
  try dsimp only at hm165
  simp [hx8, hx11, hx156, hx161, hx164, hc24, hc67, hc136]
  apply hk159
  refine AWp.condK fun A166 B167 ga168 gb169 => ?_
  rcases ite_some hm165 with ⟨hc170, hm171⟩ | ⟨hc170, hm172⟩
  rotate_left
  · clear hm165
    simp [hx8, hx11, hx156, hx161, hx164, hc24, hc67, hc136, hc170]
    apply gb169
    refine AWp.skip ?_
    apply hk152
    refine AWp.sr [] fun K173 hk174 => ?_
    obtain ⟨x175, hx176, hm177⟩ := bind1_some hm172
    clear hm172
    try dsimp only at hm177
    obtain ⟨x178, hx179, hm180⟩ := bind1_some hm177
    clear hm177
    try dsimp only at hm180
    obtain ⟨x181, hx182, hm183⟩ := bind1_some hm180
    replace hx182 := HC.get_cgraph_Node_some hx182
    clear hm180
    try dsimp only at hm183
    simp [hx8, hx11, hx156, hx161, hx164, hx176, hx179, hx182, hc24, hc67, hc136, hc170]
    apply hk174
    refine AWp.ret ?_
    apply nr17
    simp only [Option.some.injEq, Prod.mk.injEq] at hm183
    obtain ⟨rfl, rfl⟩ := hm183
    simp [retQ, hx8, hx11, hx156, hx161, hx164, hx176, hx179, hx182, hc24, hc67, hc136, hc170]
  clear hm165
  simp [hx8, hx11, hx156, hx161, hx164, hc24, hc67, hc136, hc170]
  apply ga168
  refine AWp.seqK fun K184 hk185 => ?_
  refine AWp.regionD [] true mixed (by decide +kernel) (by decide +kernel) ?_
  obtain ⟨x186, hx187, hm188⟩ := bind1_some hm171
  clear hm171
  try dsimp only at hm188
  obtain ⟨x189, hx190, hm191⟩ := bind1_some hm188
  clear hm188
  try dsimp only at hm191
  obtain ⟨x192, hx193, hm194⟩ := bind1_some hm191
  replace hx193 := HC.get_cgraph_Node_some hx193
  clear hm191
  try dsimp only at hm194
  obtain ⟨x195, hx196, hm197⟩ := bind1_some hm194
  clear hm194
  try dsimp only at hm197
  obtain ⟨x198, hx199, hm200⟩ := bind1_some hm197
  clear hm197
  try dsimp only at hm200
  obtain ⟨x201, hx202, hm203⟩ := bind1_some hm200
  replace hx202 := HC.get_cgraph_Node_some hx202
  clear hm200
  try dsimp only at hm203
  obtain ⟨x204, hx205, hm206⟩ := bind1_some hm203
  clear hm203
  try dsimp only at hm206
  obtain ⟨x207, hx208, hm209⟩ := bind1_some hm206
  clear hm206
  try dsimp only at hm209
  obtain ⟨x210, hx211, hm212⟩ := bind1_some hm209
  replace hx211 := HC.get_cgraph_Node_some hx211
  clear hm209
  try dsimp only at hm212
  obtain ⟨x213, hx214, hm215⟩ := bind1_some hm212
  clear hm212
  try dsimp only at hm215
  obtain ⟨x216, hx217, hm218⟩ := bind1_some hm215
  clear hm215
  try dsimp only at hm218
  obtain ⟨x219, hx220, hm221⟩ := bind1_some hm218
  replace hx220 := HC.get_cgraph_Node_some hx220
  clear hm218
  try dsimp only at hm221
  simp [hx8, hx11, hx156, hx161, hx164, hx187, hx190, hx193, hx196, hx199, hx202, hx205, hx208, hx211, hx214, hx217, hx220, hc24, hc67, hc136, hc170]
  apply hk185
  refine AWp.ret ?_
  apply nr17
  simp only [Option.some.injEq, Prod.mk.injEq] at hm221
  obtain ⟨rfl, rfl⟩ := hm221
  simp [retQ, hx8, hx11, hx156, hx161, hx164, hx187, hx190, hx193, hx196, hx199, hx202, hx205, hx208, hx211, hx214, hx217, hx220, hc24, hc67, hc136, hc170]
theorem r_graph_Node_grownR (T : Tabs) {H : Heap} {a0 : (Option Nat)} {nh : List HC} {r0 : Int} (hm : graph_Node_grownR a0 nh = some r0) : ACall Tryd.prog T 91 [pav (List.length H) a0] (H ++ hmap (List.length H) nh) (AV.sc (.int .i64 r0)) (H ++ hmap (List.length H) nh) := by
  obtain ⟨r, nh1, h1, h2⟩ := bind2_some hm
  obtain rfl := Option.some.inj h2
  obtain ⟨X, rfl⟩ := graph_grown_keeps h1
  exact ACallP.drop0 (r_graph_Node_grown T h1) (fun _ _ h => ⟨hmap (List.length H) X, by rw [h.2]; simp [hmapG], by rw [h.1]; rfl, h.1, rfl⟩)

theorem enters81 : entersB Tryd.prog 81 = true := by kernel_rfl

theorem rg_graph_Node_Step (T : Tabs) : ∀ (n : Nat), (∀ {H : Heap} {a0 : (Option Nat)} {a1 : Int} {nh : List HC} {r0 : (Option Nat)} {r1 : Int} {nh1 : List HC} (hm : graph_Node_Step n a0 a1 nh = some (r0, r1, nh1)), ACall Tryd.prog T 81 [pav (List.length H) a0, AV.sc (.int .i64 a1)] (H ++ hmap (List.length H) nh) (AV.tuple [pav (List.length H) r0, AV.sc (.int .i64 r1)]) (H ++ hmap (List.length H) nh1)) := by
  intro n
  induction n with
  | zero =>
    skip
    all_goals
      intros
      rename_i hm
      cases hm
  | succ n ih =>
    intro H a0 a1 nh r0 r1 nh1 hm
    rw [graph_Node_Step] at hm
    refine ACallP.intro (fn := Tryd.f81) Tryd.func81 rfl enters81 (Nat.le_of_ble_eq_true rfl) ?_
    refine AWp.sr [] fun K1 hk2 => ?_
    simp
    apply hk2
    refine AWp.seqK fun K3 hk4 => ?_
    refine AWp.sr [] fun K5 hk6 => ?_
    obtain ⟨x7, hx8, hm9⟩ := bind1_some hm
    clear hm
    try dsimp only at hm9
    obtain ⟨x10, hx11, hm12⟩ := bind1_some hm9
    replace hx11 := HC.get_cgraph_Node_some hx11
    clear hm9
    try dsimp only at hm12
    simp [hx8, hx11]
    apply hk6
    refine AWp.condK fun A13 B14 ga15 gb16 => ?_
    rcases ite_some hm12 with ⟨hc17, hm18⟩ | ⟨hc17, hm19⟩
    · clear hm12
      simp [hx8, hx11, hc17]
      apply ga15
      refine AWp.sr [] fun K20 hk21 => ?_
      simp [hx8, hx11, hc17]
      apply hk21
      refine AWp.ret ?_
      simp only [Option.some.injEq, Prod.mk.injEq] at hm18
      obtain ⟨rfl, rfl, rfl⟩ := hm18
      simp [retQ, hx8, hx11, hc17]
    clear hm12
    simp [hx8, hx11, hc17]
    apply gb16
    refine AWp.skip ?_
    apply hk4
    refine AWp.seqK fun K22 hk23 => ?_
    refine AWp.sr [] fun K24 hk25 => ?_
    obtain ⟨x26, hx27, hm28⟩ := bind1_some hm19
    clear hm19
    try dsimp only at hm28
    simp [hx8, hx11, hc17]
    refine CallAt.fn (r_graph_Node_redex T (H := H) hx27) ?_
    simp [hx8, hx11, hc17]
    apply hk25
    refine AWp.condK fun A29 B30 ga31 gb32 => ?_
    rcases ite_some hm28 with ⟨hc33, hm34⟩ | ⟨hc33, hm35⟩
    · clear hm28
      simp [hx8, hx11, hc17, hc33]
      apply ga31
      refine AWp.seqK fun K36 hk37 => ?_
      refine AWp.seqK fun K38 hk39 => ?_
      refine AWp.regionD [] true mixed (by decide +kernel) (by decide +kernel) ?_
      obtain ⟨x40, hx41, hm42⟩ := bind1_some hm34
      clear hm34
      try dsimp only at hm42
      simp [hx8, hx11, hc17, hc33]
      refine CallAtD.fn (r_graph_Node_grownR T (H := H) hx41) (by simp) ?_
      simp [hx8, hx11, hc17, hc33]
      apply hk39
      refine AWp.condK fun A43 B44 ga45 gb46 => ?_
      rcases ite_some hm42 with ⟨hc47, hm48⟩ | ⟨hc47, hm49⟩
      · clear hm42
        simp [hx8, hx11, hc17, hc33, hc47]
        apply ga45
        refine AWp.sr [] fun K50 hk51 => ?_
        simp [hx8, hx11, hc17, hc33, hc47]
        apply hk51
        refine AWp.ret ?_
        simp only [Option.some.injEq, Prod.mk.injEq] at hm48
        obtain ⟨rfl, rfl, rfl⟩ := hm48
        simp [retQ, hx8, hx11, hc17, hc33, hc47]
      clear hm42
      simp [hx8, hx11, hc17, hc33, hc47]
      apply gb46
      refine AWp.skip ?_
      apply hk37
      refine AWp.sr [] fun K52 hk53 => ?_
      obtain ⟨x54, nh55, hx56, hm57⟩ := bind2_some hm49
      clear hm49
      try dsimp only at hm57
      simp [hx8, hx11, hc17, hc33, hc47]
      refine CallAt.fn (r_graph_Node_contract T (H := H) hx56) ?_
      simp [hx8, hx11, hc17, hc33, hc47]
      apply hk53
      refine AWp.ret ?_
      simp only [Option.some.injEq, Prod.mk.injEq] at hm57
      obtain ⟨rfl, rfl, rfl⟩ := hm57
      simp [retQ, hx8, hx11, hc17, hc33, hc47]
    clear hm28
    simp [hx8, hx11, hc17, hc33]
    apply gb32
    refine AWp.skip ?_
    apply hk23
    refine AWp.seqK fun K58 hk59 => ?_
    refine AWp.sr [] fun K60 hk61 => ?_
    simp [hx8, hx11, hc17, hc33]
    apply hk61
    obtain ⟨hok62, hm63⟩ := chk_some hm35
    clear hm35
    obtain ⟨F64, hF65, hm66⟩ := joinB_some hm63
    clear hm63
    try dsimp only at hm66
    obtain ⟨out67, hl68, hmB69⟩ := bind1_some hm66
    clear hm66
    refine AWp.blockK fun Q70 nn71 ne72 nx73 nr74 => ?_
    refine AWp.loopF (fun n75 fr h => ∃ (i76 : Nat) (j77 : Int) (v78 : List HC), H ++ hmap (List.length H) v78 = h ∧ (fr.env 0 = pav (List.length H) a0 ∧ fr.env 1 = AV.sc (.int .i64 a1) ∧ fr.env 31 = AV.slice .frz (List.map (pav (List.length H)) x10.args) ∧ fr.env 32 = AV.sc (.int .i64 (llen x10.args)) ∧ fr.env 33 = AV.sc (.int .i64 j77)) ∧ j77 = (i76 : Int) ∧ i76 + n75 = List.length x10.args ∧ forR F64 (List.drop i76 x10.args) i76 v78 = some out67) (List.length x10.args) ?_ ?_
    · refine ⟨0, 0, nh, ?_, ⟨?_, ?_, ?_, ?_, ?_⟩, rfl, (by simp), hl68⟩ <;> first | rfl | simp [hx8, hx11, hc17, hc33]
    rintro n75 fr79 h79 ⟨i76, j77, v78, rfl, E79, hj80, hi81, hl68⟩ K82 hK83
    rcases n75 with _ | n75
    · have hlt84 := ilt_notJ (l := x10.args) hj80 (by omega)
      refine AWp.sr [] fun K85 hk86 => ?_
      simp [E79, hx8, hx11, hlt84, hc17, hc33]
      apply hk86
      refine AWp.seqK fun K87 hk88 => ?_
      refine AWp.condK fun A89 B90 ga91 gb92 => ?_
      simp [E79, hx8, hx11, hlt84, hc17, hc33]
      apply gb92
      refine AWp.exit ?_
      apply ne72
      rw [List.drop_eq_nil_of_le (by omega), forR_nil] at hl68
      obtain rfl := Option.some.inj hl68
      rw [sumK_inl] at hmB69
      try dsimp only at hmB69
      apply hk59
      refine AWp.sr [] fun K93 hk94 => ?_
      obtain ⟨x95, hx96, hm97⟩ := bind1_some hmB69
      replace hx96 := HC.get_cgraph_Node_some hx96
      clear hmB69
      try dsimp only at hm97
      have hf98 : hset (hmap (List.length H) v78) x7 [AV.sc (.int .i64 x95.kind), AV.sc (.int .i64 x95.index), AV.sc (.int .i64 x95.typ.kind), AV.slice .frz (List.map Ty.av x95.typ.args), AV.slice .frz (List.map (pav (List.length H)) x95.args), AV.sc (.int .i64 x95.size), AV.sc (.int .i64 x95.free), AV.sc (.bool true)] = hmap (List.length H) (hput v78 x7 (HC.cgraph_Node (Sgraph_Node.mk x95.kind x95.index x95.typ x95.args x95.size x95.free true))) := hset_hmapG rfl
      have hx99 : (hput v78 x7 (HC.cgraph_Node (Sgraph_Node.mk x95.kind x95.index x95.typ x95.args x95.size x95.free true)))[x7]? = some (HC.cgraph_Node (Sgraph_Node.mk x95.kind x95.index x95.typ x95.args x95.size x95.free true)) := put_get hx96
      simp [E79, hx8, hx11, hlt84, hx96, hf98, hx99, hc17, hc33]
      apply hk94
      refine AWp.sr [] fun K100 hk101 => ?_
      simp [E79, hx8, hx11, hlt84, hx96, hf98, hx99, hc17, hc33]
      apply hk101
      refine AWp.ret ?_
      simp only [Option.some.injEq, Prod.mk.injEq] at hm97
      obtain ⟨rfl, rfl, rfl⟩ := hm97
      simp [retQ, E79, hx8, hx11, hlt84, hx96, hf98, hx99, hc17, hc33]
    have hlt84 := ilt_ofJ (l := x10.args) hj80 (by omega)
    obtain ⟨x102, hdn75, hg103⟩ := drop_ltJ (l := x10.args) hj80 (by omega)
    rw [hdn75, forR_cons] at hl68
    obtain ⟨c104, hb105, hk106⟩ := bind1_some hl68
    clear hl68
    rw [hF65, ← hj80] at hb105
    try dsimp only at hb105
    refine AWp.sr [] fun K107 hk108 => ?_
    simp [E79, hx8, hx11, hlt84, hg103, hc17, hc33]
    apply hk108
    refine AWp.seqK fun K109 hk110 => ?_
    refine AWp.condK fun A111 B112 ga113 gb114 => ?_
    simp [E79, hx8, hx11, hlt84, hg103, hc17, hc33]
    apply ga113
    refine AWp.skip ?_
    apply hk110
    refine AWp.seqK fun K115 hk116 => ?_
    refine AWp.blockK fun Q117 nn118 ne119 nx120 nr121 => ?_
    refine AWp.sr [] fun K122 hk123 => ?_
    simp [E79, hx8, hx11, hlt84, hg103, hc17, hc33]
    apply hk123
    refine AWp.sr [] fun K124 hk125 => ?_
    obtain ⟨x126, x127, nh128, hx129, hm130⟩ := bind3_some hb105
    clear hb105
    try dsimp only at hm130
    simp [E79, hx8, hx11, hlt84, hg103, hc17, hc33]
    refine CallAt.fn (ih (H := H) hx129) ?_
    simp [E79, hx8, hx11, hlt84, hg103, hc17, hc33]
    apply hk125
    refine AWp.seqK fun K131 hk132 => ?_
    refine AWp.sr [] fun K133 hk134 => ?_
    simp [E79, hx8, hx11, hlt84, hg103, hc17, hc33]
    apply hk134
    refine AWp.condK fun A135 B136 ga137 gb138 => ?_
    rcases ite_some hm130 with ⟨hc139, hm140⟩ | ⟨hc139, hm141⟩
    · clear hm130
      simp [E79, hx8, hx11, hlt84, hg103, hc17, hc33, hc139]
      apply ga137
      refine AWp.sr [] fun K142 hk143 => ?_
      simp [E79, hx8, hx11, hlt84, hg103, hc17, hc33, hc139]
      apply hk143
      refine AWp.ret ?_
      apply nr121
      apply nr74
      obtain rfl := Option.some.inj hm140
      rw [ctlK_ret] at hk106
      obtain rfl := Option.some.inj hk106
      rw [sumK_inr] at hmB69
      try dsimp only at hmB69
      simp only [Option.some.injEq, Prod.mk.injEq] at hmB69
      obtain ⟨rfl, rfl, rfl⟩ := hmB69
      simp [retQ, E79, hx8, hx11, hlt84, hg103, hc17, hc33, hc139]
    clear hm130
    simp [E79, hx8, hx11, hlt84, hg103, hc17, hc33, hc139]
    apply gb138
    refine AWp.skip ?_
    apply hk132
    refine AWp.sr [] fun K144 hk145 => ?_
    simp [E79, hx8, hx11, hlt84, hg103, hc17, hc33, hc139]
    apply hk145
    refine AWp.condK fun A146 B147 ga148 gb149 => ?_
    rcases ite_some hm141 with ⟨hc150, hm151⟩ | ⟨hc150, hm152⟩
    rotate_left
    · clear hm141
      simp [E79, hx8, hx11, hlt84, hg103, hc17, hc33, hc139, hc150]
      apply gb149
      refine AWp.skip ?_
      apply nn118
      apply hk116
      refine AWp.region [] (by decide +kernel) ?_
      simp [E79, hx8, hx11, hlt84, hg103, hc17, hc33, hc139, hc150]
      obtain rfl := Option.some.inj hm152
      rw [ctlK_next] at hk106
      refine hK83 _ _ n75 (Nat.lt_succ_self _) ⟨(i76 + 1), (iadd .i64 j77 1), nh128, ?_, ⟨?_, ?_, ?_, ?_, ?_⟩, (iadd_idxJ hj80 (by omega) hok62), (by omega), hk106⟩ <;> first | rfl | simp [E79, hx8, hx11, hlt84, hg103, hc17, hc33, hc139, hc150]
    clear hm141
    simp [E79, hx8, hx11, hlt84, hg103, hc17, hc33, hc139, hc150]
    apply ga148
    refine AWp.sr [] fun K153 hk154 => ?_
    obtain ⟨x155, hx156, hm157⟩ := bind1_some hm151
    replace hx156 := HC.get_cgraph_Node_some hx156
    clear hm151
    try dsimp only at hm157
    obtain ⟨ha158, hm159⟩ := chk_some hm157
    clear hm157
    simp [E79, hx8, hx11, hlt84, hg103, hx156, hc17, hc33, hc139, hc150]
    refine AppAt2.newL (f := (pav (List.length H))) x155.args ap99 ⟨_, zero76⟩ (by intro x; simp) ha158 (by first | rfl | simp) (by first | rfl | simp) fun cap160 hcap161 => ?_
    simp [E79, hx8, hx11, hlt84, hg103, hx156, hc17, hc33, hc139, hc150]
    apply hk154
    refine AWp.sr [] fun K162 hk163 => ?_
    obtain ⟨x164, hx165, hm166⟩ := bind1_some hm159
    clear hm159
    try dsimp only at hm166
    have hr167 := lget_range hx165
    simp [E79, hx8, hx11, hlt84, hg103, hx156, hx165, hr167, hc17, hc33, hc139, hc150]
    refine StoreE.arr (f := (pav (List.length H))) (L := x155.args) (k := ((cap160 - List.length x155.args) * 1)) x126 lay76 (by intro x; simp) (by simp [E79, hx8, hx11, hlt84, hg103, hx156, hx165, hr167, hc17, hc33, hc139, hc150]) (x := x164) (by assumption) (by simp [E79, hx8, hx11, hlt84, hg103, hx156, hx165, hr167, hc17, hc33, hc139, hc150]) (by simp [E79, hx8, hx11, hlt84, hg103, hx156, hx165, hr167, hc17, hc33, hc139, hc150]) (by simp [E79, hx8, hx11, hlt84, hg103, hx156, hx165, hr167, hc17, hc33, hc139, hc150]) ?_
    simp [E79, hx8, hx11, hlt84, hg103, hx156, hx165, hr167, hc17, hc33, hc139, hc150]
    apply hk163
    refine AWp.seqK fun K168 hk169 => ?_
    refine AWp.frzE 10 (f := (pav (List.length H))) (L := (lset x155.args j77 x126)) (k := ((cap160 - List.length x155.args) * 1)) (sz := 1) (d := 53) (g := (fr79.gen 53 + 1)) (cap := cap160) (by intro x; simp) (by intro x; simp) (by simp [E79, hx8, hx11, hlt84, hg103, hx156, hx165, hr167, hc17, hc33, hc139, hc150]) (by simp [E79, hx8, hx11, hlt84, hg103, hx156, hx165, hr167, hc17, hc33, hc139, hc150]) (by simp [E79, hx8, hx11, hlt84, hg103, hx156, hx165, hr167, hc17, hc33, hc139, hc150]) ?_
    refine AWp.region [] (by decide +kernel) ?_
    obtain ⟨x170, nh171, hx172, hm173⟩ := bind2_some hm166
    clear hm166
    try dsimp only at hm173
    simp [E79, hx8, hx11, hlt84, hg103, hx156, hx165, hr167, hc17, hc33, hc139, hc150]
    refine CallAt.fn (r_graph_Node_with T (H := H) hx172) ?_
    simp [E79, hx8, hx11, hlt84, hg103, hx156, hx165, hr167, hc17, hc33, hc139, hc150]
    apply hk169
    refine AWp.ret ?_
    apply nr121
    apply nr74
    obtain rfl := Option.some.inj hm173
    rw [ctlK_ret] at hk106
    obtain rfl := Option.some.inj hk106
    rw [sumK_inr] at hmB69
    try dsimp only at hmB69
    simp only [Option.some.injEq, Prod.mk.injEq] at hmB69
    obtain ⟨rfl, rfl, rfl⟩ := hmB69
    simp [retQ, E79, hx8, hx11, hlt84, hg103, hx156, hx165, hr167, hc17, hc33, hc139, hc150]
theorem r_graph_Node_Step (T : Tabs) {H : Heap} {a0 : (Option Nat)} {a1 : Int} {nh : List HC} {r0 : (Option Nat)} {r1 : Int} {nh1 : List HC} {n : Nat} (hm : graph_Node_Step n a0 a1 nh = some (r0, r1, nh1)) : ACall Tryd.prog T 81 [pav (List.length H) a0, AV.sc (.int .i64 a1)] (H ++ hmap (List.length H) nh) (AV.tuple [pav (List.length H) r0, AV.sc (.int .i64 r1)]) (H ++ hmap (List.length H) nh1) := (rg_graph_Node_Step T n) hm

theorem enters53 : entersB Tryd.prog 53 = true := by kernel_rfl

theorem r_reduce_state_next (T : Tabs) {H : Heap} {a0 : (Option Nat)} {nh : List HC} {r0 : Bool} {r1 : Int} {nh1 : List HC} (hm : reduce_state_next a0 nh = some (r0, r1, nh1)) : ACall Tryd.prog T 53 [pav (List.length H) a0] (H ++ hmap (List.length H) nh) (AV.tuple [AV.sc (.bool r0), AV.sc (.int .i64 r1)]) (H ++ hmap (List.length H) nh1) := by
  rw [reduce_state_next] at hm
  refine ACallP.intro (fn := Tryd.f53) Tryd.func53 rfl enters53 (Nat.le_of_ble_eq_true rfl) ?_
  refine AWp.sr [] fun K1 hk2 => ?_
  simp
  apply hk2
  refine AWp.seqK fun K3 hk4 => ?_
  refine AWp.regionS [] true [true, true, true, true, true, true, true, true, true, true, false, true, true, true, true, true] mixed (by decide +kernel) (by decide +kernel) ?_
  obtain ⟨x5, hx6, hm7⟩ := bind1_some hm
  clear hm
  try dsimp only at hm7
  obtain ⟨x8, hx9, hm10⟩ := bind1_some hm7
  replace hx9 := HC.get_creduce_state_some hx9
  clear hm7
  try dsimp only at hm10
  obtain ⟨x11, hx12, hm13⟩ := bind1_some hm10
  clear hm10
  try dsimp only at hm13
  simp [hx6, hx9]
  refine CallAtS.fn (r_graph_Node_Size T (H := H) hx12) (by simp) ?_
  obtain ⟨x14, x15, nh16, hx17, hm18⟩ := bind3_some hm13
  clear hm13
  try dsimp only at hm18
  simp [hx6, hx9]
  refine CallAtH.fn (r_graph_Node_Step T (H := H) hx17) ?_
  simp [hx6, hx9]
  apply hk4
  refine AWp.seqK fun K19 hk20 => ?_
  refine AWp.seqP (fun fr h => H ++ hmap (List.length H) nh16 = h ∧ (fr.env 0 = pav (List.length H) a0 ∧ fr.env 4 = pav (List.length H) x14 ∧ fr.env 5 = AV.sc (.int .i64 x15) ∧ fr.env 25 = AV.sc (.bool (sel (ine x15 0) true (Option.isNone x14))))) (fun K21 hk22 => ?_) ?_
  · refine AWp.region [] (by decide +kernel) ?_
    rcases Bool.eq_false_or_eq_true (ine x15 0) with hc23 | hc23
    · simp [hx6, hx9, hc23]
      refine hk22 _ _ ⟨?_, ⟨?_, ?_, ?_, ?_⟩⟩ <;> first | rfl | simp [hx6, hx9, hc23]
    simp [hx6, hx9, hc23]
    refine hk22 _ _ ⟨?_, ⟨?_, ?_, ?_, ?_⟩⟩ <;> first | rfl | simp [hx6, hx9, hc23]
  rintro fr24 h24 ⟨rfl, E24⟩
  refine AWp.condK fun A25 B26 ga27 gb28 => ?_
  rcases ite_some hm18 with ⟨hc29, hm30⟩ | ⟨hc29, hm31⟩
  · clear hm18
    simp [E24, hx6, hx9, hc29]
    apply ga27
    refine AWp.sr [] fun K32 hk33 => ?_
    simp [E24, hx6, hx9, hc29]
    apply hk33
    refine AWp.ret ?_
    simp only [Option.some.injEq, Prod.mk.injEq] at hm30
    obtain ⟨rfl, rfl, rfl⟩ := hm30
    simp [retQ, E24, hx6, hx9, hc29]
  clear hm18
  simp [E24, hx6, hx9, hc29]
  apply gb28
  refine AWp.skip ?_
  apply hk20
  refine AWp.sr [] fun K34 hk35 => ?_
  obtain ⟨x36, hx37, hm38⟩ := bind1_some hm31
  replace hx37 := HC.get_creduce_state_some hx37
  clear hm31
  try dsimp only at hm38
  have hf39 : hset (hmap (List.length H) nh16) x5 [pav (List.length H) x14, AV.sc (.int .i64 x36.steps)] = hmap (List.length H) (hput nh16 x5 (HC.creduce_state (Sreduce_state.mk x14 x36.steps))) := hset_hmapG rfl
  have hx40 : (hput nh16 x5 (HC.creduce_state (Sreduce_state.mk x14 x36.steps)))[x5]? = some (HC.creduce_state (Sreduce_state.mk x14 x36.steps)) := put_get hx37
  simp [E24, hx6, hx9, hx37, hf39, hx40, hc29]
  apply hk35
  refine AWp.sr [] fun K41 hk42 => ?_
  have hf43 : hset (hmap (List.length H) (hput nh16 x5 (HC.creduce_state (Sreduce_state.mk x14 x36.steps)))) x5 [pav (List.length H) x14, AV.sc (.int .i64 (iadd .i64 x36.steps 1))] = hmap (List.length H) (hput (hput nh16 x5 (HC.creduce_state (Sreduce_state.mk x14 x36.steps))) x5 (HC.creduce_state (Sreduce_state.mk x14 (iadd .i64 x36.steps 1)))) := hset_hmapG rfl
  have hx44 : (hput (hput nh16 x5 (HC.creduce_state (Sreduce_state.mk x14 x36.steps))) x5 (HC.creduce_state (Sreduce_state.mk x14 (iadd .i64 x36.steps 1))))[x5]? = some (HC.creduce_state (Sreduce_state.mk x14 (iadd .i64 x36.steps 1))) := put_get hx40
  simp [E24, hx6, hx9, hx37, hf39, hx40, hf43, hx44, hc29]
  apply hk42
  refine AWp.sr [] fun K45 hk46 => ?_
  simp [E24, hx6, hx9, hx37, hf39, hx40, hf43, hx44, hc29]
  apply hk46
  refine AWp.ret ?_
  simp only [Option.some.injEq, Prod.mk.injEq] at hm38
  obtain ⟨rfl, rfl, rfl⟩ := hm38
  simp [retQ, E24, hx6, hx9, hx37, hf39, hx40, hf43, hx44, hc29]

theorem enters83 : entersB Tryd.prog 83 = true := by kernel_rfl

theorem rg_tree_OwnType (T : Tabs) : ∀ (n : Nat), (∀ {H : Heap} {a0 : Ty} {r0 : Ty} (hm : tree_OwnType n a0 = some r0), ACall Tryd.prog T 83 [Ty.av a0] H (Ty.av r0) H) := by
  intro n
  induction n with
  | zero =>
    skip
    all_goals
      intros
      rename_i hm
      cases hm
  | succ n ih =>
    intro H a0 r0 hm
    rw [tree_OwnType] at hm
    refine ACallP.intro (fn := Tryd.f83) Tryd.func83 rfl enters83 (Nat.le_of_ble_eq_true rfl) ?_
    refine AWp.sr [] fun K1 hk2 => ?_
    simp
    apply hk2
    refine AWp.sr [] fun K3 hk4 => ?_
    simp
    apply hk4
    refine AWp.seqK fun K5 hk6 => ?_
    refine AWp.sr [] fun K7 hk8 => ?_
    simp
    apply hk8
    obtain ⟨hok9, hm10⟩ := chk_some hm
    clear hm
    obtain ⟨F11, hF12, hm13⟩ := joinB_some hm10
    clear hm10
    try dsimp only at hm13
    obtain ⟨out14, hl15, hmB16⟩ := bind1_some hm13
    clear hm13
    refine AWp.blockK fun Q17 nn18 ne19 nx20 nr21 => ?_
    refine AWp.loopF (fun n22 fr h => ∃ (i23 : Nat) (j24 : Int) (v25 : (List Ty)) (tg0_26 : Tag) (g2_26 : Nat) (g3_26 : Nat), H = h ∧ (fr.env 2 = AV.lptr 2 g2_26 0 ∧ fr.env 3 = AV.lptr 3 g3_26 0 ∧ fr.env 10 = AV.slice .frz (List.map Ty.av a0.args) ∧ fr.env 11 = AV.sc (.int .i64 (llen a0.args)) ∧ fr.env 12 = AV.sc (.int .i64 j24) ∧ fr.gen 2 = g2_26 ∧ fr.box 2 = some [AV.sc (.int .i64 0), AV.slice .full []] ∧ fr.gen 3 = g3_26 ∧ fr.box 3 = some [AV.sc (.int .i64 a0.kind), AV.slice tg0_26 (List.map Ty.av v25)]) ∧ OwnT fr.tab fr.tgen [21] tg0_26 (List.length v25) ∧ j24 = (i23 : Int) ∧ i23 + n22 = List.length a0.args ∧ forR F11 (List.drop i23 a0.args) i23 v25 = some out14) (List.length a0.args) ?_ ?_
    · refine ⟨0, 0, [], .full, 1, 1, ?_, ⟨?_, ?_, ?_, ?_, ?_, ?_, ?_, ?_, ?_⟩, OwnT.full, rfl, (by simp), hl15⟩ <;> first | rfl | simp
    rintro n22 fr26 h26 ⟨i23, j24, v25, tg0_26, g2_26, g3_26, rfl, E26, o0_26, hj27, hi28, hl15⟩ K29 hK30
    rcases n22 with _ | n22
    · have hlt31 := ilt_notJ (l := a0.args) hj27 (by omega)
      refine AWp.sr [] fun K32 hk33 => ?_
      simp [E26, hlt31]
      apply hk33
      refine AWp.seqK fun K34 hk35 => ?_
      refine AWp.condK fun A36 B37 ga38 gb39 => ?_
      simp [E26, hlt31]
      apply gb39
      refine AWp.exit ?_
      apply ne19
      rw [List.drop_eq_nil_of_le (by omega), forR_nil] at hl15
      obtain rfl := Option.some.inj hl15
      rw [sumK_inl] at hmB16
      try dsimp only at hmB16
      apply hk6
      refine AWp.sr [] fun K40 hk41 => ?_
      simp [E26, hlt31]
      apply hk41
      refine AWp.ret ?_
      obtain rfl := Option.some.inj hmB16
      simp [retQ, E26, hlt31]
    have hlt31 := ilt_ofJ (l := a0.args) hj27 (by omega)
    obtain ⟨x42, hdn22, hg43⟩ := drop_ltJ (l := a0.args) hj27 (by omega)
    rw [hdn22, forR_cons] at hl15
    obtain ⟨c44, hb45, hk46⟩ := bind1_some hl15
    clear hl15
    rw [hF12, ← hj27] at hb45
    try dsimp only at hb45
    refine AWp.sr [] fun K47 hk48 => ?_
    simp [E26, hlt31, hg43]
    apply hk48
    refine AWp.seqK fun K49 hk50 => ?_
    refine AWp.condK fun A51 B52 ga53 gb54 => ?_
    simp [E26, hlt31, hg43]
    apply ga53
    refine AWp.skip ?_
    apply hk50
    refine AWp.seqK fun K55 hk56 => ?_
    refine AWp.blockK fun Q57 nn58 ne59 nx60 nr61 => ?_
    refine AWp.sr [] fun K62 hk63 => ?_
    simp [E26, hlt31, hg43]
    apply hk63
    refine AWp.regionD [] false mixed (by decide +kernel) (by decide +kernel) ?_
    obtain ⟨x64, hx65, hm66⟩ := bind1_some hb45
    clear hb45
    try dsimp only at hm66
    simp [E26, hlt31, hg43]
    refine CallAtD.fn (ih hx65) (by simp) ?_
    obtain ⟨ha67, hm68⟩ := chk_some hm66
    clear hm66
    simp [E26, hlt31, hg43]
    refine AppAt.own (f := Ty.av) v25 [x64] o0_26 ap27 (by intro x; simp) ha67 (by first | rfl | simp) (by first | rfl | simp) ?_
    simp [E26, hlt31, hg43]
    apply nn58
    apply hk56
    refine AWp.region [] (by decide +kernel) ?_
    simp [E26, hlt31, hg43]
    obtain rfl := Option.some.inj hm68
    rw [ctlK_next] at hk46
    refine hK30 _ _ n22 (Nat.lt_succ_self _) ⟨(i23 + 1), (iadd .i64 j24 1), (lapp v25 [x64]), (.loc 21 (fr26.tgen 21 + 1)), g2_26, g3_26, ?_, ⟨?_, ?_, ?_, ?_, ?_, ?_, ?_, ?_, ?_⟩, (OwnT.mono (D := [21]) (OwnT.new (D := [21]) (d := 21) (by decide)) (by decide)), (iadd_idxJ hj27 (by omega) hok9), (by omega), hk46⟩ <;> first | rfl | simp [E26, hlt31, hg43]
theorem r_tree_OwnType (T : Tabs) {H : Heap} {a0 : Ty} {r0 : Ty} {n : Nat} (hm : tree_OwnType n a0 = some r0) : ACall Tryd.prog T 83 [Ty.av a0] H (Ty.av r0) H := (rg_tree_OwnType T n) hm

theorem enters54 : entersB Tryd.prog 54 = true := by kernel_rfl

theorem rg_graph_Node_Term (T : Tabs) : ∀ (n : Nat), (∀ {H : Heap} {a0 : (Option Nat)} {nh : List HC} {r0 : Tm} (hm : graph_Node_Term n a0 nh = some r0), ACall Tryd.prog T 54 [pav (List.length H) a0] (H ++ hmap (List.length H) nh) (Tm.av r0) (H ++ hmap (List.length H) nh)) := by
  intro n
  induction n with
  | zero =>
    skip
    all_goals
      intros
      rename_i hm
      cases hm
  | succ n ih =>
    intro H a0 nh r0 hm
    rw [graph_Node_Term] at hm
    refine ACallP.intro (fn := Tryd.f54) Tryd.func54 rfl enters54 (Nat.le_of_ble_eq_true rfl) ?_
    refine AWp.sr [] fun K1 hk2 => ?_
    simp
    apply hk2
    refine AWp.seqK fun K3 hk4 => ?_
    refine AWp.regionD [] true mixed (by decide +kernel) (by decide +kernel) ?_
    obtain ⟨x5, hx6, hm7⟩ := bind1_some hm
    clear hm
    try dsimp only at hm7
    obtain ⟨x8, hx9, hm10⟩ := bind1_some hm7
    replace hx9 := HC.get_cgraph_Node_some hx9
    clear hm7
    try dsimp only at hm10
    obtain ⟨x11, hx12, hm13⟩ := bind1_some hm10
    clear hm10
    try dsimp only at hm13
    simp [hx6, hx9]
    refine CallAtD.fn (r_tree_OwnType T hx12) (by simp) ?_
    simp [hx6, hx9]
    apply hk4
    refine AWp.seqK fun K14 hk15 => ?_
    refine AWp.sr [] fun K16 hk17 => ?_
    simp [hx6, hx9]
    apply hk17
    obtain ⟨hok18, hm19⟩ := chk_some hm13
    clear hm13
    obtain ⟨F20, hF21, hm22⟩ := joinB_some hm19
    clear hm19
    try dsimp only at hm22
    obtain ⟨out23, hl24, hmB25⟩ := bind1_some hm22
    clear hm22
    refine AWp.blockK fun Q26 nn27 ne28 nx29 nr30 => ?_
    refine AWp.loopF (fun n31 fr h => ∃ (i32 : Nat) (j33 : Int) (v34 : (List Tm)) (tg0_35 : Tag) (g2_35 : Nat) (g3_35 : Nat), H ++ hmap (List.length H) nh = h ∧ (fr.env 2 = AV.lptr 2 g2_35 0 ∧ fr.env 3 = AV.lptr 3 g3_35 0 ∧ fr.env 23 = AV.slice .frz (List.map (pav (List.length H)) x8.args) ∧ fr.env 24 = AV.sc (.int .i64 (llen x8.args)) ∧ fr.env 25 = AV.sc (.int .i64 j33) ∧ fr.gen 2 = g2_35 ∧ fr.box 2 = some [AV.sc (.int .i64 0), AV.sc (.int .i64 0), AV.sc (.int .i64 0), AV.slice .full [], AV.slice .full []] ∧ fr.gen 3 = g3_35 ∧ fr.box 3 = some [AV.sc (.int .i64 x8.kind), AV.sc (.int .i64 x8.index), AV.sc (.int .i64 x11.kind), AV.slice .frz (List.map Ty.av x11.args), AV.slice tg0_35 (List.map Tm.av v34)]) ∧ OwnT fr.tab fr.tgen [34] tg0_35 (List.length v34) ∧ j33 = (i32 : Int) ∧ i32 + n31 = List.length x8.args ∧ forR F20 (List.drop i32 x8.args) i32 v34 = some out23) (List.length x8.args) ?_ ?_
    · refine ⟨0, 0, [], .full, 1, 1, ?_, ⟨?_, ?_, ?_, ?_, ?_, ?_, ?_, ?_, ?_⟩, OwnT.full, rfl, (by simp), hl24⟩ <;> first | rfl | simp [hx6, hx9]
    rintro n31 fr35 h35 ⟨i32, j33, v34, tg0_35, g2_35, g3_35, rfl, E35, o0_35, hj36, hi37, hl24⟩ K38 hK39
    rcases n31 with _ | n31
    · have hlt40 := ilt_notJ (l := x8.args) hj36 (by omega)
      refine AWp.sr [] fun K41 hk42 => ?_
      simp [E35, hx6, hx9, hlt40]
      apply hk42
      refine AWp.seqK fun K43 hk44 => ?_
      refine AWp.condK fun A45 B46 ga47 gb48 => ?_
      simp [E35, hx6, hx9, hlt40]
      apply gb48
      refine AWp.exit ?_
      apply ne28
      rw [List.drop_eq_nil_of_le (by omega), forR_nil] at hl24
      obtain rfl := Option.some.inj hl24
      rw [sumK_inl] at hmB25
      try dsimp only at hmB25
      apply hk15
      refine AWp.sr [] fun K49 hk50 => ?_
      simp [E35, hx6, hx9, hlt40]
      apply hk50
      refine AWp.ret ?_
      obtain rfl := Option.some.inj hmB25
      simp [retQ, E35, hx6, hx9, hlt40]
    have hlt40 := ilt_ofJ (l := x8.args) hj36 (by omega)
    obtain ⟨x51, hdn31, hg52⟩ := drop_ltJ (l := x8.args) hj36 (by omega)
    rw [hdn31, forR_cons] at hl24
    obtain ⟨c53, hb54, hk55⟩ := bind1_some hl24
    clear hl24
    rw [hF21, ← hj36] at hb54
    try dsimp only at hb54
    refine AWp.sr [] fun K56 hk57 => ?_
    simp [E35, hx6, hx9, hlt40, hg52]
    apply hk57
    refine AWp.seqK fun K58 hk59 => ?_
    refine AWp.condK fun A60 B61 ga62 gb63 => ?_
    simp [E35, hx6, hx9, hlt40, hg52]
    apply ga62
    refine AWp.skip ?_
    apply hk59
    refine AWp.seqK fun K64 hk65 => ?_
    refine AWp.blockK fun Q66 nn67 ne68 nx69 nr70 => ?_
    refine AWp.sr [] fun K71 hk72 => ?_
    simp [E35, hx6, hx9, hlt40, hg52]
    apply hk72
    refine AWp.regionD [] false mixed (by decide +kernel) (by decide +kernel) ?_
    obtain ⟨x73, hx74, hm75⟩ := bind1_some hb54
    clear hb54
    try dsimp only at hm75
    simp [E35, hx6, hx9, hlt40, hg52]
    refine CallAtD.fn (ih (H := H) hx74) (by simp) ?_
    obtain ⟨ha76, hm77⟩ := chk_some hm75
    clear hm75
    simp [E35, hx6, hx9, hlt40, hg52]
    refine AppAt.own (f := Tm.av) v34 [x73] o0_35 ap32 (by intro x; simp) ha76 (by first | rfl | simp) (by first | rfl | simp) ?_
    simp [E35, hx6, hx9, hlt40, hg52]
    apply nn67
    apply hk65
    refine AWp.region [] (by decide +kernel) ?_
    simp [E35, hx6, hx9, hlt40, hg52]
    obtain rfl := Option.some.inj hm77
    rw [ctlK_next] at hk55
    refine hK39 _ _ n31 (Nat.lt_succ_self _) ⟨(i32 + 1), (iadd .i64 j33 1), (lapp v34 [x73]), (.loc 34 (fr35.tgen 34 + 1)), g2_35, g3_35, ?_, ⟨?_, ?_, ?_, ?_, ?_, ?_, ?_, ?_, ?_⟩, (OwnT.mono (D := [34]) (OwnT.new (D := [34]) (d := 34) (by decide)) (by decide)), (iadd_idxJ hj36 (by omega) hok18), (by omega), hk55⟩ <;> first | rfl | simp [E35, hx6, hx9, hlt40, hg52]
theorem r_graph_Node_Term (T : Tabs) {H : Heap} {a0 : (Option Nat)} {nh : List HC} {r0 : Tm} {n : Nat} (hm : graph_Node_Term n a0 nh = some r0) : ACall Tryd.prog T 54 [pav (List.length H) a0] (H ++ hmap (List.length H) nh) (Tm.av r0) (H ++ hmap (List.length H) nh) := (rg_graph_Node_Term T n) hm

theorem enters16 : entersB Tryd.prog 16 = true := by kernel_rfl

theorem r_reduce_Step (T : Tabs) (hT : T 0 = some (AV.agg (List.map (fun n => AV.sc (Value.int .i64 n)) tree_arities))) {H : Heap} {a0 : Tm} {r0 : Tm} {r1 : Bool} {r2 : Int} (hm : reduce_Step a0 = some (r0, r1, r2)) : ACall Tryd.prog T 16 [Tm.av a0] H (AV.tuple [Tm.av r0, AV.sc (.bool r1), AV.sc (.int .i64 r2)]) H := by
  rw [reduce_Step] at hm
  refine ACallP.drop0 (Post := fun x K => x = AV.tuple [Tm.av r0, AV.sc (.bool r1), AV.sc (.int .i64 r2)] ∧ ∃ X, K = H ++ X) ?_ (fun _ _ h => ⟨_, h.2.choose_spec, by rw [h.1]; simp [AV.low, AV.lowL], h.1, rfl⟩)
  refine ACallP.nh0 (c := HC.cells) ?_
  refine ACallP.intro (fn := Tryd.f16) Tryd.func16 rfl enters16 (Nat.le_of_ble_eq_true rfl) ?_
  refine AWp.sr [] fun K1 hk2 => ?_
  simp [hT]
  apply hk2
  refine AWp.seqK fun K3 hk4 => ?_
  refine AWp.sr [] fun K5 hk6 => ?_
  obtain ⟨x7, hx8, hm9⟩ := bind1_some hm
  clear hm
  try dsimp only at hm9
  simp [hT]
  refine CallAt.fn (r_terms_Check T hT hx8) ?_
  simp [hT]
  apply hk6
  refine AWp.sr [] fun K10 hk11 => ?_
  simp [hT]
  apply hk11
  refine AWp.condK fun A12 B13 ga14 gb15 => ?_
  rcases ite_some hm9 with ⟨hc16, hm17⟩ | ⟨hc16, hm18⟩
  · clear hm9
    simp [hT, hc16]
    apply ga14
    refine AWp.sr [] fun K19 hk20 => ?_
    simp [hT, hc16]
    apply hk20
    refine AWp.ret ?_
    simp only [Option.some.injEq, Prod.mk.injEq] at hm17
    obtain ⟨rfl, rfl, rfl⟩ := hm17
    simp [retQ, hT, hc16]
  clear hm9
  simp [hT, hc16]
  apply gb15
  refine AWp.skip ?_
  apply hk4
  refine AWp.seqK fun K21 hk22 => ?_
  refine AWp.sr [] fun K23 hk24 => ?_
  obtain ⟨x25, hx26, hm27⟩ := bind1_some hm18
  clear hm18
  try dsimp only at hm27
  simp [hT, hc16]
  refine CallAt.fn (r_tree_Near T hx26) ?_
  simp [hT, hc16]
  apply hk24
  refine AWp.condK fun A28 B29 ga30 gb31 => ?_
  rcases ite_some hm27 with ⟨hc32, hm33⟩ | ⟨hc32, hm34⟩
  rotate_left
  · clear hm27
    simp [hT, hc16, hc32]
    apply ga30
    refine AWp.sr [] fun K35 hk36 => ?_
    simp [hT, hc16, hc32]
    apply hk36
    refine AWp.ret ?_
    simp only [Option.some.injEq, Prod.mk.injEq] at hm34
    obtain ⟨rfl, rfl, rfl⟩ := hm34
    simp [retQ, hT, hc16, hc32]
  clear hm27
  simp [hT, hc16, hc32]
  apply gb31
  refine AWp.skip ?_
  apply hk22
  refine AWp.sr [22] fun K37 hk38 => ?_
  obtain ⟨x39, nh40, hx41, hm42⟩ := bind2_some hm33
  clear hm33
  try dsimp only at hm42
  simp [hT, hc16, hc32]
  refine CallAt.fn (r_graph_From T (H := H) hx41) ?_
  have hf43 : hmap (List.length H) nh40 ++ [[pav (List.length H) x39, AV.sc (.int .i64 0)]] = hmap (List.length H) (nh40 ++ [HC.creduce_state (Sreduce_state.mk x39 0)]) := hmapG_app rfl
  have hx44 : (nh40 ++ [HC.creduce_state (Sreduce_state.mk x39 0)])[(List.length nh40)]? = some (HC.creduce_state (Sreduce_state.mk x39 0)) := app_get
  simp [hT, hf43, hx44, hc16, hc32]
  apply hk38
  refine AWp.sr [] fun K45 hk46 => ?_
  obtain ⟨x47, x48, nh49, hx50, hm51⟩ := bind3_some hm42
  clear hm42
  try dsimp only at hm51
  simp [hT, hf43, hx44, hc16, hc32]
  refine CallAt.fn (r_reduce_state_next T (H := H) hx50) ?_
  simp [hT, hf43, hx44, hc16, hc32]
  apply hk46
  refine AWp.seqK fun K52 hk53 => ?_
  refine AWp.sr [] fun K54 hk55 => ?_
  simp [hT, hf43, hx44, hc16, hc32]
  apply hk55
  refine AWp.condK fun A56 B57 ga58 gb59 => ?_
  rcases ite_some hm51 with ⟨hc60, hm61⟩ | ⟨hc60, hm62⟩
  · clear hm51
    simp [hT, hf43, hx44, hc16, hc32, hc60]
    apply ga58
    refine AWp.sr [] fun K63 hk64 => ?_
    simp [hT, hf43, hx44, hc16, hc32, hc60]
    apply hk64
    refine AWp.ret ?_
    simp only [Option.some.injEq, Prod.mk.injEq] at hm61
    obtain ⟨rfl, rfl, rfl⟩ := hm61
    simp [retQ, hT, hf43, hx44, hc16, hc32, hc60]
  clear hm51
  simp [hT, hf43, hx44, hc16, hc32, hc60]
  apply gb59
  refine AWp.skip ?_
  apply hk53
  refine AWp.sr [] fun K65 hk66 => ?_
  obtain ⟨x67, hx68, hm69⟩ := bind1_some hm62
  replace hx68 := HC.get_creduce_state_some hx68
  clear hm62
  try dsimp only at hm69
  obtain ⟨x70, hx71, hm72⟩ := bind1_some hm69
  clear hm69
  try dsimp only at hm72
  simp [hT, hf43, hx44, hx68, hc16, hc32, hc60]
  refine CallAt.fn (r_graph_Node_Term T (H := H) hx71) ?_
  simp [hT, hf43, hx44, hx68, hc16, hc32, hc60]
  apply hk66
  refine AWp.ret ?_
  simp only [Option.some.injEq, Prod.mk.injEq] at hm72
  obtain ⟨rfl, rfl, rfl⟩ := hm72
  simp [retQ, hT, hf43, hx44, hx68, hc16, hc32, hc60]

theorem enters20 : entersB Tryd.prog 20 = true := by kernel_rfl

theorem rg_ref01_Same (T : Tabs) : ∀ (n : Nat), (∀ {H : Heap} {a0 : Ty} {a1 : Ty} {r0 : Bool} (hm : ref01_Same n a0 a1 = some r0), ACall Tryd.prog T 20 [Ty.av a0, Ty.av a1] H (AV.sc (.bool r0)) H) := by
  intro n
  induction n with
  | zero =>
    skip
    all_goals
      intros
      rename_i hm
      cases hm
  | succ n ih =>
    intro H a0 a1 r0 hm
    rw [ref01_Same] at hm
    refine ACallP.intro (fn := Tryd.f20) Tryd.func20 rfl enters20 (Nat.le_of_ble_eq_true rfl) ?_
    refine AWp.sr [] fun K1 hk2 => ?_
    simp
    apply hk2
    refine AWp.seqK fun K3 hk4 => ?_
    refine AWp.seqP (fun fr h => ∃ (g2_8 : Nat) (g3_8 : Nat), H = h ∧ (fr.env 2 = AV.lptr 2 g2_8 0 ∧ fr.env 3 = AV.lptr 3 g3_8 0 ∧ fr.env 19 = AV.sc (.bool (sel (ine a0.kind a1.kind) true (ine (llen a0.args) (llen a1.args)))) ∧ fr.gen 2 = g2_8 ∧ fr.box 2 = some [AV.sc (.int .i64 a0.kind), AV.slice .frz (List.map Ty.av a0.args)] ∧ fr.gen 3 = g3_8 ∧ fr.box 3 = some [AV.sc (.int .i64 a1.kind), AV.slice .frz (List.map Ty.av a1.args)])) (fun K5 hk6 => ?_) ?_
    · refine AWp.region [] (by decide +kernel) ?_
      rcases Bool.eq_false_or_eq_true (ine a0.kind a1.kind) with hc7 | hc7
      · simp [hc7]
        refine hk6 _ _ ⟨1, 1, ?_, ⟨?_, ?_, ?_, ?_, ?_, ?_, ?_⟩⟩ <;> first | rfl | simp [hc7]
      simp [hc7]
      refine hk6 _ _ ⟨1, 1, ?_, ⟨?_, ?_, ?_, ?_, ?_, ?_, ?_⟩⟩ <;> first | rfl | simp [hc7]
    rintro fr8 h8 ⟨g2_8, g3_8, rfl, E8⟩
    refine AWp.condK fun A9 B10 ga11 gb12 => ?_
    rcases ite_some hm with ⟨hc13, hm14⟩ | ⟨hc13, hm15⟩
    · clear hm
      simp [E8, hc13]
      apply ga11
      refine AWp.sr [] fun K16 hk17 => ?_
      simp [E8, hc13]
      apply hk17
      refine AWp.ret ?_
      obtain rfl := Option.some.inj hm14
      simp [retQ, E8, hc13]
    clear hm
    simp [E8, hc13]
    apply gb12
    refine AWp.skip ?_
    apply hk4
    refine AWp.seqK fun K18 hk19 => ?_
    refine AWp.sr [] fun K20 hk21 => ?_
    simp [E8, hc13]
    apply hk21
    obtain ⟨hok22, hm23⟩ := chk_some hm15
    clear hm15
    obtain ⟨F24, hF25, hm26⟩ := joinB_some hm23
    clear hm23
    try dsimp only at hm26
    obtain ⟨out27, hl28, hmB29⟩ := bind1_some hm26
    clear hm26
    refine AWp.blockK fun Q30 nn31 ne32 nx33 nr34 => ?_
    refine AWp.loopF (fun n35 fr h => ∃ (i36 : Nat) (j37 : Int) (g2_38 : Nat) (g3_38 : Nat), H = h ∧ (fr.env 2 = AV.lptr 2 g2_38 0 ∧ fr.env 3 = AV.lptr 3 g3_38 0 ∧ fr.env 22 = AV.sc (.int .i64 (llen a0.args)) ∧ fr.env 23 = AV.sc (.int .i64 j37) ∧ fr.gen 2 = g2_38 ∧ fr.box 2 = some [AV.sc (.int .i64 a0.kind), AV.slice .frz (List.map Ty.av a0.args)] ∧ fr.gen 3 = g3_38 ∧ fr.box 3 = some [AV.sc (.int .i64 a1.kind), AV.slice .frz (List.map Ty.av a1.args)]) ∧ j37 = (i36 : Int) ∧ i36 + n35 = List.length a0.args ∧ forR F24 (List.drop i36 a0.args) i36 () = some out27) (List.length a0.args) ?_ ?_
    · refine ⟨0, 0, g2_8, g3_8, ?_, ⟨?_, ?_, ?_, ?_, ?_, ?_, ?_, ?_⟩, rfl, (by simp), hl28⟩ <;> first | rfl | simp [E8, hc13]
    rintro n35 fr38 h38 ⟨i36, j37, g2_38, g3_38, rfl, E38, hj39, hi40, hl28⟩ K41 hK42
    rcases n35 with _ | n35
    · have hlt43 := ilt_notJ (l := a0.args) hj39 (by omega)
      refine AWp.sr [] fun K44 hk45 => ?_
      simp [E38, hlt43, hc13]
      apply hk45
      refine AWp.seqK fun K46 hk47 => ?_
      refine AWp.condK fun A48 B49 ga50 gb51 => ?_
      simp [E38, hlt43, hc13]
      apply gb51
      refine AWp.exit ?_
      apply ne32
      rw [List.drop_eq_nil_of_le (by omega), forR_nil] at hl28
      obtain rfl := Option.some.inj hl28
      rw [sumK_inl] at hmB29
      try dsimp only at hmB29
      apply hk19
      refine AWp.sr [] fun K52 hk53 => ?_
      simp [E38, hlt43, hc13]
      apply hk53
      refine AWp.ret ?_
      obtain rfl := Option.some.inj hmB29
      simp [retQ, E38, hlt43, hc13]
    have hlt43 := ilt_ofJ (l := a0.args) hj39 (by omega)
    obtain ⟨x54, hdn35, hg55⟩ := drop_ltJ (l := a0.args) hj39 (by omega)
    rw [hdn35, forR_cons] at hl28
    obtain ⟨c56, hb57, hk58⟩ := bind1_some hl28
    clear hl28
    rw [hF25, ← hj39] at hb57
    try dsimp only at hb57
    refine AWp.sr [] fun K59 hk60 => ?_
    simp [E38, hlt43, hg55, hc13]
    apply hk60
    refine AWp.seqK fun K61 hk62 => ?_
    refine AWp.condK fun A63 B64 ga65 gb66 => ?_
    simp [E38, hlt43, hg55, hc13]
    apply ga65
    refine AWp.skip ?_
    apply hk62
    refine AWp.seqK fun K67 hk68 => ?_
    refine AWp.blockK fun Q69 nn70 ne71 nx72 nr73 => ?_
    refine AWp.sr [] fun K74 hk75 => ?_
    simp [E38, hlt43, hg55, hc13]
    apply hk75
    refine AWp.seqK fun K76 hk77 => ?_
    refine AWp.regionD [] false mixed (by decide +kernel) (by decide +kernel) ?_
    obtain ⟨x78, hx79, hm80⟩ := bind1_some hb57
    clear hb57
    try dsimp only at hm80
    obtain ⟨x81, hx82, hm83⟩ := bind1_some hm80
    clear hm80
    try dsimp only at hm83
    simp [E38, hlt43, hg55, hx79, hc13]
    refine CallAtD.fn (ih hx82) (by simp) ?_
    simp [E38, hlt43, hg55, hx79, hc13]
    apply hk77
    refine AWp.condK fun A84 B85 ga86 gb87 => ?_
    rcases ite_some hm83 with ⟨hc88, hm89⟩ | ⟨hc88, hm90⟩
    rotate_left
    · clear hm83
      simp [E38, hlt43, hg55, hx79, hc13, hc88]
      apply ga86
      refine AWp.sr [] fun K91 hk92 => ?_
      simp [E38, hlt43, hg55, hx79, hc13, hc88]
      apply hk92
      refine AWp.ret ?_
      apply nr73
      apply nr34
      obtain rfl := Option.some.inj hm90
      rw [ctlK_ret] at hk58
      obtain rfl := Option.some.inj hk58
      rw [sumK_inr] at hmB29
      try dsimp only at hmB29
      obtain rfl := Option.some.inj hmB29
      simp [retQ, E38, hlt43, hg55, hx79, hc13, hc88]
    clear hm83
    simp [E38, hlt43, hg55, hx79, hc13, hc88]
    apply gb87
    refine AWp.skip ?_
    apply nn70
    apply hk68
    refine AWp.region [] (by decide +kernel) ?_
    simp [E38, hlt43, hg55, hx79, hc13, hc88]
    obtain rfl := Option.some.inj hm89
    rw [ctlK_next] at hk58
    refine hK42 _ _ n35 (Nat.lt_succ_self _) ⟨(i36 + 1), (iadd .i64 j37 1), g2_38, g3_38, ?_, ⟨?_, ?_, ?_, ?_, ?_, ?_, ?_, ?_⟩, (iadd_idxJ hj39 (by omega) hok22), (by omega), hk58⟩ <;> first | rfl | simp [E38, hlt43, hg55, hx79, hc13, hc88]
theorem r_ref01_Same (T : Tabs) {H : Heap} {a0 : Ty} {a1 : Ty} {r0 : Bool} {n : Nat} (hm : ref01_Same n a0 a1 = some r0) : ACall Tryd.prog T 20 [Ty.av a0, Ty.av a1] H (AV.sc (.bool r0)) H := (rg_ref01_Same T n) hm

end Go.Proofs.YtnabbjnhemmkhaaDoor
