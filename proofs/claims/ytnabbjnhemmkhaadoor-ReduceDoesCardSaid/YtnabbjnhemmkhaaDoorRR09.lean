/- The program's functions do what the models say. -/
import Derived.Test.YtnabbjnhemmkhaaDoorRR08
import Derived.Test.YtnabbjnhemmkhaaDoorRM
set_option maxRecDepth 20000
set_option maxHeartbeats 4000000
set_option linter.unusedSimpArgs false
set_option linter.unusedVariables false
namespace Go.Proofs.YtnabbjnhemmkhaaDoor
open Go Go.Abs Go.Mdl

theorem enters68 : entersB Tryd.prog 68 = true := by kernel_rfl

theorem rg_ref03_Least (T : Tabs) : ∀ (n : Nat), (∀ {H : Heap} {a0 : Tm} {a1 : Int} {r0 : Bool} (hm : ref03_Least n a0 a1 = some r0), ACall Tryd.prog T 68 [Tm.av a0, AV.sc (.int .i64 a1)] H (AV.sc (.bool r0)) H) := by
  intro n
  induction n with
  | zero =>
    skip
    all_goals
      intros
      rename_i hm
      cases hm
  | succ n ih =>
    intro H a0 a1 r0 hm
    rw [ref03_Least] at hm
    refine ACallP.intro (fn := Tryd.f68) Tryd.func68 rfl enters68 (Nat.le_of_ble_eq_true rfl) ?_
    refine AWp.sr [] fun K1 hk2 => ?_
    simp
    apply hk2
    refine AWp.seqK fun K3 hk4 => ?_
    refine AWp.sr [] fun K5 hk6 => ?_
    simp
    apply hk6
    refine AWp.condK fun A7 B8 ga9 gb10 => ?_
    rcases ite_some hm with ⟨hc11, hm12⟩ | ⟨hc11, hm13⟩
    · clear hm
      simp [hc11]
      apply ga9
      refine AWp.sr [] fun K14 hk15 => ?_
      simp [hc11]
      apply hk15
      refine AWp.ret ?_
      obtain rfl := Option.some.inj hm12
      simp [retQ, hc11]
    clear hm
    simp [hc11]
    apply gb10
    refine AWp.skip ?_
    apply hk4
    refine AWp.seqK fun K16 hk17 => ?_
    refine AWp.sr [] fun K18 hk19 => ?_
    simp [hc11]
    apply hk19
    obtain ⟨hok20, hm21⟩ := chk_some hm13
    clear hm13
    obtain ⟨F22, hF23, hm24⟩ := joinB_some hm21
    clear hm21
    try dsimp only at hm24
    obtain ⟨out25, hl26, hmB27⟩ := bind1_some hm24
    clear hm24
    refine AWp.blockK fun Q28 nn29 ne30 nx31 nr32 => ?_
    refine AWp.loopF (fun n33 fr h => ∃ (i34 : Nat) (j35 : Int), H = h ∧ (fr.env 1 = AV.sc (.int .i64 a1) ∧ fr.env 12 = AV.slice .frz (List.map Tm.av a0.args) ∧ fr.env 13 = AV.sc (.int .i64 (llen a0.args)) ∧ fr.env 14 = AV.sc (.int .i64 j35)) ∧ j35 = (i34 : Int) ∧ i34 + n33 = List.length a0.args ∧ forR F22 (List.drop i34 a0.args) i34 () = some out25) (List.length a0.args) ?_ ?_
    · refine ⟨0, 0, ?_, ⟨?_, ?_, ?_, ?_⟩, rfl, (by simp), hl26⟩ <;> first | rfl | simp [hc11]
    rintro n33 fr36 h36 ⟨i34, j35, rfl, E36, hj37, hi38, hl26⟩ K39 hK40
    rcases n33 with _ | n33
    · have hlt41 := ilt_notJ (l := a0.args) hj37 (by omega)
      refine AWp.sr [] fun K42 hk43 => ?_
      simp [E36, hlt41, hc11]
      apply hk43
      refine AWp.seqK fun K44 hk45 => ?_
      refine AWp.condK fun A46 B47 ga48 gb49 => ?_
      simp [E36, hlt41, hc11]
      apply gb49
      refine AWp.exit ?_
      apply ne30
      rw [List.drop_eq_nil_of_le (by omega), forR_nil] at hl26
      obtain rfl := Option.some.inj hl26
      rw [sumK_inl] at hmB27
      try dsimp only at hmB27
      apply hk17
      refine AWp.sr [] fun K50 hk51 => ?_
      simp [E36, hlt41, hc11]
      apply hk51
      refine AWp.ret ?_
      obtain rfl := Option.some.inj hmB27
      simp [retQ, E36, hlt41, hc11]
    have hlt41 := ilt_ofJ (l := a0.args) hj37 (by omega)
    obtain ⟨x52, hdn33, hg53⟩ := drop_ltJ (l := a0.args) hj37 (by omega)
    rw [hdn33, forR_cons] at hl26
    obtain ⟨c54, hb55, hk56⟩ := bind1_some hl26
    clear hl26
    rw [hF23, ← hj37] at hb55
    try dsimp only at hb55
    refine AWp.sr [] fun K57 hk58 => ?_
    simp [E36, hlt41, hg53, hc11]
    apply hk58
    refine AWp.seqK fun K59 hk60 => ?_
    refine AWp.condK fun A61 B62 ga63 gb64 => ?_
    simp [E36, hlt41, hg53, hc11]
    apply ga63
    refine AWp.skip ?_
    apply hk60
    refine AWp.seqK fun K65 hk66 => ?_
    refine AWp.blockK fun Q67 nn68 ne69 nx70 nr71 => ?_
    refine AWp.sr [] fun K72 hk73 => ?_
    simp [E36, hlt41, hg53, hc11]
    apply hk73
    refine AWp.sr [] fun K74 hk75 => ?_
    obtain ⟨x76, hx77, hm78⟩ := bind1_some hb55
    clear hb55
    try dsimp only at hm78
    simp [E36, hlt41, hg53, hc11]
    refine CallAt.fn (ih hx77) ?_
    simp [E36, hlt41, hg53, hc11]
    apply hk75
    refine AWp.condK fun A79 B80 ga81 gb82 => ?_
    rcases ite_some hm78 with ⟨hc83, hm84⟩ | ⟨hc83, hm85⟩
    rotate_left
    · clear hm78
      simp [E36, hlt41, hg53, hc11, hc83]
      apply ga81
      refine AWp.sr [] fun K86 hk87 => ?_
      simp [E36, hlt41, hg53, hc11, hc83]
      apply hk87
      refine AWp.ret ?_
      apply nr71
      apply nr32
      obtain rfl := Option.some.inj hm85
      rw [ctlK_ret] at hk56
      obtain rfl := Option.some.inj hk56
      rw [sumK_inr] at hmB27
      try dsimp only at hmB27
      obtain rfl := Option.some.inj hmB27
      simp [retQ, E36, hlt41, hg53, hc11, hc83]
    clear hm78
    simp [E36, hlt41, hg53, hc11, hc83]
    apply gb82
    refine AWp.skip ?_
    apply nn68
    apply hk66
    refine AWp.region [] (by decide +kernel) ?_
    simp [E36, hlt41, hg53, hc11, hc83]
    obtain rfl := Option.some.inj hm84
    rw [ctlK_next] at hk56
    refine hK40 _ _ n33 (Nat.lt_succ_self _) ⟨(i34 + 1), (iadd .i64 j35 1), ?_, ⟨?_, ?_, ?_, ?_⟩, (iadd_idxJ hj37 (by omega) hok20), (by omega), hk56⟩ <;> first | rfl | simp [E36, hlt41, hg53, hc11, hc83]
theorem r_ref03_Least (T : Tabs) {H : Heap} {a0 : Tm} {a1 : Int} {r0 : Bool} {n : Nat} (hm : ref03_Least n a0 a1 = some r0) : ACall Tryd.prog T 68 [Tm.av a0, AV.sc (.int .i64 a1)] H (AV.sc (.bool r0)) H := (rg_ref03_Least T n) hm

theorem enters93 : entersB Tryd.prog 93 = true := by kernel_rfl

theorem rg_ref03_Times (T : Tabs) : ∀ (n : Nat), (∀ {H : Heap} {a0 : Tm} {a1 : Int} {r0 : Int} (hm : ref03_Times n a0 a1 = some r0), ACall Tryd.prog T 93 [Tm.av a0, AV.sc (.int .i64 a1)] H (AV.sc (.int .i64 r0)) H) := by
  intro n
  induction n with
  | zero =>
    skip
    all_goals
      intros
      rename_i hm
      cases hm
  | succ n ih =>
    intro H a0 a1 r0 hm
    rw [ref03_Times] at hm
    refine ACallP.intro (fn := Tryd.f93) Tryd.func93 rfl enters93 (Nat.le_of_ble_eq_true rfl) ?_
    refine AWp.sr [] fun K1 hk2 => ?_
    simp
    apply hk2
    refine AWp.sr [] fun K3 hk4 => ?_
    simp
    apply hk4
    refine AWp.seqP (fun fr h => ∃ (g2_16 : Nat), H = h ∧ (fr.env 1 = AV.sc (.int .i64 a1) ∧ fr.env 2 = AV.lptr 2 g2_16 0 ∧ fr.env 5 = AV.sc (.int .i64 (sel (sel (ieq a0.kind 1) (ieq a0.index a1) false) (iadd .i64 0 1) 0)) ∧ fr.gen 2 = g2_16 ∧ fr.box 2 = some [AV.sc (.int .i64 a0.kind), AV.sc (.int .i64 a0.index), AV.sc (.int .i64 a0.typeF.kind), AV.slice .frz (List.map Ty.av a0.typeF.args), AV.slice .frz (List.map Tm.av a0.args)])) (fun K5 hk6 => ?_) ?_
    · refine AWp.seqP (fun fr h => ∃ (g2_10 : Nat), H = h ∧ (fr.env 1 = AV.sc (.int .i64 a1) ∧ fr.env 2 = AV.lptr 2 g2_10 0 ∧ fr.env 5 = AV.sc (.int .i64 0) ∧ fr.env 16 = AV.sc (.bool (sel (ieq a0.kind 1) (ieq a0.index a1) false)) ∧ fr.gen 2 = g2_10 ∧ fr.box 2 = some [AV.sc (.int .i64 a0.kind), AV.sc (.int .i64 a0.index), AV.sc (.int .i64 a0.typeF.kind), AV.slice .frz (List.map Ty.av a0.typeF.args), AV.slice .frz (List.map Tm.av a0.args)])) (fun K7 hk8 => ?_) ?_
      · refine AWp.region [] (by decide +kernel) ?_
        rcases Bool.eq_false_or_eq_true (ieq a0.kind 1) with hc9 | hc9
        · simp [hc9]
          refine hk8 _ _ ⟨1, ?_, ⟨?_, ?_, ?_, ?_, ?_, ?_⟩⟩ <;> first | rfl | simp [hc9]
        simp [hc9]
        refine hk8 _ _ ⟨1, ?_, ⟨?_, ?_, ?_, ?_, ?_, ?_⟩⟩ <;> first | rfl | simp [hc9]
      rintro fr10 h10 ⟨g2_10, rfl, E10⟩
      refine AWp.condK fun A11 B12 ga13 gb14 => ?_
      rcases Bool.eq_false_or_eq_true (sel (ieq a0.kind 1) (ieq a0.index a1) false) with hc15 | hc15
      rotate_left
      · simp [E10, hc15]
        apply gb14
        refine AWp.skip ?_
        refine hk6 _ _ ⟨g2_10, ?_, ⟨?_, ?_, ?_, ?_, ?_⟩⟩ <;> first | rfl | simp [E10, hc15]
      simp [E10, hc15]
      apply ga13
      refine AWp.region [] (by decide +kernel) ?_
      simp [E10, hc15]
      refine hk6 _ _ ⟨g2_10, ?_, ⟨?_, ?_, ?_, ?_, ?_⟩⟩ <;> first | rfl | simp [E10, hc15]
    rintro fr16 h16 ⟨g2_16, rfl, E16⟩
    refine AWp.seqK fun K17 hk18 => ?_
    refine AWp.sr [] fun K19 hk20 => ?_
    simp [E16]
    apply hk20
    obtain ⟨hok21, hm22⟩ := chk_some hm
    clear hm
    obtain ⟨F23, hF24, hm25⟩ := joinB_some hm22
    clear hm22
    try dsimp only at hm25
    obtain ⟨out26, hl27, hmB28⟩ := bind1_some hm25
    clear hm25
    refine AWp.blockK fun Q29 nn30 ne31 nx32 nr33 => ?_
    refine AWp.loopF (fun n34 fr h => ∃ (i35 : Nat) (j36 : Int) (v37 : Int) (g2_38 : Nat), H = h ∧ (fr.env 1 = AV.sc (.int .i64 a1) ∧ fr.env 2 = AV.lptr 2 g2_38 0 ∧ fr.env 5 = AV.sc (.int .i64 v37) ∧ fr.env 20 = AV.slice .frz (List.map Tm.av a0.args) ∧ fr.env 21 = AV.sc (.int .i64 (llen a0.args)) ∧ fr.env 22 = AV.sc (.int .i64 j36) ∧ fr.gen 2 = g2_38 ∧ fr.box 2 = some [AV.sc (.int .i64 a0.kind), AV.sc (.int .i64 a0.index), AV.sc (.int .i64 a0.typeF.kind), AV.slice .frz (List.map Ty.av a0.typeF.args), AV.slice .frz (List.map Tm.av a0.args)]) ∧ j36 = (i35 : Int) ∧ i35 + n34 = List.length a0.args ∧ forR F23 (List.drop i35 a0.args) i35 v37 = some out26) (List.length a0.args) ?_ ?_
    · refine ⟨0, 0, (sel (sel (ieq a0.kind 1) (ieq a0.index a1) false) (iadd .i64 0 1) 0), g2_16, ?_, ⟨?_, ?_, ?_, ?_, ?_, ?_, ?_, ?_⟩, rfl, (by simp), hl27⟩ <;> first | rfl | simp [E16]
    rintro n34 fr38 h38 ⟨i35, j36, v37, g2_38, rfl, E38, hj39, hi40, hl27⟩ K41 hK42
    rcases n34 with _ | n34
    · have hlt43 := ilt_notJ (l := a0.args) hj39 (by omega)
      refine AWp.sr [] fun K44 hk45 => ?_
      simp [E38, hlt43]
      apply hk45
      refine AWp.seqK fun K46 hk47 => ?_
      refine AWp.condK fun A48 B49 ga50 gb51 => ?_
      simp [E38, hlt43]
      apply gb51
      refine AWp.exit ?_
      apply ne31
      rw [List.drop_eq_nil_of_le (by omega), forR_nil] at hl27
      obtain rfl := Option.some.inj hl27
      rw [sumK_inl] at hmB28
      try dsimp only at hmB28
      apply hk18
      refine AWp.sr [] fun K52 hk53 => ?_
      simp [E38, hlt43]
      apply hk53
      refine AWp.ret ?_
      obtain rfl := Option.some.inj hmB28
      simp [retQ, E38, hlt43]
    have hlt43 := ilt_ofJ (l := a0.args) hj39 (by omega)
    obtain ⟨x54, hdn34, hg55⟩ := drop_ltJ (l := a0.args) hj39 (by omega)
    rw [hdn34, forR_cons] at hl27
    obtain ⟨c56, hb57, hk58⟩ := bind1_some hl27
    clear hl27
    rw [hF24, ← hj39] at hb57
    try dsimp only at hb57
    refine AWp.sr [] fun K59 hk60 => ?_
    simp [E38, hlt43, hg55]
    apply hk60
    refine AWp.seqK fun K61 hk62 => ?_
    refine AWp.condK fun A63 B64 ga65 gb66 => ?_
    simp [E38, hlt43, hg55]
    apply ga65
    refine AWp.skip ?_
    apply hk62
    refine AWp.seqK fun K67 hk68 => ?_
    refine AWp.blockK fun Q69 nn70 ne71 nx72 nr73 => ?_
    refine AWp.sr [] fun K74 hk75 => ?_
    simp [E38, hlt43, hg55]
    apply hk75
    refine AWp.regionD [] false mixed (by decide +kernel) (by decide +kernel) ?_
    obtain ⟨x76, hx77, hm78⟩ := bind1_some hb57
    clear hb57
    try dsimp only at hm78
    simp [E38, hlt43, hg55]
    refine CallAtD.fn (r_ref03_below T hx77) (by simp) ?_
    obtain ⟨x79, hx80, hm81⟩ := bind1_some hm78
    clear hm78
    try dsimp only at hm81
    simp [E38, hlt43, hg55]
    refine CallAtD.fn (ih hx80) (by simp) ?_
    simp [E38, hlt43, hg55]
    apply nn70
    apply hk68
    refine AWp.region [] (by decide +kernel) ?_
    simp [E38, hlt43, hg55]
    obtain rfl := Option.some.inj hm81
    rw [ctlK_next] at hk58
    refine hK42 _ _ n34 (Nat.lt_succ_self _) ⟨(i35 + 1), (iadd .i64 j36 1), (iadd .i64 v37 x79), g2_38, ?_, ⟨?_, ?_, ?_, ?_, ?_, ?_, ?_, ?_⟩, (iadd_idxJ hj39 (by omega) hok21), (by omega), hk58⟩ <;> first | rfl | simp [E38, hlt43, hg55]
theorem r_ref03_Times (T : Tabs) {H : Heap} {a0 : Tm} {a1 : Int} {r0 : Int} {n : Nat} (hm : ref03_Times n a0 a1 = some r0) : ACall Tryd.prog T 93 [Tm.av a0, AV.sc (.int .i64 a1)] H (AV.sc (.int .i64 r0)) H := (rg_ref03_Times T n) hm

theorem enters70 : entersB Tryd.prog 70 = true := by kernel_rfl

theorem r_ref04_growth (T : Tabs) {H : Heap} {a0 : Tm} {r0 : Int} (hm : ref04_growth a0 = some r0) : ACall Tryd.prog T 70 [Tm.av a0] H (AV.sc (.int .i64 r0)) H := by
  rw [ref04_growth] at hm
  refine ACallP.intro (fn := Tryd.f70) Tryd.func70 rfl enters70 (Nat.le_of_ble_eq_true rfl) ?_
  refine AWp.sr [] fun K1 hk2 => ?_
  simp
  apply hk2
  refine AWp.sr [] fun K3 hk4 => ?_
  obtain ⟨x5, hx6, hm7⟩ := bind1_some hm
  clear hm
  try dsimp only at hm7
  simp
  refine CallAt.fn (r_ref02_Count T hx6) ?_
  simp
  apply hk4
  refine AWp.seqK fun K8 hk9 => ?_
  refine AWp.sr [] fun K10 hk11 => ?_
  simp
  apply hk11
  refine AWp.blockK fun Q12 nn13 ne14 nx15 nr16 => ?_
  refine AWp.sr [] fun K17 hk18 => ?_
  simp
  apply hk18
  refine AWp.condK fun A19 B20 ga21 gb22 => ?_
  rcases ite_some hm7 with ⟨hc23, hm24⟩ | ⟨hc23, hm25⟩
  · clear hm7
    simp [hc23]
    apply ga21
    refine AWp.seqK fun K26 hk27 => ?_
    refine AWp.regionD [] false mixed (by decide +kernel) (by decide +kernel) ?_
    obtain ⟨x28, hx29, hm30⟩ := bind1_some hm24
    clear hm24
    try dsimp only at hm30
    obtain ⟨x31, hx32, hm33⟩ := bind1_some hm30
    clear hm30
    try dsimp only at hm33
    obtain ⟨x34, hx35, hm36⟩ := bind1_some hm33
    clear hm33
    try dsimp only at hm36
    simp [hx29, hx32, hx35, hc23]
    apply hk27
    refine AWp.seqK fun K37 hk38 => ?_
    refine AWp.regionD [] false mixed (by decide +kernel) (by decide +kernel) ?_
    obtain ⟨x39, hx40, hm41⟩ := bind1_some hm36
    clear hm36
    try dsimp only at hm41
    simp [hx29, hx32, hx35, hc23]
    refine CallAtD.fn (r_ref02_Count T hx40) (by simp) ?_
    obtain ⟨x42, hx43, hm44⟩ := bind1_some hm41
    clear hm41
    try dsimp only at hm44
    simp [hx29, hx32, hx35, hc23]
    refine CallAtD.fn (r_ref03_Times T hx43) (by simp) ?_
    obtain ⟨x45, hx46, hm47⟩ := bind1_some hm44
    clear hm44
    try dsimp only at hm47
    simp [hx29, hx32, hx35, hc23]
    refine CallAtD.fn (r_ref02_Count T hx46) (by simp) ?_
    simp [hx29, hx32, hx35, hc23]
    apply hk38
    refine AWp.ret ?_
    apply nr16
    obtain rfl := Option.some.inj hm47
    simp [retQ, hx29, hx32, hx35, hc23]
  clear hm7
  simp [hc23]
  apply gb22
  refine AWp.sr [] fun K48 hk49 => ?_
  simp [hc23]
  apply hk49
  refine AWp.condK fun A50 B51 ga52 gb53 => ?_
  rcases ite_some hm25 with ⟨hc54, hm55⟩ | ⟨hc54, hm56⟩
  · clear hm25
    simp [hc23, hc54]
    apply ga52
    refine AWp.seqK fun K57 hk58 => ?_
    refine AWp.sr [] fun K59 hk60 => ?_
    obtain ⟨x61, hx62, hm63⟩ := bind1_some hm55
    clear hm55
    try dsimp only at hm63
    simp [hx62, hc23, hc54]
    apply hk60
    refine AWp.condK fun A64 B65 ga66 gb67 => ?_
    rcases ite_some hm63 with ⟨hc68, hm69⟩ | ⟨hc68, hm70⟩
    · clear hm63
      simp [hx62, hc23, hc54, hc68]
      apply ga66
      refine AWp.sr [] fun K71 hk72 => ?_
      obtain ⟨x73, hx74, hm75⟩ := bind1_some hm69
      clear hm69
      try dsimp only at hm75
      obtain ⟨x76, hx77, hm78⟩ := bind1_some hm75
      clear hm75
      try dsimp only at hm78
      simp [hx62, hx74, hc23, hc54, hc68]
      refine CallAt.fn (r_ref02_Count T hx77) ?_
      simp [hx62, hx74, hc23, hc54, hc68]
      apply hk72
      refine AWp.ret ?_
      apply nr16
      obtain rfl := Option.some.inj hm78
      simp [retQ, hx62, hx74, hc23, hc54, hc68]
    clear hm63
    simp [hx62, hc23, hc54, hc68]
    apply gb67
    refine AWp.skip ?_
    apply hk58
    refine AWp.seqK fun K79 hk80 => ?_
    refine AWp.regionD [] false mixed (by decide +kernel) (by decide +kernel) ?_
    obtain ⟨x81, hx82, hm83⟩ := bind1_some hm70
    clear hm70
    try dsimp only at hm83
    obtain ⟨x84, hx85, hm86⟩ := bind1_some hm83
    clear hm83
    try dsimp only at hm86
    simp [hx62, hx82, hc23, hc54, hc68]
    refine CallAtD.fn (r_ref02_Count T hx85) (by simp) ?_
    obtain ⟨x87, hx88, hm89⟩ := bind1_some hm86
    clear hm86
    try dsimp only at hm89
    obtain ⟨x90, hx91, hm92⟩ := bind1_some hm89
    clear hm89
    try dsimp only at hm92
    simp [hx62, hx82, hx88, hc23, hc54, hc68]
    refine CallAtD.fn (r_ref02_Count T hx91) (by simp) ?_
    simp [hx62, hx82, hx88, hc23, hc54, hc68]
    apply hk80
    refine AWp.ret ?_
    apply nr16
    obtain rfl := Option.some.inj hm92
    simp [retQ, hx62, hx82, hx88, hc23, hc54, hc68]
  clear hm25
  simp [hc23, hc54]
  apply gb53
  refine AWp.sr [] fun K93 hk94 => ?_
  simp [hc23, hc54]
  apply hk94
  refine AWp.condK fun A95 B96 ga97 gb98 => ?_
  rcases ite_some hm56 with ⟨hc99, hm100⟩ | ⟨hc99, hm101⟩
  rotate_left
  · clear hm56
    simp [hc23, hc54, hc99]
    apply gb98
    refine AWp.sr [] fun K102 hk103 => ?_
    simp [hc23, hc54, hc99]
    apply hk103
    refine AWp.condK fun A104 B105 ga106 gb107 => ?_
    rcases ite_some hm101 with ⟨hc108, hm109⟩ | ⟨hc108, hm110⟩
    · clear hm101
      simp [hc23, hc54, hc99, hc108]
      apply ga106
      refine AWp.sr [] fun K111 hk112 => ?_
      obtain ⟨x113, hx114, hm115⟩ := bind1_some hm109
      clear hm109
      try dsimp only at hm115
      obtain ⟨x116, hx117, hm118⟩ := bind1_some hm115
      clear hm115
      try dsimp only at hm118
      obtain ⟨x119, hx120, hm121⟩ := bind1_some hm118
      clear hm118
      try dsimp only at hm121
      simp [hx114, hx117, hc23, hc54, hc99, hc108]
      refine CallAt.fn (r_ref02_Count T hx120) ?_
      simp [hx114, hx117, hc23, hc54, hc99, hc108]
      apply hk112
      refine AWp.ret ?_
      apply nr16
      obtain rfl := Option.some.inj hm121
      simp [retQ, hx114, hx117, hc23, hc54, hc99, hc108]
    clear hm101
    simp [hc23, hc54, hc99, hc108]
    apply gb107
    refine AWp.skip ?_
    apply nn13
    apply hk9
    refine AWp.sr [] fun K122 hk123 => ?_
    obtain ⟨x124, hx125, hm126⟩ := bind1_some hm110
    clear hm110
    try dsimp only at hm126
    obtain ⟨x127, hx128, hm129⟩ := bind1_some hm126
    clear hm126
    try dsimp only at hm129
    obtain ⟨x130, hx131, hm132⟩ := bind1_some hm129
    clear hm129
    try dsimp only at hm132
    simp [hx125, hx128, hc23, hc54, hc99, hc108]
    refine CallAt.fn (r_ref02_Count T hx131) ?_
    simp [hx125, hx128, hc23, hc54, hc99, hc108]
    apply hk123
    refine AWp.ret ?_
    obtain rfl := Option.some.inj hm132
    simp [retQ, hx125, hx128, hc23, hc54, hc99, hc108]
  clear hm56
  simp [hc23, hc54, hc99]
  apply ga97
  refine AWp.seqK fun K133 hk134 => ?_
  refine AWp.sr [] fun K135 hk136 => ?_
  obtain ⟨x137, hx138, hm139⟩ := bind1_some hm100
  clear hm100
  try dsimp only at hm139
  simp [hx138, hc23, hc54, hc99]
  apply hk136
  refine AWp.condK fun A140 B141 ga142 gb143 => ?_
  rcases ite_some hm139 with ⟨hc144, hm145⟩ | ⟨hc144, hm146⟩
  · clear hm139
    simp [hx138, hc23, hc54, hc99, hc144]
    apply ga142
    refine AWp.sr [] fun K147 hk148 => ?_
    obtain ⟨x149, hx150, hm151⟩ := bind1_some hm145
    clear hm145
    try dsimp only at hm151
    obtain ⟨x152, hx153, hm154⟩ := bind1_some hm151
    clear hm151
    try dsimp only at hm154
    simp [hx138, hx150, hc23, hc54, hc99, hc144]
    refine CallAt.fn (r_ref02_Count T hx153) ?_
    simp [hx138, hx150, hc23, hc54, hc99, hc144]
    apply hk148
    refine AWp.ret ?_
    apply nr16
    obtain rfl := Option.some.inj hm154
    simp [retQ, hx138, hx150, hc23, hc54, hc99, hc144]
  clear hm139
  simp [hx138, hc23, hc54, hc99, hc144]
  apply gb143
  refine AWp.skip ?_
  apply hk134
  refine AWp.seqK fun K155 hk156 => ?_
  refine AWp.regionD [] false mixed (by decide +kernel) (by decide +kernel) ?_
  obtain ⟨x157, hx158, hm159⟩ := bind1_some hm146
  clear hm146
  try dsimp only at hm159
  obtain ⟨x160, hx161, hm162⟩ := bind1_some hm159
  clear hm159
  try dsimp only at hm162
  simp [hx138, hx158, hx161, hc23, hc54, hc99, hc144]
  apply hk156
  refine AWp.seqK fun K163 hk164 => ?_
  refine AWp.regionD [] false mixed (by decide +kernel) (by decide +kernel) ?_
  obtain ⟨x165, hx166, hm167⟩ := bind1_some hm162
  clear hm162
  try dsimp only at hm167
  obtain ⟨x168, hx169, hm170⟩ := bind1_some hm167
  clear hm167
  try dsimp only at hm170
  simp [hx138, hx158, hx161, hx166, hc23, hc54, hc99, hc144]
  refine CallAtD.fn (r_ref02_Count T hx169) (by simp) ?_
  obtain ⟨x171, hx172, hm173⟩ := bind1_some hm170
  clear hm170
  try dsimp only at hm173
  simp [hx138, hx158, hx161, hx166, hc23, hc54, hc99, hc144]
  refine CallAtD.fn (r_ref02_Count T hx172) (by simp) ?_
  obtain ⟨x174, hx175, hm176⟩ := bind1_some hm173
  clear hm173
  try dsimp only at hm176
  simp [hx138, hx158, hx161, hx166, hc23, hc54, hc99, hc144]
  refine CallAtD.fn (r_ref02_Count T hx175) (by simp) ?_
  obtain ⟨x177, hx178, hm179⟩ := bind1_some hm176
  clear hm176
  try dsimp only at hm179
  simp [hx138, hx158, hx161, hx166, hc23, hc54, hc99, hc144]
  refine CallAtD.fn (r_ref02_Count T hx178) (by simp) ?_
  simp [hx138, hx158, hx161, hx166, hc23, hc54, hc99, hc144]
  apply hk164
  refine AWp.ret ?_
  apply nr16
  obtain rfl := Option.some.inj hm179
  simp [retQ, hx138, hx158, hx161, hx166, hc23, hc54, hc99, hc144]

theorem enters109 : entersB Tryd.prog 109 = true := by kernel_rfl

theorem rg_ref03_Up (T : Tabs) : ∀ (n : Nat), (∀ {H : Heap} {a0 : Tm} {a1 : Int} {a2 : Int} {r0 : Tm} (hm : ref03_Up n a0 a1 a2 = some r0), ACall Tryd.prog T 109 [Tm.av a0, AV.sc (.int .i64 a1), AV.sc (.int .i64 a2)] H (Tm.av r0) H) := by
  intro n
  induction n with
  | zero =>
    skip
    all_goals
      intros
      rename_i hm
      cases hm
  | succ n ih =>
    intro H a0 a1 a2 r0 hm
    rw [ref03_Up] at hm
    refine ACallP.intro (fn := Tryd.f109) Tryd.func109 rfl enters109 (Nat.le_of_ble_eq_true rfl) ?_
    refine AWp.sr [] fun K1 hk2 => ?_
    simp
    apply hk2
    refine AWp.sr [] fun K3 hk4 => ?_
    simp
    apply hk4
    refine AWp.seqP (fun fr h => ∃ (g3_16 : Nat) (g6_16 : Nat) (g7_16 : Nat), H = h ∧ (fr.env 1 = AV.sc (.int .i64 a1) ∧ fr.env 2 = AV.sc (.int .i64 a2) ∧ fr.env 3 = AV.lptr 3 g3_16 0 ∧ fr.env 6 = AV.lptr 6 g6_16 0 ∧ fr.env 7 = AV.lptr 7 g7_16 0 ∧ fr.gen 3 = g3_16 ∧ fr.box 3 = some [AV.sc (.int .i64 a0.kind), AV.sc (.int .i64 a0.index), AV.sc (.int .i64 a0.typeF.kind), AV.slice .frz (List.map Ty.av a0.typeF.args), AV.slice .frz (List.map Tm.av a0.args)] ∧ fr.gen 6 = g6_16 ∧ fr.box 6 = some [AV.sc (.int .i64 0), AV.sc (.int .i64 0), AV.sc (.int .i64 0), AV.slice .full [], AV.slice .full []] ∧ fr.gen 7 = g7_16 ∧ fr.box 7 = some [AV.sc (.int .i64 a0.kind), AV.sc (.int .i64 (sel (sel (ieq a0.kind 1) (ige a0.index a1) false) (iadd .i64 a0.index a2) a0.index)), AV.sc (.int .i64 a0.typeF.kind), AV.slice .frz (List.map Ty.av a0.typeF.args), AV.slice .full []])) (fun K5 hk6 => ?_) ?_
    · refine AWp.seqP (fun fr h => ∃ (g3_10 : Nat) (g6_10 : Nat) (g7_10 : Nat), H = h ∧ (fr.env 1 = AV.sc (.int .i64 a1) ∧ fr.env 2 = AV.sc (.int .i64 a2) ∧ fr.env 3 = AV.lptr 3 g3_10 0 ∧ fr.env 6 = AV.lptr 6 g6_10 0 ∧ fr.env 7 = AV.lptr 7 g7_10 0 ∧ fr.env 25 = AV.sc (.bool (sel (ieq a0.kind 1) (ige a0.index a1) false)) ∧ fr.gen 3 = g3_10 ∧ fr.box 3 = some [AV.sc (.int .i64 a0.kind), AV.sc (.int .i64 a0.index), AV.sc (.int .i64 a0.typeF.kind), AV.slice .frz (List.map Ty.av a0.typeF.args), AV.slice .frz (List.map Tm.av a0.args)] ∧ fr.gen 6 = g6_10 ∧ fr.box 6 = some [AV.sc (.int .i64 0), AV.sc (.int .i64 0), AV.sc (.int .i64 0), AV.slice .full [], AV.slice .full []] ∧ fr.gen 7 = g7_10 ∧ fr.box 7 = some [AV.sc (.int .i64 a0.kind), AV.sc (.int .i64 a0.index), AV.sc (.int .i64 a0.typeF.kind), AV.slice .frz (List.map Ty.av a0.typeF.args), AV.slice .full []])) (fun K7 hk8 => ?_) ?_
      · refine AWp.region [] (by decide +kernel) ?_
        rcases Bool.eq_false_or_eq_true (ieq a0.kind 1) with hc9 | hc9
        · simp [hc9]
          refine hk8 _ _ ⟨1, 1, 1, ?_, ⟨?_, ?_, ?_, ?_, ?_, ?_, ?_, ?_, ?_, ?_, ?_, ?_⟩⟩ <;> first | rfl | simp [hc9]
        simp [hc9]
        refine hk8 _ _ ⟨1, 1, 1, ?_, ⟨?_, ?_, ?_, ?_, ?_, ?_, ?_, ?_, ?_, ?_, ?_, ?_⟩⟩ <;> first | rfl | simp [hc9]
      rintro fr10 h10 ⟨g3_10, g6_10, g7_10, rfl, E10⟩
      refine AWp.condK fun A11 B12 ga13 gb14 => ?_
      rcases Bool.eq_false_or_eq_true (sel (ieq a0.kind 1) (ige a0.index a1) false) with hc15 | hc15
      rotate_left
      · simp [E10, hc15]
        apply gb14
        refine AWp.skip ?_
        refine hk6 _ _ ⟨g3_10, g6_10, g7_10, ?_, ⟨?_, ?_, ?_, ?_, ?_, ?_, ?_, ?_, ?_, ?_, ?_⟩⟩ <;> first | rfl | simp [E10, hc15]
      simp [E10, hc15]
      apply ga13
      refine AWp.region [] (by decide +kernel) ?_
      simp [E10, hc15]
      refine hk6 _ _ ⟨g3_10, g6_10, g7_10, ?_, ⟨?_, ?_, ?_, ?_, ?_, ?_, ?_, ?_, ?_, ?_, ?_⟩⟩ <;> first | rfl | simp [E10, hc15]
    rintro fr16 h16 ⟨g3_16, g6_16, g7_16, rfl, E16⟩
    refine AWp.seqK fun K17 hk18 => ?_
    refine AWp.sr [] fun K19 hk20 => ?_
    simp [E16]
    apply hk20
    obtain ⟨hok21, hm22⟩ := chk_some hm
    clear hm
    obtain ⟨F23, hF24, hm25⟩ := joinB_some hm22
    clear hm22
    try dsimp only at hm25
    obtain ⟨out26, hl27, hmB28⟩ := bind1_some hm25
    clear hm25
    refine AWp.blockK fun Q29 nn30 ne31 nx32 nr33 => ?_
    refine AWp.loopF (fun n34 fr h => ∃ (i35 : Nat) (j36 : Int) (v37 : (List Tm)) (tg0_38 : Tag) (g3_38 : Nat) (g6_38 : Nat) (g7_38 : Nat), H = h ∧ (fr.env 1 = AV.sc (.int .i64 a1) ∧ fr.env 2 = AV.sc (.int .i64 a2) ∧ fr.env 3 = AV.lptr 3 g3_38 0 ∧ fr.env 6 = AV.lptr 6 g6_38 0 ∧ fr.env 7 = AV.lptr 7 g7_38 0 ∧ fr.env 32 = AV.slice .frz (List.map Tm.av a0.args) ∧ fr.env 33 = AV.sc (.int .i64 (llen a0.args)) ∧ fr.env 34 = AV.sc (.int .i64 j36) ∧ fr.gen 3 = g3_38 ∧ fr.box 3 = some [AV.sc (.int .i64 a0.kind), AV.sc (.int .i64 a0.index), AV.sc (.int .i64 a0.typeF.kind), AV.slice .frz (List.map Ty.av a0.typeF.args), AV.slice .frz (List.map Tm.av a0.args)] ∧ fr.gen 6 = g6_38 ∧ fr.box 6 = some [AV.sc (.int .i64 0), AV.sc (.int .i64 0), AV.sc (.int .i64 0), AV.slice .full [], AV.slice .full []] ∧ fr.gen 7 = g7_38 ∧ fr.box 7 = some [AV.sc (.int .i64 a0.kind), AV.sc (.int .i64 (sel (sel (ieq a0.kind 1) (ige a0.index a1) false) (iadd .i64 a0.index a2) a0.index)), AV.sc (.int .i64 a0.typeF.kind), AV.slice .frz (List.map Ty.av a0.typeF.args), AV.slice tg0_38 (List.map Tm.av v37)]) ∧ OwnT fr.tab fr.tgen [48] tg0_38 (List.length v37) ∧ j36 = (i35 : Int) ∧ i35 + n34 = List.length a0.args ∧ forR F23 (List.drop i35 a0.args) i35 v37 = some out26) (List.length a0.args) ?_ ?_
    · refine ⟨0, 0, [], .full, g3_16, g6_16, g7_16, ?_, ⟨?_, ?_, ?_, ?_, ?_, ?_, ?_, ?_, ?_, ?_, ?_, ?_, ?_, ?_⟩, OwnT.full, rfl, (by simp), hl27⟩ <;> first | rfl | simp [E16]
    rintro n34 fr38 h38 ⟨i35, j36, v37, tg0_38, g3_38, g6_38, g7_38, rfl, E38, o0_38, hj39, hi40, hl27⟩ K41 hK42
    rcases n34 with _ | n34
    · have hlt43 := ilt_notJ (l := a0.args) hj39 (by omega)
      refine AWp.sr [] fun K44 hk45 => ?_
      simp [E38, hlt43]
      apply hk45
      refine AWp.seqK fun K46 hk47 => ?_
      refine AWp.condK fun A48 B49 ga50 gb51 => ?_
      simp [E38, hlt43]
      apply gb51
      refine AWp.exit ?_
      apply ne31
      rw [List.drop_eq_nil_of_le (by omega), forR_nil] at hl27
      obtain rfl := Option.some.inj hl27
      rw [sumK_inl] at hmB28
      try dsimp only at hmB28
      apply hk18
      refine AWp.sr [] fun K52 hk53 => ?_
      simp [E38, hlt43]
      apply hk53
      refine AWp.ret ?_
      obtain rfl := Option.some.inj hmB28
      simp [retQ, E38, hlt43]
    have hlt43 := ilt_ofJ (l := a0.args) hj39 (by omega)
    obtain ⟨x54, hdn34, hg55⟩ := drop_ltJ (l := a0.args) hj39 (by omega)
    rw [hdn34, forR_cons] at hl27
    obtain ⟨c56, hb57, hk58⟩ := bind1_some hl27
    clear hl27
    rw [hF24, ← hj39] at hb57
    try dsimp only at hb57
    refine AWp.sr [] fun K59 hk60 => ?_
    simp [E38, hlt43, hg55]
    apply hk60
    refine AWp.seqK fun K61 hk62 => ?_
    refine AWp.condK fun A63 B64 ga65 gb66 => ?_
    simp [E38, hlt43, hg55]
    apply ga65
    refine AWp.skip ?_
    apply hk62
    refine AWp.seqK fun K67 hk68 => ?_
    refine AWp.blockK fun Q69 nn70 ne71 nx72 nr73 => ?_
    refine AWp.sr [] fun K74 hk75 => ?_
    simp [E38, hlt43, hg55]
    apply hk75
    refine AWp.regionD [] false mixed (by decide +kernel) (by decide +kernel) ?_
    obtain ⟨x76, hx77, hm78⟩ := bind1_some hb57
    clear hb57
    try dsimp only at hm78
    simp [E38, hlt43, hg55]
    refine CallAtD.fn (r_ref03_below T hx77) (by simp) ?_
    obtain ⟨x79, hx80, hm81⟩ := bind1_some hm78
    clear hm78
    try dsimp only at hm81
    simp [E38, hlt43, hg55]
    refine CallAtD.fn (ih hx80) (by simp) ?_
    obtain ⟨ha82, hm83⟩ := chk_some hm81
    clear hm81
    simp [E38, hlt43, hg55]
    refine AppAt.own (f := Tm.av) v37 [x79] o0_38 ap32 (by intro x; simp) ha82 (by first | rfl | simp) (by first | rfl | simp) ?_
    simp [E38, hlt43, hg55]
    apply nn70
    apply hk68
    refine AWp.region [] (by decide +kernel) ?_
    simp [E38, hlt43, hg55]
    obtain rfl := Option.some.inj hm83
    rw [ctlK_next] at hk58
    refine hK42 _ _ n34 (Nat.lt_succ_self _) ⟨(i35 + 1), (iadd .i64 j36 1), (lapp v37 [x79]), (.loc 48 (fr38.tgen 48 + 1)), g3_38, g6_38, g7_38, ?_, ⟨?_, ?_, ?_, ?_, ?_, ?_, ?_, ?_, ?_, ?_, ?_, ?_, ?_, ?_⟩, (OwnT.mono (D := [48]) (OwnT.new (D := [48]) (d := 48) (by decide)) (by decide)), (iadd_idxJ hj39 (by omega) hok21), (by omega), hk58⟩ <;> first | rfl | simp [E38, hlt43, hg55]
theorem r_ref03_Up (T : Tabs) {H : Heap} {a0 : Tm} {a1 : Int} {a2 : Int} {r0 : Tm} {n : Nat} (hm : ref03_Up n a0 a1 a2 = some r0) : ACall Tryd.prog T 109 [Tm.av a0, AV.sc (.int .i64 a1), AV.sc (.int .i64 a2)] H (Tm.av r0) H := (rg_ref03_Up T n) hm

theorem enters94 : entersB Tryd.prog 94 = true := by kernel_rfl

theorem rg_ref03_In (T : Tabs) : ∀ (n : Nat), (∀ {H : Heap} {a0 : Tm} {a1 : Int} {a2 : Int} {a3 : Tm} {r0 : Tm} (hm : ref03_In n a0 a1 a2 a3 = some r0), ACall Tryd.prog T 94 [Tm.av a0, AV.sc (.int .i64 a1), AV.sc (.int .i64 a2), Tm.av a3] H (Tm.av r0) H) := by
  intro n
  induction n with
  | zero =>
    skip
    all_goals
      intros
      rename_i hm
      cases hm
  | succ n ih =>
    intro H a0 a1 a2 a3 r0 hm
    rw [ref03_In] at hm
    refine ACallP.intro (fn := Tryd.f94) Tryd.func94 rfl enters94 (Nat.le_of_ble_eq_true rfl) ?_
    refine AWp.sr [] fun K1 hk2 => ?_
    simp
    apply hk2
    refine AWp.seqK fun K3 hk4 => ?_
    refine AWp.sr [] fun K5 hk6 => ?_
    simp
    apply hk6
    refine AWp.condK fun A7 B8 ga9 gb10 => ?_
    rcases ite_some hm with ⟨hc11, hm12⟩ | ⟨hc11, hm13⟩
    · clear hm
      simp [hc11]
      apply ga9
      refine AWp.seqK fun K14 hk15 => ?_
      refine AWp.sr [] fun K16 hk17 => ?_
      simp [hc11]
      apply hk17
      refine AWp.condK fun A18 B19 ga20 gb21 => ?_
      rcases ite_some hm12 with ⟨hc22, hm23⟩ | ⟨hc22, hm24⟩
      · clear hm12
        simp [hc11, hc22]
        apply ga20
        refine AWp.sr [] fun K25 hk26 => ?_
        obtain ⟨x27, hx28, hm29⟩ := bind1_some hm23
        clear hm23
        try dsimp only at hm29
        simp [hc11, hc22]
        refine CallAt.fn (r_ref03_Up T hx28) ?_
        simp [hc11, hc22]
        apply hk26
        refine AWp.ret ?_
        obtain rfl := Option.some.inj hm29
        simp [retQ, hc11, hc22]
      clear hm12
      simp [hc11, hc22]
      apply gb21
      refine AWp.skip ?_
      apply hk15
      refine AWp.seqK fun K30 hk31 => ?_
      refine AWp.sr [] fun K32 hk33 => ?_
      simp [hc11, hc22]
      apply hk33
      refine AWp.condK fun A34 B35 ga36 gb37 => ?_
      rcases ite_some hm24 with ⟨hc38, hm39⟩ | ⟨hc38, hm40⟩
      rotate_left
      · clear hm24
        simp [hc11, hc22, hc38]
        apply gb37
        refine AWp.skip ?_
        apply hk31
        refine AWp.sr [] fun K41 hk42 => ?_
        simp [hc11, hc22, hc38]
        apply hk42
        refine AWp.ret ?_
        obtain rfl := Option.some.inj hm40
        simp [retQ, hc11, hc22, hc38]
      clear hm24
      simp [hc11, hc22, hc38]
      apply ga36
      refine AWp.sr [] fun K43 hk44 => ?_
      obtain ⟨x45, hx46, hm47⟩ := bind1_some hm39
      clear hm39
      try dsimp only at hm47
      simp [hc11, hc22, hc38]
      refine CallAt.fn (r_ref02_Var T hx46) ?_
      simp [hc11, hc22, hc38]
      apply hk44
      refine AWp.ret ?_
      obtain rfl := Option.some.inj hm47
      simp [retQ, hc11, hc22, hc38]
    clear hm
    simp [hc11]
    apply gb10
    refine AWp.skip ?_
    apply hk4
    refine AWp.sr [] fun K48 hk49 => ?_
    simp [hc11]
    apply hk49
    refine AWp.seqK fun K50 hk51 => ?_
    refine AWp.sr [] fun K52 hk53 => ?_
    simp [hc11]
    apply hk53
    obtain ⟨hok54, hm55⟩ := chk_some hm13
    clear hm13
    obtain ⟨F56, hF57, hm58⟩ := joinB_some hm55
    clear hm55
    try dsimp only at hm58
    obtain ⟨out59, hl60, hmB61⟩ := bind1_some hm58
    clear hm58
    refine AWp.blockK fun Q62 nn63 ne64 nx65 nr66 => ?_
    refine AWp.loopF (fun n67 fr h => ∃ (i68 : Nat) (j69 : Int) (v70 : (List Tm)) (tg0_71 : Tag) (g4_71 : Nat) (g7_71 : Nat) (g8_71 : Nat) (g9_71 : Nat), H = h ∧ (fr.env 1 = AV.sc (.int .i64 a1) ∧ fr.env 2 = AV.sc (.int .i64 a2) ∧ fr.env 4 = AV.lptr 4 g4_71 0 ∧ fr.env 7 = AV.lptr 7 g7_71 0 ∧ fr.env 8 = AV.lptr 8 g8_71 0 ∧ fr.env 9 = AV.lptr 9 g9_71 0 ∧ fr.env 45 = AV.slice .frz (List.map Tm.av a0.args) ∧ fr.env 46 = AV.sc (.int .i64 (llen a0.args)) ∧ fr.env 47 = AV.sc (.int .i64 j69) ∧ fr.gen 4 = g4_71 ∧ fr.box 4 = some [AV.sc (.int .i64 a0.kind), AV.sc (.int .i64 a0.index), AV.sc (.int .i64 a0.typeF.kind), AV.slice .frz (List.map Ty.av a0.typeF.args), AV.slice .frz (List.map Tm.av a0.args)] ∧ fr.gen 7 = g7_71 ∧ fr.box 7 = some [AV.sc (.int .i64 a3.kind), AV.sc (.int .i64 a3.index), AV.sc (.int .i64 a3.typeF.kind), AV.slice .frz (List.map Ty.av a3.typeF.args), AV.slice .frz (List.map Tm.av a3.args)] ∧ fr.gen 8 = g8_71 ∧ fr.box 8 = some [AV.sc (.int .i64 0), AV.sc (.int .i64 0), AV.sc (.int .i64 0), AV.slice .full [], AV.slice .full []] ∧ fr.gen 9 = g9_71 ∧ fr.box 9 = some [AV.sc (.int .i64 a0.kind), AV.sc (.int .i64 a0.index), AV.sc (.int .i64 a0.typeF.kind), AV.slice .frz (List.map Ty.av a0.typeF.args), AV.slice tg0_71 (List.map Tm.av v70)]) ∧ OwnT fr.tab fr.tgen [62] tg0_71 (List.length v70) ∧ j69 = (i68 : Int) ∧ i68 + n67 = List.length a0.args ∧ forR F56 (List.drop i68 a0.args) i68 v70 = some out59) (List.length a0.args) ?_ ?_
    · refine ⟨0, 0, [], .full, 1, 1, 1, 1, ?_, ⟨?_, ?_, ?_, ?_, ?_, ?_, ?_, ?_, ?_, ?_, ?_, ?_, ?_, ?_, ?_, ?_, ?_⟩, OwnT.full, rfl, (by simp), hl60⟩ <;> first | rfl | simp [hc11]
    rintro n67 fr71 h71 ⟨i68, j69, v70, tg0_71, g4_71, g7_71, g8_71, g9_71, rfl, E71, o0_71, hj72, hi73, hl60⟩ K74 hK75
    rcases n67 with _ | n67
    · have hlt76 := ilt_notJ (l := a0.args) hj72 (by omega)
      refine AWp.sr [] fun K77 hk78 => ?_
      simp [E71, hlt76, hc11]
      apply hk78
      refine AWp.seqK fun K79 hk80 => ?_
      refine AWp.condK fun A81 B82 ga83 gb84 => ?_
      simp [E71, hlt76, hc11]
      apply gb84
      refine AWp.exit ?_
      apply ne64
      rw [List.drop_eq_nil_of_le (by omega), forR_nil] at hl60
      obtain rfl := Option.some.inj hl60
      rw [sumK_inl] at hmB61
      try dsimp only at hmB61
      apply hk51
      refine AWp.sr [] fun K85 hk86 => ?_
      simp [E71, hlt76, hc11]
      apply hk86
      refine AWp.ret ?_
      obtain rfl := Option.some.inj hmB61
      simp [retQ, E71, hlt76, hc11]
    have hlt76 := ilt_ofJ (l := a0.args) hj72 (by omega)
    obtain ⟨x87, hdn67, hg88⟩ := drop_ltJ (l := a0.args) hj72 (by omega)
    rw [hdn67, forR_cons] at hl60
    obtain ⟨c89, hb90, hk91⟩ := bind1_some hl60
    clear hl60
    rw [hF57, ← hj72] at hb90
    try dsimp only at hb90
    refine AWp.sr [] fun K92 hk93 => ?_
    simp [E71, hlt76, hg88, hc11]
    apply hk93
    refine AWp.seqK fun K94 hk95 => ?_
    refine AWp.condK fun A96 B97 ga98 gb99 => ?_
    simp [E71, hlt76, hg88, hc11]
    apply ga98
    refine AWp.skip ?_
    apply hk95
    refine AWp.seqK fun K100 hk101 => ?_
    refine AWp.blockK fun Q102 nn103 ne104 nx105 nr106 => ?_
    refine AWp.sr [] fun K107 hk108 => ?_
    simp [E71, hlt76, hg88, hc11]
    apply hk108
    refine AWp.regionD [] false mixed (by decide +kernel) (by decide +kernel) ?_
    obtain ⟨x109, hx110, hm111⟩ := bind1_some hb90
    clear hb90
    try dsimp only at hm111
    simp [E71, hlt76, hg88, hc11]
    refine CallAtD.fn (r_ref03_below T hx110) (by simp) ?_
    obtain ⟨x112, hx113, hm114⟩ := bind1_some hm111
    clear hm111
    try dsimp only at hm114
    simp [E71, hlt76, hg88, hc11]
    refine CallAtD.fn (ih hx113) (by simp) ?_
    obtain ⟨ha115, hm116⟩ := chk_some hm114
    clear hm114
    simp [E71, hlt76, hg88, hc11]
    refine AppAt.own (f := Tm.av) v70 [x112] o0_71 ap32 (by intro x; simp) ha115 (by first | rfl | simp) (by first | rfl | simp) ?_
    simp [E71, hlt76, hg88, hc11]
    apply nn103
    apply hk101
    refine AWp.region [] (by decide +kernel) ?_
    simp [E71, hlt76, hg88, hc11]
    obtain rfl := Option.some.inj hm116
    rw [ctlK_next] at hk91
    refine hK75 _ _ n67 (Nat.lt_succ_self _) ⟨(i68 + 1), (iadd .i64 j69 1), (lapp v70 [x112]), (.loc 62 (fr71.tgen 62 + 1)), g4_71, g7_71, g8_71, g9_71, ?_, ⟨?_, ?_, ?_, ?_, ?_, ?_, ?_, ?_, ?_, ?_, ?_, ?_, ?_, ?_, ?_, ?_, ?_⟩, (OwnT.mono (D := [62]) (OwnT.new (D := [62]) (d := 62) (by decide)) (by decide)), (iadd_idxJ hj72 (by omega) hok54), (by omega), hk91⟩ <;> first | rfl | simp [E71, hlt76, hg88, hc11]
theorem r_ref03_In (T : Tabs) {H : Heap} {a0 : Tm} {a1 : Int} {a2 : Int} {a3 : Tm} {r0 : Tm} {n : Nat} (hm : ref03_In n a0 a1 a2 a3 = some r0) : ACall Tryd.prog T 94 [Tm.av a0, AV.sc (.int .i64 a1), AV.sc (.int .i64 a2), Tm.av a3] H (Tm.av r0) H := (rg_ref03_In T n) hm

theorem enters71 : entersB Tryd.prog 71 = true := by kernel_rfl

theorem r_ref04_reduced (T : Tabs) {H : Heap} {a0 : Tm} {r0 : Tm} (hm : ref04_reduced a0 = some r0) : ACall Tryd.prog T 71 [Tm.av a0] H (Tm.av r0) H := by
  rw [ref04_reduced] at hm
  refine ACallP.intro (fn := Tryd.f71) Tryd.func71 rfl enters71 (Nat.le_of_ble_eq_true rfl) ?_
  refine AWp.sr [] fun K1 hk2 => ?_
  simp
  apply hk2
  refine AWp.seqK fun K3 hk4 => ?_
  refine AWp.sr [] fun K5 hk6 => ?_
  simp
  apply hk6
  refine AWp.blockK fun Q7 nn8 ne9 nx10 nr11 => ?_
  refine AWp.sr [] fun K12 hk13 => ?_
  simp
  apply hk13
  refine AWp.condK fun A14 B15 ga16 gb17 => ?_
  rcases ite_some hm with ⟨hc18, hm19⟩ | ⟨hc18, hm20⟩
  · clear hm
    simp [hc18]
    apply ga16
    refine AWp.seqK fun K21 hk22 => ?_
    refine AWp.regionD [] false mixed (by decide +kernel) (by decide +kernel) ?_
    obtain ⟨x23, hx24, hm25⟩ := bind1_some hm19
    clear hm19
    try dsimp only at hm25
    obtain ⟨x26, hx27, hm28⟩ := bind1_some hm25
    clear hm25
    try dsimp only at hm28
    obtain ⟨x29, hx30, hm31⟩ := bind1_some hm28
    clear hm28
    try dsimp only at hm31
    obtain ⟨x32, hx33, hm34⟩ := bind1_some hm31
    clear hm31
    try dsimp only at hm34
    simp [hx24, hx27, hx30, hc18]
    refine CallAtD.fn (r_ref03_In T hx33) (by simp) ?_
    simp [hx24, hx27, hx30, hc18]
    apply hk22
    refine AWp.ret ?_
    apply nr11
    obtain rfl := Option.some.inj hm34
    simp [retQ, hx24, hx27, hx30, hc18]
  clear hm
  simp [hc18]
  apply gb17
  refine AWp.sr [] fun K35 hk36 => ?_
  simp [hc18]
  apply hk36
  refine AWp.condK fun A37 B38 ga39 gb40 => ?_
  rcases ite_some hm20 with ⟨hc41, hm42⟩ | ⟨hc41, hm43⟩
  · clear hm20
    simp [hc18, hc41]
    apply ga39
    refine AWp.seqK fun K44 hk45 => ?_
    refine AWp.sr [] fun K46 hk47 => ?_
    obtain ⟨x48, hx49, hm50⟩ := bind1_some hm42
    clear hm42
    try dsimp only at hm50
    simp [hx49, hc18, hc41]
    apply hk47
    refine AWp.condK fun A51 B52 ga53 gb54 => ?_
    rcases ite_some hm50 with ⟨hc55, hm56⟩ | ⟨hc55, hm57⟩
    · clear hm50
      simp [hx49, hc18, hc41, hc55]
      apply ga53
      refine AWp.sr [] fun K58 hk59 => ?_
      obtain ⟨x60, hx61, hm62⟩ := bind1_some hm56
      clear hm56
      try dsimp only at hm62
      simp [hx49, hx61, hc18, hc41, hc55]
      apply hk59
      refine AWp.ret ?_
      apply nr11
      obtain rfl := Option.some.inj hm62
      simp [retQ, hx49, hx61, hc18, hc41, hc55]
    clear hm50
    simp [hx49, hc18, hc41, hc55]
    apply gb54
    refine AWp.skip ?_
    apply hk45
    refine AWp.sr [] fun K63 hk64 => ?_
    obtain ⟨x65, hx66, hm67⟩ := bind1_some hm57
    clear hm57
    try dsimp only at hm67
    simp [hx49, hx66, hc18, hc41, hc55]
    apply hk64
    refine AWp.seqK fun K68 hk69 => ?_
    refine AWp.regionD [] false mixed (by decide +kernel) (by decide +kernel) ?_
    obtain ⟨x70, hx71, hm72⟩ := bind1_some hm67
    clear hm67
    try dsimp only at hm72
    obtain ⟨x73, hx74, hm75⟩ := bind1_some hm72
    clear hm72
    try dsimp only at hm75
    simp [hx49, hx66, hx71, hc18, hc41, hc55]
    refine CallAtD.fn (r_ref02_N T hx74) (by simp) ?_
    obtain ⟨x76, hx77, hm78⟩ := bind1_some hm75
    clear hm75
    try dsimp only at hm78
    obtain ⟨x79, hx80, hm81⟩ := bind1_some hm78
    clear hm78
    try dsimp only at hm81
    simp [hx49, hx66, hx71, hx77, hc18, hc41, hc55]
    refine CallAtD.fn (r_ref02_T T hx80) (by simp) ?_
    obtain ⟨x82, hx83, hm84⟩ := bind1_some hm81
    clear hm81
    try dsimp only at hm84
    simp [hx49, hx66, hx71, hx77, hc18, hc41, hc55]
    refine CallAtD.fn (r_ref02_N T hx83) (by simp) ?_
    simp [hx49, hx66, hx71, hx77, hc18, hc41, hc55]
    apply hk69
    refine AWp.ret ?_
    apply nr11
    obtain rfl := Option.some.inj hm84
    simp [retQ, hx49, hx66, hx71, hx77, hc18, hc41, hc55]
  clear hm20
  simp [hc18, hc41]
  apply gb40
  refine AWp.sr [] fun K85 hk86 => ?_
  simp [hc18, hc41]
  apply hk86
  refine AWp.condK fun A87 B88 ga89 gb90 => ?_
  rcases ite_some hm43 with ⟨hc91, hm92⟩ | ⟨hc91, hm93⟩
  rotate_left
  · clear hm43
    simp [hc18, hc41, hc91]
    apply gb90
    refine AWp.sr [] fun K94 hk95 => ?_
    simp [hc18, hc41, hc91]
    apply hk95
    refine AWp.condK fun A96 B97 ga98 gb99 => ?_
    rcases ite_some hm93 with ⟨hc100, hm101⟩ | ⟨hc100, hm102⟩
    · clear hm93
      simp [hc18, hc41, hc91, hc100]
      apply ga98
      refine AWp.sr [] fun K103 hk104 => ?_
      obtain ⟨x105, hx106, hm107⟩ := bind1_some hm101
      clear hm101
      try dsimp only at hm107
      obtain ⟨x108, hx109, hm110⟩ := bind1_some hm107
      clear hm107
      try dsimp only at hm110
      simp [hx106, hx109, hc18, hc41, hc91, hc100]
      apply hk104
      refine AWp.ret ?_
      apply nr11
      obtain rfl := Option.some.inj hm110
      simp [retQ, hx106, hx109, hc18, hc41, hc91, hc100]
    clear hm93
    simp [hc18, hc41, hc91, hc100]
    apply gb99
    refine AWp.skip ?_
    apply nn8
    apply hk4
    refine AWp.sr [] fun K111 hk112 => ?_
    obtain ⟨x113, hx114, hm115⟩ := bind1_some hm102
    clear hm102
    try dsimp only at hm115
    obtain ⟨x116, hx117, hm118⟩ := bind1_some hm115
    clear hm115
    try dsimp only at hm118
    simp [hx114, hx117, hc18, hc41, hc91, hc100]
    apply hk112
    refine AWp.ret ?_
    obtain rfl := Option.some.inj hm118
    simp [retQ, hx114, hx117, hc18, hc41, hc91, hc100]
  clear hm43
  simp [hc18, hc41, hc91]
  apply ga89
  refine AWp.seqK fun K119 hk120 => ?_
  refine AWp.sr [] fun K121 hk122 => ?_
  obtain ⟨x123, hx124, hm125⟩ := bind1_some hm92
  clear hm92
  try dsimp only at hm125
  simp [hx124, hc18, hc41, hc91]
  apply hk122
  refine AWp.condK fun A126 B127 ga128 gb129 => ?_
  rcases ite_some hm125 with ⟨hc130, hm131⟩ | ⟨hc130, hm132⟩
  · clear hm125
    simp [hx124, hc18, hc41, hc91, hc130]
    apply ga128
    refine AWp.sr [] fun K133 hk134 => ?_
    obtain ⟨x135, hx136, hm137⟩ := bind1_some hm131
    clear hm131
    try dsimp only at hm137
    simp [hx124, hx136, hc18, hc41, hc91, hc130]
    apply hk134
    refine AWp.ret ?_
    apply nr11
    obtain rfl := Option.some.inj hm137
    simp [retQ, hx124, hx136, hc18, hc41, hc91, hc130]
  clear hm125
  simp [hx124, hc18, hc41, hc91, hc130]
  apply gb129
  refine AWp.skip ?_
  apply hk120
  refine AWp.seqK fun K138 hk139 => ?_
  refine AWp.regionD [] false mixed (by decide +kernel) (by decide +kernel) ?_
  obtain ⟨x140, hx141, hm142⟩ := bind1_some hm132
  clear hm132
  try dsimp only at hm142
  obtain ⟨x143, hx144, hm145⟩ := bind1_some hm142
  clear hm142
  try dsimp only at hm145
  simp [hx124, hx141, hx144, hc18, hc41, hc91, hc130]
  apply hk139
  refine AWp.seqK fun K146 hk147 => ?_
  refine AWp.regionD [] false mixed (by decide +kernel) (by decide +kernel) ?_
  obtain ⟨x148, hx149, hm150⟩ := bind1_some hm145
  clear hm145
  try dsimp only at hm150
  obtain ⟨x151, hx152, hm153⟩ := bind1_some hm150
  clear hm150
  try dsimp only at hm153
  simp [hx124, hx141, hx144, hx149, hc18, hc41, hc91, hc130]
  refine CallAtD.fn (r_ref02_N T hx152) (by simp) ?_
  obtain ⟨x154, hx155, hm156⟩ := bind1_some hm153
  clear hm153
  try dsimp only at hm156
  simp [hx124, hx141, hx144, hx149, hc18, hc41, hc91, hc130]
  refine CallAtD.fn (r_ref02_N T hx155) (by simp) ?_
  obtain ⟨x157, hx158, hm159⟩ := bind1_some hm156
  clear hm156
  try dsimp only at hm159
  obtain ⟨x160, hx161, hm162⟩ := bind1_some hm159
  clear hm159
  try dsimp only at hm162
  simp [hx124, hx141, hx144, hx149, hx158, hc18, hc41, hc91, hc130]
  refine CallAtD.fn (r_ref02_T T hx161) (by simp) ?_
  obtain ⟨x163, hx164, hm165⟩ := bind1_some hm162
  clear hm162
  try dsimp only at hm165
  simp [hx124, hx141, hx144, hx149, hx158, hc18, hc41, hc91, hc130]
  refine CallAtD.fn (r_ref02_N T hx164) (by simp) ?_
  simp [hx124, hx141, hx144, hx149, hx158, hc18, hc41, hc91, hc130]
  apply hk147
  refine AWp.ret ?_
  apply nr11
  obtain rfl := Option.some.inj hm165
  simp [retQ, hx124, hx141, hx144, hx149, hx158, hc18, hc41, hc91, hc130]

theorem enters31 : entersB Tryd.prog 31 = true := by kernel_rfl

theorem r_ref04_Contract (T : Tabs) {H : Heap} {a0 : Tm} {r0 : Tm} {r1 : Int} (hm : ref04_Contract a0 = some (r0, r1)) : ACall Tryd.prog T 31 [Tm.av a0] H (AV.tuple [Tm.av r0, AV.sc (.int .i64 r1)]) H := by
  rw [ref04_Contract] at hm
  refine ACallP.intro (fn := Tryd.f31) Tryd.func31 rfl enters31 (Nat.le_of_ble_eq_true rfl) ?_
  refine AWp.sr [] fun K1 hk2 => ?_
  simp
  apply hk2
  refine AWp.seqK fun K3 hk4 => ?_
  refine AWp.sr [] fun K5 hk6 => ?_
  obtain ⟨x7, hx8, hm9⟩ := bind1_some hm
  clear hm
  try dsimp only at hm9
  simp
  refine CallAt.fn (r_ref02_Check T hx8) ?_
  simp
  apply hk6
  refine AWp.sr [] fun K10 hk11 => ?_
  simp
  apply hk11
  refine AWp.condK fun A12 B13 ga14 gb15 => ?_
  rcases ite_some hm9 with ⟨hc16, hm17⟩ | ⟨hc16, hm18⟩
  · clear hm9
    simp [hc16]
    apply ga14
    refine AWp.sr [] fun K19 hk20 => ?_
    simp [hc16]
    apply hk20
    refine AWp.ret ?_
    simp only [Option.some.injEq, Prod.mk.injEq] at hm17
    obtain ⟨rfl, rfl⟩ := hm17
    simp [retQ, hc16]
  clear hm9
  simp [hc16]
  apply gb15
  refine AWp.skip ?_
  apply hk4
  refine AWp.seqK fun K21 hk22 => ?_
  refine AWp.sr [] fun K23 hk24 => ?_
  obtain ⟨x25, hx26, hm27⟩ := bind1_some hm18
  clear hm18
  try dsimp only at hm27
  simp [hc16]
  refine CallAt.fn (r_ref04_Root T hx26) ?_
  simp [hc16]
  apply hk24
  refine AWp.condK fun A28 B29 ga30 gb31 => ?_
  rcases ite_some hm27 with ⟨hc32, hm33⟩ | ⟨hc32, hm34⟩
  rotate_left
  · clear hm27
    simp [hc16, hc32]
    apply ga30
    refine AWp.sr [] fun K35 hk36 => ?_
    simp [hc16, hc32]
    apply hk36
    refine AWp.ret ?_
    simp only [Option.some.injEq, Prod.mk.injEq] at hm34
    obtain ⟨rfl, rfl⟩ := hm34
    simp [retQ, hc16, hc32]
  clear hm27
  simp [hc16, hc32]
  apply gb31
  refine AWp.skip ?_
  apply hk22
  refine AWp.seqK fun K37 hk38 => ?_
  refine AWp.sr [] fun K39 hk40 => ?_
  obtain ⟨x41, hx42, hm43⟩ := bind1_some hm33
  clear hm33
  try dsimp only at hm43
  simp [hc16, hc32]
  refine CallAt.fn (r_ref03_Least T hx42) ?_
  simp [hc16, hc32]
  apply hk40
  refine AWp.condK fun A44 B45 ga46 gb47 => ?_
  rcases ite_some hm43 with ⟨hc48, hm49⟩ | ⟨hc48, hm50⟩
  rotate_left
  · clear hm43
    simp [hc16, hc32, hc48]
    apply ga46
    refine AWp.sr [] fun K51 hk52 => ?_
    simp [hc16, hc32, hc48]
    apply hk52
    refine AWp.ret ?_
    simp only [Option.some.injEq, Prod.mk.injEq] at hm50
    obtain ⟨rfl, rfl⟩ := hm50
    simp [retQ, hc16, hc32, hc48]
  clear hm43
  simp [hc16, hc32, hc48]
  apply gb47
  refine AWp.skip ?_
  apply hk38
  refine AWp.seqK fun K53 hk54 => ?_
  refine AWp.seqK fun K55 hk56 => ?_
  refine AWp.regionD [] false mixed (by decide +kernel) (by decide +kernel) ?_
  obtain ⟨x57, hx58, hm59⟩ := bind1_some hm49
  clear hm49
  try dsimp only at hm59
  simp [hc16, hc32, hc48]
  refine CallAtD.fn (r_ref02_Count T hx58) (by simp) ?_
  obtain ⟨x60, hx61, hm62⟩ := bind1_some hm59
  clear hm59
  try dsimp only at hm62
  simp [hc16, hc32, hc48]
  refine CallAtD.fn (r_ref04_growth T hx61) (by simp) ?_
  simp [hc16, hc32, hc48]
  apply hk56
  refine AWp.condK fun A63 B64 ga65 gb66 => ?_
  rcases ite_some hm62 with ⟨hc67, hm68⟩ | ⟨hc67, hm69⟩
  · clear hm62
    simp [hc16, hc32, hc48, hc67]
    apply ga65
    refine AWp.sr [] fun K70 hk71 => ?_
    simp [hc16, hc32, hc48, hc67]
    apply hk71
    refine AWp.ret ?_
    simp only [Option.some.injEq, Prod.mk.injEq] at hm68
    obtain ⟨rfl, rfl⟩ := hm68
    simp [retQ, hc16, hc32, hc48, hc67]
  clear hm62
  simp [hc16, hc32, hc48, hc67]
  apply gb66
  refine AWp.skip ?_
  apply hk54
  refine AWp.sr [] fun K72 hk73 => ?_
  obtain ⟨x74, hx75, hm76⟩ := bind1_some hm69
  clear hm69
  try dsimp only at hm76
  simp [hc16, hc32, hc48, hc67]
  refine CallAt.fn (r_ref04_reduced T hx75) ?_
  obtain ⟨x77, hx78, hm79⟩ := bind1_some hm76
  clear hm76
  try dsimp only at hm79
  simp [hc16, hc32, hc48, hc67]
  refine CallAt.fn (r_ref02_Copy T hx78) ?_
  simp [hc16, hc32, hc48, hc67]
  apply hk73
  refine AWp.ret ?_
  simp only [Option.some.injEq, Prod.mk.injEq] at hm79
  obtain ⟨rfl, rfl⟩ := hm79
  simp [retQ, hc16, hc32, hc48, hc67]

theorem enters72 : entersB Tryd.prog 72 = true := by kernel_rfl

theorem rg_ref04_next (T : Tabs) : ∀ (n : Nat), (∀ {H : Heap} {a0 : Tm} {a1 : Int} {r0 : Tm} {r1 : Bool} {r2 : Bool} (hm : ref04_next n a0 a1 = some (r0, r1, r2)), ACall Tryd.prog T 72 [Tm.av a0, AV.sc (.int .i64 a1)] H (AV.tuple [Tm.av r0, AV.sc (.bool r1), AV.sc (.bool r2)]) H) := by
  intro n
  induction n with
  | zero =>
    skip
    all_goals
      intros
      rename_i hm
      cases hm
  | succ n ih =>
    intro H a0 a1 r0 r1 r2 hm
    rw [ref04_next] at hm
    refine ACallP.intro (fn := Tryd.f72) Tryd.func72 rfl enters72 (Nat.le_of_ble_eq_true rfl) ?_
    refine AWp.sr [] fun K1 hk2 => ?_
    simp
    apply hk2
    refine AWp.seqK fun K3 hk4 => ?_
    refine AWp.sr [] fun K5 hk6 => ?_
    obtain ⟨x7, hx8, hm9⟩ := bind1_some hm
    clear hm
    try dsimp only at hm9
    simp
    refine CallAt.fn (r_ref04_Root T hx8) ?_
    simp
    apply hk6
    refine AWp.condK fun A10 B11 ga12 gb13 => ?_
    rcases ite_some hm9 with ⟨hc14, hm15⟩ | ⟨hc14, hm16⟩
    · clear hm9
      simp [hc14]
      apply ga12
      refine AWp.seqK fun K17 hk18 => ?_
      refine AWp.sr [] fun K19 hk20 => ?_
      obtain ⟨x21, hx22, hm23⟩ := bind1_some hm15
      clear hm15
      try dsimp only at hm23
      simp [hc14]
      refine CallAt.fn (r_ref04_growth T hx22) ?_
      simp [hc14]
      apply hk20
      refine AWp.condK fun A24 B25 ga26 gb27 => ?_
      rcases ite_some hm23 with ⟨hc28, hm29⟩ | ⟨hc28, hm30⟩
      · clear hm23
        simp [hc14, hc28]
        apply ga26
        refine AWp.sr [] fun K31 hk32 => ?_
        simp [hc14, hc28]
        apply hk32
        refine AWp.ret ?_
        simp only [Option.some.injEq, Prod.mk.injEq] at hm29
        obtain ⟨rfl, rfl, rfl⟩ := hm29
        simp [retQ, hc14, hc28]
      clear hm23
      simp [hc14, hc28]
      apply gb27
      refine AWp.skip ?_
      apply hk18
      refine AWp.sr [] fun K33 hk34 => ?_
      obtain ⟨x35, hx36, hm37⟩ := bind1_some hm30
      clear hm30
      try dsimp only at hm37
      simp [hc14, hc28]
      refine CallAt.fn (r_ref04_reduced T hx36) ?_
      simp [hc14, hc28]
      apply hk34
      refine AWp.ret ?_
      simp only [Option.some.injEq, Prod.mk.injEq] at hm37
      obtain ⟨rfl, rfl, rfl⟩ := hm37
      simp [retQ, hc14, hc28]
    clear hm9
    simp [hc14]
    apply gb13
    refine AWp.skip ?_
    apply hk4
    refine AWp.seqK fun K38 hk39 => ?_
    refine AWp.sr [] fun K40 hk41 => ?_
    simp [hc14]
    apply hk41
    obtain ⟨hok42, hm43⟩ := chk_some hm16
    clear hm16
    obtain ⟨F44, hF45, hm46⟩ := joinB_some hm43
    clear hm43
    try dsimp only at hm46
    obtain ⟨out47, hl48, hmB49⟩ := bind1_some hm46
    clear hm46
    refine AWp.blockK fun Q50 nn51 ne52 nx53 nr54 => ?_
    refine AWp.loopF (fun n55 fr h => ∃ (i56 : Nat) (j57 : Int) (g2_58 : Nat) (g4_58 : Nat), H = h ∧ (fr.env 1 = AV.sc (.int .i64 a1) ∧ fr.env 2 = AV.lptr 2 g2_58 0 ∧ fr.env 4 = AV.lptr 4 g4_58 0 ∧ fr.env 23 = AV.slice .frz (List.map Tm.av a0.args) ∧ fr.env 24 = AV.sc (.int .i64 (llen a0.args)) ∧ fr.env 25 = AV.sc (.int .i64 j57) ∧ fr.gen 2 = g2_58 ∧ fr.box 2 = some [AV.sc (.int .i64 a0.kind), AV.sc (.int .i64 a0.index), AV.sc (.int .i64 a0.typeF.kind), AV.slice .frz (List.map Ty.av a0.typeF.args), AV.slice .frz (List.map Tm.av a0.args)] ∧ fr.gen 4 = g4_58 ∧ fr.box 4 = some [AV.sc (.int .i64 0), AV.sc (.int .i64 0), AV.sc (.int .i64 0), AV.slice .full [], AV.slice .full []]) ∧ j57 = (i56 : Int) ∧ i56 + n55 = List.length a0.args ∧ forR F44 (List.drop i56 a0.args) i56 () = some out47) (List.length a0.args) ?_ ?_
    · refine ⟨0, 0, 1, 1, ?_, ⟨?_, ?_, ?_, ?_, ?_, ?_, ?_, ?_, ?_, ?_⟩, rfl, (by simp), hl48⟩ <;> first | rfl | simp [hc14]
    rintro n55 fr58 h58 ⟨i56, j57, g2_58, g4_58, rfl, E58, hj59, hi60, hl48⟩ K61 hK62
    rcases n55 with _ | n55
    · have hlt63 := ilt_notJ (l := a0.args) hj59 (by omega)
      refine AWp.sr [] fun K64 hk65 => ?_
      simp [E58, hlt63, hc14]
      apply hk65
      refine AWp.seqK fun K66 hk67 => ?_
      refine AWp.condK fun A68 B69 ga70 gb71 => ?_
      simp [E58, hlt63, hc14]
      apply gb71
      refine AWp.exit ?_
      apply ne52
      rw [List.drop_eq_nil_of_le (by omega), forR_nil] at hl48
      obtain rfl := Option.some.inj hl48
      rw [sumK_inl] at hmB49
      try dsimp only at hmB49
      apply hk39
      refine AWp.sr [] fun K72 hk73 => ?_
      simp [E58, hlt63, hc14]
      apply hk73
      refine AWp.ret ?_
      simp only [Option.some.injEq, Prod.mk.injEq] at hmB49
      obtain ⟨rfl, rfl, rfl⟩ := hmB49
      simp [retQ, E58, hlt63, hc14]
    have hlt63 := ilt_ofJ (l := a0.args) hj59 (by omega)
    obtain ⟨x74, hdn55, hg75⟩ := drop_ltJ (l := a0.args) hj59 (by omega)
    rw [hdn55, forR_cons] at hl48
    obtain ⟨c76, hb77, hk78⟩ := bind1_some hl48
    clear hl48
    rw [hF45, ← hj59] at hb77
    try dsimp only at hb77
    refine AWp.sr [] fun K79 hk80 => ?_
    simp [E58, hlt63, hg75, hc14]
    apply hk80
    refine AWp.seqK fun K81 hk82 => ?_
    refine AWp.condK fun A83 B84 ga85 gb86 => ?_
    simp [E58, hlt63, hg75, hc14]
    apply ga85
    refine AWp.skip ?_
    apply hk82
    refine AWp.seqK fun K87 hk88 => ?_
    refine AWp.blockK fun Q89 nn90 ne91 nx92 nr93 => ?_
    refine AWp.sr [] fun K94 hk95 => ?_
    simp [E58, hlt63, hg75, hc14]
    apply hk95
    refine AWp.sr [] fun K96 hk97 => ?_
    obtain ⟨x98, x99, x100, hx101, hm102⟩ := bind3_some hb77
    clear hb77
    try dsimp only at hm102
    simp [E58, hlt63, hg75, hc14]
    refine CallAt.fn (ih hx101) ?_
    simp [E58, hlt63, hg75, hc14]
    apply hk97
    refine AWp.seqK fun K103 hk104 => ?_
    refine AWp.sr [] fun K105 hk106 => ?_
    simp [E58, hlt63, hg75, hc14]
    apply hk106
    refine AWp.condK fun A107 B108 ga109 gb110 => ?_
    rcases ite_some hm102 with ⟨hc111, hm112⟩ | ⟨hc111, hm113⟩
    rotate_left
    · clear hm102
      simp [E58, hlt63, hg75, hc14, hc111]
      apply ga109
      refine AWp.exit ?_
      apply ne91
      apply hk88
      refine AWp.region [] (by decide +kernel) ?_
      simp [E58, hlt63, hg75, hc14, hc111]
      obtain rfl := Option.some.inj hm113
      rw [ctlK_next] at hk78
      refine hK62 _ _ n55 (Nat.lt_succ_self _) ⟨(i56 + 1), (iadd .i64 j57 1), g2_58, g4_58, ?_, ⟨?_, ?_, ?_, ?_, ?_, ?_, ?_, ?_, ?_, ?_⟩, (iadd_idxJ hj59 (by omega) hok42), (by omega), hk78⟩ <;> first | rfl | simp [E58, hlt63, hg75, hc14, hc111]
    clear hm102
    simp [E58, hlt63, hg75, hc14, hc111]
    apply gb110
    refine AWp.skip ?_
    apply hk104
    refine AWp.sr [] fun K114 hk115 => ?_
    simp [E58, hlt63, hg75, hc14, hc111]
    apply hk115
    refine AWp.sr [] fun K116 hk117 => ?_
    obtain ⟨ha118, hm119⟩ := chk_some hm112
    clear hm112
    simp [E58, hlt63, hg75, hc14, hc111]
    refine AppAt2.newL (f := Tm.av) a0.args ap32 ⟨_, zero34⟩ (by intro x; simp) ha118 (by first | rfl | simp) (by first | rfl | simp) fun cap120 hcap121 => ?_
    simp [E58, hlt63, hg75, hc14, hc111]
    apply hk117
    refine AWp.sr [] fun K122 hk123 => ?_
    obtain ⟨x124, hx125, hm126⟩ := bind1_some hm119
    clear hm119
    try dsimp only at hm126
    have hr127 := lget_range hx125
    simp [E58, hlt63, hg75, hx125, hr127, hc14, hc111]
    refine StoreE.arr (f := Tm.av) (L := a0.args) (k := ((cap120 - List.length a0.args) * 5)) x98 lay34 (by intro x; simp) (by simp [E58, hlt63, hg75, hx125, hr127, hc14, hc111]) (x := x124) (by assumption) (by simp [E58, hlt63, hg75, hx125, hr127, hc14, hc111]) (by simp [E58, hlt63, hg75, hx125, hr127, hc14, hc111]) (by simp [E58, hlt63, hg75, hx125, hr127, hc14, hc111]) ?_
    simp [E58, hlt63, hg75, hx125, hr127, hc14, hc111]
    apply hk123
    refine AWp.seqK fun K128 hk129 => ?_
    refine AWp.frzC 12 4 (cs2 := [AV.sc (.int .i64 a0.kind), AV.sc (.int .i64 a0.index), AV.sc (.int .i64 a0.typeF.kind), AV.slice .frz (List.map Ty.av a0.typeF.args), AV.lsl 42 (fr58.gen 42 + 1) (List.length (lset a0.args j57 x98)) cap120]) (f := Tm.av) (L := (lset a0.args j57 x98)) (k := ((cap120 - List.length a0.args) * 5)) (sz := 5) (d := 42) (g := (fr58.gen 42 + 1)) (cap := cap120) (by intro x; simp) (by intro x; simp) (by decide) (by simp [E58, hlt63, hg75, hx125, hr127, hc14, hc111]) (by simp [E58, hlt63, hg75, hx125, hr127, hc14, hc111]) (by simp [E58, hlt63, hg75, hx125, hr127, hc14, hc111]) (by simp [E58, hlt63, hg75, hx125, hr127, hc14, hc111]) ?_
    refine AWp.region [] (by decide +kernel) ?_
    simp [E58, hlt63, hg75, hx125, hr127, hc14, hc111]
    apply hk129
    refine AWp.ret ?_
    apply nr93
    apply nr54
    obtain rfl := Option.some.inj hm126
    rw [ctlK_ret] at hk78
    obtain rfl := Option.some.inj hk78
    rw [sumK_inr] at hmB49
    try dsimp only at hmB49
    simp only [Option.some.injEq, Prod.mk.injEq] at hmB49
    obtain ⟨rfl, rfl, rfl⟩ := hmB49
    simp [retQ, E58, hlt63, hg75, hx125, hr127, hc14, hc111]
theorem r_ref04_next (T : Tabs) {H : Heap} {a0 : Tm} {a1 : Int} {r0 : Tm} {r1 : Bool} {r2 : Bool} {n : Nat} (hm : ref04_next n a0 a1 = some (r0, r1, r2)) : ACall Tryd.prog T 72 [Tm.av a0, AV.sc (.int .i64 a1)] H (AV.tuple [Tm.av r0, AV.sc (.bool r1), AV.sc (.bool r2)]) H := (rg_ref04_next T n) hm

theorem enters32 : entersB Tryd.prog 32 = true := by kernel_rfl

theorem r_ref04_Step (T : Tabs) {H : Heap} {a0 : Tm} {r0 : Tm} {r1 : Bool} {r2 : Int} (hm : ref04_Step a0 = some (r0, r1, r2)) : ACall Tryd.prog T 32 [Tm.av a0] H (AV.tuple [Tm.av r0, AV.sc (.bool r1), AV.sc (.int .i64 r2)]) H := by
  rw [ref04_Step] at hm
  refine ACallP.intro (fn := Tryd.f32) Tryd.func32 rfl enters32 (Nat.le_of_ble_eq_true rfl) ?_
  refine AWp.sr [] fun K1 hk2 => ?_
  simp
  apply hk2
  refine AWp.seqK fun K3 hk4 => ?_
  refine AWp.sr [] fun K5 hk6 => ?_
  obtain ⟨x7, hx8, hm9⟩ := bind1_some hm
  clear hm
  try dsimp only at hm9
  simp
  refine CallAt.fn (r_ref02_Check T hx8) ?_
  simp
  apply hk6
  refine AWp.sr [] fun K10 hk11 => ?_
  simp
  apply hk11
  refine AWp.condK fun A12 B13 ga14 gb15 => ?_
  rcases ite_some hm9 with ⟨hc16, hm17⟩ | ⟨hc16, hm18⟩
  · clear hm9
    simp [hc16]
    apply ga14
    refine AWp.sr [] fun K19 hk20 => ?_
    simp [hc16]
    apply hk20
    refine AWp.ret ?_
    simp only [Option.some.injEq, Prod.mk.injEq] at hm17
    obtain ⟨rfl, rfl, rfl⟩ := hm17
    simp [retQ, hc16]
  clear hm9
  simp [hc16]
  apply gb15
  refine AWp.skip ?_
  apply hk4
  refine AWp.seqK fun K21 hk22 => ?_
  refine AWp.sr [] fun K23 hk24 => ?_
  obtain ⟨x25, hx26, hm27⟩ := bind1_some hm18
  clear hm18
  try dsimp only at hm27
  simp [hc16]
  refine CallAt.fn (r_ref03_Least T hx26) ?_
  simp [hc16]
  apply hk24
  refine AWp.condK fun A28 B29 ga30 gb31 => ?_
  rcases ite_some hm27 with ⟨hc32, hm33⟩ | ⟨hc32, hm34⟩
  rotate_left
  · clear hm27
    simp [hc16, hc32]
    apply ga30
    refine AWp.sr [] fun K35 hk36 => ?_
    simp [hc16, hc32]
    apply hk36
    refine AWp.ret ?_
    simp only [Option.some.injEq, Prod.mk.injEq] at hm34
    obtain ⟨rfl, rfl, rfl⟩ := hm34
    simp [retQ, hc16, hc32]
  clear hm27
  simp [hc16, hc32]
  apply gb31
  refine AWp.skip ?_
  apply hk22
  refine AWp.seqK fun K37 hk38 => ?_
  refine AWp.regionD [] false mixed (by decide +kernel) (by decide +kernel) ?_
  obtain ⟨x39, hx40, hm41⟩ := bind1_some hm33
  clear hm33
  try dsimp only at hm41
  simp [hc16, hc32]
  refine CallAtD.fn (r_ref02_Count T hx40) (by simp) ?_
  obtain ⟨x42, x43, x44, hx45, hm46⟩ := bind3_some hm41
  clear hm41
  try dsimp only at hm46
  simp [hc16, hc32]
  refine CallAtD.fn (r_ref04_next T hx45) (by simp) ?_
  simp [hc16, hc32]
  apply hk38
  refine AWp.seqK fun K47 hk48 => ?_
  refine AWp.sr [] fun K49 hk50 => ?_
  simp [hc16, hc32]
  apply hk50
  refine AWp.condK fun A51 B52 ga53 gb54 => ?_
  rcases ite_some hm46 with ⟨hc55, hm56⟩ | ⟨hc55, hm57⟩
  rotate_left
  · clear hm46
    simp [hc16, hc32, hc55]
    apply ga53
    refine AWp.sr [] fun K58 hk59 => ?_
    simp [hc16, hc32, hc55]
    apply hk59
    refine AWp.ret ?_
    simp only [Option.some.injEq, Prod.mk.injEq] at hm57
    obtain ⟨rfl, rfl, rfl⟩ := hm57
    simp [retQ, hc16, hc32, hc55]
  clear hm46
  simp [hc16, hc32, hc55]
  apply gb54
  refine AWp.skip ?_
  apply hk48
  refine AWp.sr [] fun K60 hk61 => ?_
  obtain ⟨x62, hx63, hm64⟩ := bind1_some hm56
  clear hm56
  try dsimp only at hm64
  simp [hc16, hc32, hc55]
  refine CallAt.fn (r_ref02_Copy T hx63) ?_
  simp [hc16, hc32, hc55]
  apply hk61
  refine AWp.ret ?_
  simp only [Option.some.injEq, Prod.mk.injEq] at hm64
  obtain ⟨rfl, rfl, rfl⟩ := hm64
  simp [retQ, hc16, hc32, hc55]

theorem enters34 : entersB Tryd.prog 34 = true := by kernel_rfl

theorem r_ref04_Normal (T : Tabs) {H : Heap} {a0 : Tm} {a1 : Int} {r0 : Tm} {r1 : Int} {r2 : Int} (hm : ref04_Normal a0 a1 = some (r0, r1, r2)) : ACall Tryd.prog T 34 [Tm.av a0, AV.sc (.int .i64 a1)] H (AV.tuple [Tm.av r0, AV.sc (.int .i64 r1), AV.sc (.int .i64 r2)]) H := by
  rw [ref04_Normal] at hm
  refine ACallP.intro (fn := Tryd.f34) Tryd.func34 rfl enters34 (Nat.le_of_ble_eq_true rfl) ?_
  refine AWp.sr [] fun K1 hk2 => ?_
  simp
  apply hk2
  refine AWp.seqK fun K3 hk4 => ?_
  refine AWp.sr [] fun K5 hk6 => ?_
  obtain ⟨x7, hx8, hm9⟩ := bind1_some hm
  clear hm
  try dsimp only at hm9
  simp
  refine CallAt.fn (r_ref02_Check T hx8) ?_
  simp
  apply hk6
  refine AWp.sr [] fun K10 hk11 => ?_
  simp
  apply hk11
  refine AWp.condK fun A12 B13 ga14 gb15 => ?_
  rcases ite_some hm9 with ⟨hc16, hm17⟩ | ⟨hc16, hm18⟩
  · clear hm9
    simp [hc16]
    apply ga14
    refine AWp.sr [] fun K19 hk20 => ?_
    simp [hc16]
    apply hk20
    refine AWp.ret ?_
    simp only [Option.some.injEq, Prod.mk.injEq] at hm17
    obtain ⟨rfl, rfl, rfl⟩ := hm17
    simp [retQ, hc16]
  clear hm9
  simp [hc16]
  apply gb15
  refine AWp.skip ?_
  apply hk4
  refine AWp.seqK fun K21 hk22 => ?_
  obtain ⟨j23, hj24, hm25⟩ := joinB_some hm18
  clear hm18
  refine AWp.seqP (fun fr h => ∃ (v26 : Bool) (g2_38 : Nat) (g4_38 : Nat), H = h ∧ (fr.env 1 = AV.sc (.int .i64 a1) ∧ fr.env 2 = AV.lptr 2 g2_38 0 ∧ fr.env 4 = AV.lptr 4 g4_38 0 ∧ fr.env 28 = AV.sc (.bool v26) ∧ fr.gen 2 = g2_38 ∧ fr.box 2 = some [AV.sc (.int .i64 a0.kind), AV.sc (.int .i64 a0.index), AV.sc (.int .i64 a0.typeF.kind), AV.slice .frz (List.map Ty.av a0.typeF.args), AV.slice .frz (List.map Tm.av a0.args)] ∧ fr.gen 4 = g4_38 ∧ fr.box 4 = some [AV.sc (.int .i64 0), AV.sc (.int .i64 0), AV.sc (.int .i64 0), AV.slice .full [], AV.slice .full []]) ∧ j23 v26 = some (r0, r1, r2)) (fun K27 hk28 => ?_) ?_
  · refine AWp.region [] (by decide +kernel) ?_
    rcases ite_some hm25 with ⟨hc29, hm30⟩ | ⟨hc29, hm31⟩
    · clear hm25
      simp [hc16, hc29]
      refine hk28 _ _ ⟨true, 1, 1, ?_, ⟨?_, ?_, ?_, ?_, ?_, ?_, ?_, ?_⟩, hm30⟩ <;> first | rfl | simp [hc16, hc29]
    clear hm25
    rcases ite_some hm31 with ⟨hc32, hm33⟩ | ⟨hc32, hm34⟩
    · clear hm31
      simp [hc16, hc29, hc32]
      refine hk28 _ _ ⟨true, 1, 1, ?_, ⟨?_, ?_, ?_, ?_, ?_, ?_, ?_, ?_⟩, hm33⟩ <;> first | rfl | simp [hc16, hc29, hc32]
    clear hm31
    obtain ⟨x35, hx36, hm37⟩ := bind1_some hm34
    clear hm34
    try dsimp only at hm37
    simp [hc16, hc29, hc32]
    refine CallAt.fn (r_ref03_Least T hx36) ?_
    simp [hc16, hc29, hc32]
    refine hk28 _ _ ⟨(bnot x35), 1, 1, ?_, ⟨?_, ?_, ?_, ?_, ?_, ?_, ?_, ?_⟩, hm37⟩ <;> first | rfl | simp [hc16, hc29, hc32]
  clear hm25
  rintro fr38 h38 ⟨v26, g2_38, g4_38, rfl, E38, hm39⟩
  subst hj24
  refine AWp.condK fun A40 B41 ga42 gb43 => ?_
  rcases ite_some hm39 with ⟨hc44, hm45⟩ | ⟨hc44, hm46⟩
  · clear hm39
    simp [E38, hc16, hc44]
    apply ga42
    refine AWp.sr [] fun K47 hk48 => ?_
    simp [E38, hc16, hc44]
    apply hk48
    refine AWp.ret ?_
    simp only [Option.some.injEq, Prod.mk.injEq] at hm45
    obtain ⟨rfl, rfl, rfl⟩ := hm45
    simp [retQ, E38, hc16, hc44]
  clear hm39
  simp [E38, hc16, hc44]
  apply gb43
  refine AWp.skip ?_
  apply hk22
  refine AWp.sr [] fun K49 hk50 => ?_
  simp [E38, hc16, hc44]
  apply hk50
  obtain ⟨F51, hF52, hm53⟩ := joinB_some hm46
  clear hm46
  try dsimp only at hm53
  obtain ⟨out54, hl55, hmB56⟩ := bind1_some hm53
  clear hm53
  refine AWp.blockK fun Q57 nn58 ne59 nx60 nr61 => ?_
  refine AWp.loopF (fun n62 fr h => ∃ (v63 : Int) (v64 : Int) (v65 : Int) (v66 : Int) (v67 : (List Ty)) (v68 : (List Tm)) (g2_69 : Nat) (g4_69 : Nat), H = h ∧ (fr.env 1 = AV.sc (.int .i64 a1) ∧ fr.env 2 = AV.lptr 2 g2_69 0 ∧ fr.env 4 = AV.lptr 4 g4_69 0 ∧ fr.env 8 = AV.sc (.int .i64 v63) ∧ fr.gen 2 = g2_69 ∧ fr.box 2 = some [AV.sc (.int .i64 v64), AV.sc (.int .i64 v65), AV.sc (.int .i64 v66), AV.slice .frz (List.map Ty.av v67), AV.slice .frz (List.map Tm.av v68)] ∧ fr.gen 4 = g4_69 ∧ fr.box 4 = some [AV.sc (.int .i64 0), AV.sc (.int .i64 0), AV.sc (.int .i64 0), AV.slice .full [], AV.slice .full []]) ∧ loopN F51 n62 (v63, v64, v65, v66, v67, v68) = some out54) FU ?_ ?_
  · refine ⟨0, a0.kind, a0.index, a0.typeF.kind, a0.typeF.args, a0.args, g2_38, g4_38, ?_, ⟨?_, ?_, ?_, ?_, ?_, ?_, ?_, ?_⟩, hl55⟩ <;> first | rfl | simp [E38, hc16, hc44]
  rintro n62 fr69 h69 ⟨v63, v64, v65, v66, v67, v68, g2_69, g4_69, rfl, E69, hl55⟩ K70 hK71
  rcases n62 with _ | n62
  · rw [loopN_zero] at hl55
    cases hl55
  rw [loopN_succ] at hl55
  obtain ⟨c72, hb73, hk74⟩ := bind1_some hl55
  clear hl55
  rw [hF52] at hb73
  try dsimp only at hb73
  rw [un6_mk] at hb73
  try dsimp only at hb73
  refine AWp.seqK fun K75 hk76 => ?_
  refine AWp.blockK fun Q77 nn78 ne79 nx80 nr81 => ?_
  refine AWp.seqK fun K82 hk83 => ?_
  refine AWp.regionD [] false mixed (by decide +kernel) (by decide +kernel) ?_
  obtain ⟨x84, hx85, hm86⟩ := bind1_some hb73
  clear hb73
  try dsimp only at hm86
  simp [E69, hc16, hc44]
  refine CallAtD.fn (r_ref02_Count T hx85) (by simp) ?_
  obtain ⟨x87, x88, x89, hx90, hm91⟩ := bind3_some hm86
  clear hm86
  try dsimp only at hm91
  simp [E69, hc16, hc44]
  refine CallAtD.fn (r_ref04_next T hx90) (by simp) ?_
  simp [E69, hc16, hc44]
  apply hk83
  refine AWp.seqK fun K92 hk93 => ?_
  refine AWp.sr [] fun K94 hk95 => ?_
  simp [E69, hc16, hc44]
  apply hk95
  refine AWp.condK fun A96 B97 ga98 gb99 => ?_
  rcases ite_some hm91 with ⟨hc100, hm101⟩ | ⟨hc100, hm102⟩
  rotate_left
  · clear hm91
    simp [E69, hc16, hc44, hc100]
    apply ga98
    refine AWp.sr [] fun K103 hk104 => ?_
    obtain ⟨x105, hx106, hm107⟩ := bind1_some hm102
    clear hm102
    try dsimp only at hm107
    simp [E69, hc16, hc44, hc100]
    refine CallAt.fn (r_ref02_Copy T hx106) ?_
    simp [E69, hc16, hc44, hc100]
    apply hk104
    refine AWp.ret ?_
    apply nr81
    apply nr61
    obtain rfl := Option.some.inj hm107
    rw [ctlK_ret] at hk74
    obtain rfl := Option.some.inj hk74
    rw [sumK_inr] at hmB56
    try dsimp only at hmB56
    simp only [Option.some.injEq, Prod.mk.injEq] at hmB56
    obtain ⟨rfl, rfl, rfl⟩ := hmB56
    simp [retQ, E69, hc16, hc44, hc100]
  clear hm91
  simp [E69, hc16, hc44, hc100]
  apply gb99
  refine AWp.skip ?_
  apply hk93
  refine AWp.seqK fun K108 hk109 => ?_
  refine AWp.sr [] fun K110 hk111 => ?_
  simp [E69, hc16, hc44, hc100]
  apply hk111
  refine AWp.condK fun A112 B113 ga114 gb115 => ?_
  rcases ite_some hm101 with ⟨hc116, hm117⟩ | ⟨hc116, hm118⟩
  · clear hm101
    simp [E69, hc16, hc44, hc100, hc116]
    apply ga114
    refine AWp.sr [] fun K119 hk120 => ?_
    simp [E69, hc16, hc44, hc100, hc116]
    apply hk120
    refine AWp.ret ?_
    apply nr81
    apply nr61
    obtain rfl := Option.some.inj hm117
    rw [ctlK_ret] at hk74
    obtain rfl := Option.some.inj hk74
    rw [sumK_inr] at hmB56
    try dsimp only at hmB56
    simp only [Option.some.injEq, Prod.mk.injEq] at hmB56
    obtain ⟨rfl, rfl, rfl⟩ := hmB56
    simp [retQ, E69, hc16, hc44, hc100, hc116]
  clear hm101
  simp [E69, hc16, hc44, hc100, hc116]
  apply gb115
  refine AWp.skip ?_
  apply hk109
  refine AWp.seqK fun K121 hk122 => ?_
  refine AWp.sr [] fun K123 hk124 => ?_
  simp [E69, hc16, hc44, hc100, hc116]
  apply hk124
  refine AWp.condK fun A125 B126 ga127 gb128 => ?_
  rcases ite_some hm118 with ⟨hc129, hm130⟩ | ⟨hc129, hm131⟩
  rotate_left
  · clear hm118
    simp [E69, hc16, hc44, hc100, hc116, hc129]
    apply ga127
    refine AWp.sr [] fun K132 hk133 => ?_
    simp [E69, hc16, hc44, hc100, hc116, hc129]
    apply hk133
    refine AWp.ret ?_
    apply nr81
    apply nr61
    obtain rfl := Option.some.inj hm131
    rw [ctlK_ret] at hk74
    obtain rfl := Option.some.inj hk74
    rw [sumK_inr] at hmB56
    try dsimp only at hmB56
    simp only [Option.some.injEq, Prod.mk.injEq] at hmB56
    obtain ⟨rfl, rfl, rfl⟩ := hmB56
    simp [retQ, E69, hc16, hc44, hc100, hc116, hc129]
  clear hm118
  simp [E69, hc16, hc44, hc100, hc116, hc129]
  apply gb128
  refine AWp.skip ?_
  apply hk122
  refine AWp.region [] (by decide +kernel) ?_
  simp [E69, hc16, hc44, hc100, hc116, hc129]
  apply nn78
  apply hk76
  refine AWp.region [] (by decide +kernel) ?_
  simp [E69, hc16, hc44, hc100, hc116, hc129]
  obtain rfl := Option.some.inj hm130
  rw [ctlK_next] at hk74
  refine hK71 _ _ n62 (Nat.lt_succ_self _) ⟨(iadd .i64 v63 1), x87.kind, x87.index, x87.typeF.kind, x87.typeF.args, x87.args, g2_69, g4_69, ?_, ⟨?_, ?_, ?_, ?_, ?_, ?_, ?_, ?_⟩, hk74⟩ <;> first | rfl | simp [E69, hc16, hc44, hc100, hc116, hc129]

theorem enters35 : entersB Tryd.prog 35 = true := by kernel_rfl

theorem r_ref04_Match (T : Tabs) {H : Heap} {a0 : Tm} {a1 : Tm} {a2 : Int} {r0 : Int} (hm : ref04_Match a0 a1 a2 = some r0) : ACall Tryd.prog T 35 [Tm.av a0, Tm.av a1, AV.sc (.int .i64 a2)] H (AV.sc (.int .i64 r0)) H := by
  rw [ref04_Match] at hm
  refine ACallP.intro (fn := Tryd.f35) Tryd.func35 rfl enters35 (Nat.le_of_ble_eq_true rfl) ?_
  refine AWp.sr [] fun K1 hk2 => ?_
  simp
  apply hk2
  refine AWp.seqK fun K3 hk4 => ?_
  refine AWp.sr [] fun K5 hk6 => ?_
  obtain ⟨x7, hx8, hm9⟩ := bind1_some hm
  clear hm
  try dsimp only at hm9
  simp
  refine CallAt.fn (r_ref02_Check T hx8) ?_
  simp
  apply hk6
  refine AWp.sr [] fun K10 hk11 => ?_
  simp
  apply hk11
  refine AWp.condK fun A12 B13 ga14 gb15 => ?_
  rcases ite_some hm9 with ⟨hc16, hm17⟩ | ⟨hc16, hm18⟩
  · clear hm9
    simp [hc16]
    apply ga14
    refine AWp.sr [] fun K19 hk20 => ?_
    simp [hc16]
    apply hk20
    refine AWp.ret ?_
    obtain rfl := Option.some.inj hm17
    simp [retQ, hc16]
  clear hm9
  simp [hc16]
  apply gb15
  refine AWp.skip ?_
  apply hk4
  refine AWp.seqK fun K21 hk22 => ?_
  refine AWp.sr [] fun K23 hk24 => ?_
  obtain ⟨x25, hx26, hm27⟩ := bind1_some hm18
  clear hm18
  try dsimp only at hm27
  simp [hc16]
  refine CallAt.fn (r_ref02_Check T hx26) ?_
  simp [hc16]
  apply hk24
  refine AWp.sr [] fun K28 hk29 => ?_
  simp [hc16]
  apply hk29
  refine AWp.condK fun A30 B31 ga32 gb33 => ?_
  rcases ite_some hm27 with ⟨hc34, hm35⟩ | ⟨hc34, hm36⟩
  · clear hm27
    simp [hc16, hc34]
    apply ga32
    refine AWp.sr [] fun K37 hk38 => ?_
    simp [hc16, hc34]
    apply hk38
    refine AWp.ret ?_
    obtain rfl := Option.some.inj hm35
    simp [retQ, hc16, hc34]
  clear hm27
  simp [hc16, hc34]
  apply gb33
  refine AWp.skip ?_
  apply hk22
  refine AWp.seqK fun K39 hk40 => ?_
  refine AWp.sr [] fun K41 hk42 => ?_
  obtain ⟨x43, hx44, hm45⟩ := bind1_some hm36
  clear hm36
  try dsimp only at hm45
  simp [hc16, hc34]
  refine CallAt.fn (r_ref02_Same T hx44) ?_
  simp [hc16, hc34]
  apply hk42
  refine AWp.condK fun A46 B47 ga48 gb49 => ?_
  rcases ite_some hm45 with ⟨hc50, hm51⟩ | ⟨hc50, hm52⟩
  · clear hm45
    simp [hc16, hc34, hc50]
    apply ga48
    refine AWp.sr [] fun K53 hk54 => ?_
    simp [hc16, hc34, hc50]
    apply hk54
    refine AWp.ret ?_
    obtain rfl := Option.some.inj hm51
    simp [retQ, hc16, hc34, hc50]
  clear hm45
  simp [hc16, hc34, hc50]
  apply gb49
  refine AWp.skip ?_
  apply hk40
  refine AWp.sr [] fun K55 hk56 => ?_
  obtain ⟨x57, x58, x59, hx60, hm61⟩ := bind3_some hm52
  clear hm52
  try dsimp only at hm61
  simp [hc16, hc34, hc50]
  refine CallAt.fn (r_ref04_Normal T hx60) ?_
  simp [hc16, hc34, hc50]
  apply hk56
  refine AWp.seqK fun K62 hk63 => ?_
  refine AWp.sr [] fun K64 hk65 => ?_
  simp [hc16, hc34, hc50]
  apply hk65
  refine AWp.condK fun A66 B67 ga68 gb69 => ?_
  rcases ite_some hm61 with ⟨hc70, hm71⟩ | ⟨hc70, hm72⟩
  · clear hm61
    simp [hc16, hc34, hc50, hc70]
    apply ga68
    refine AWp.sr [] fun K73 hk74 => ?_
    simp [hc16, hc34, hc50, hc70]
    apply hk74
    refine AWp.ret ?_
    obtain rfl := Option.some.inj hm71
    simp [retQ, hc16, hc34, hc50, hc70]
  clear hm61
  simp [hc16, hc34, hc50, hc70]
  apply gb69
  refine AWp.skip ?_
  apply hk63
  refine AWp.sr [] fun K75 hk76 => ?_
  obtain ⟨x77, x78, x79, hx80, hm81⟩ := bind3_some hm72
  clear hm72
  try dsimp only at hm81
  simp [hc16, hc34, hc50, hc70]
  refine CallAt.fn (r_ref04_Normal T hx80) ?_
  simp [hc16, hc34, hc50, hc70]
  apply hk76
  refine AWp.seqK fun K82 hk83 => ?_
  refine AWp.sr [] fun K84 hk85 => ?_
  simp [hc16, hc34, hc50, hc70]
  apply hk85
  refine AWp.condK fun A86 B87 ga88 gb89 => ?_
  rcases ite_some hm81 with ⟨hc90, hm91⟩ | ⟨hc90, hm92⟩
  · clear hm81
    simp [hc16, hc34, hc50, hc70, hc90]
    apply ga88
    refine AWp.sr [] fun K93 hk94 => ?_
    simp [hc16, hc34, hc50, hc70, hc90]
    apply hk94
    refine AWp.ret ?_
    obtain rfl := Option.some.inj hm91
    simp [retQ, hc16, hc34, hc50, hc70, hc90]
  clear hm81
  simp [hc16, hc34, hc50, hc70, hc90]
  apply gb89
  refine AWp.skip ?_
  apply hk83
  refine AWp.seqK fun K95 hk96 => ?_
  refine AWp.sr [] fun K97 hk98 => ?_
  obtain ⟨x99, hx100, hm101⟩ := bind1_some hm92
  clear hm92
  try dsimp only at hm101
  simp [hc16, hc34, hc50, hc70, hc90]
  refine CallAt.fn (r_ref02_Same T hx100) ?_
  simp [hc16, hc34, hc50, hc70, hc90]
  apply hk98
  refine AWp.condK fun A102 B103 ga104 gb105 => ?_
  rcases ite_some hm101 with ⟨hc106, hm107⟩ | ⟨hc106, hm108⟩
  rotate_left
  · clear hm101
    simp [hc16, hc34, hc50, hc70, hc90, hc106]
    apply ga104
    refine AWp.sr [] fun K109 hk110 => ?_
    simp [hc16, hc34, hc50, hc70, hc90, hc106]
    apply hk110
    refine AWp.ret ?_
    obtain rfl := Option.some.inj hm108
    simp [retQ, hc16, hc34, hc50, hc70, hc90, hc106]
  clear hm101
  simp [hc16, hc34, hc50, hc70, hc90, hc106]
  apply gb105
  refine AWp.skip ?_
  apply hk96
  refine AWp.sr [] fun K111 hk112 => ?_
  simp [hc16, hc34, hc50, hc70, hc90, hc106]
  apply hk112
  refine AWp.ret ?_
  obtain rfl := Option.some.inj hm107
  simp [retQ, hc16, hc34, hc50, hc70, hc90, hc106]

theorem enters8 : entersB Tryd.prog 8 = true := by kernel_rfl

theorem r_law04_ReduceDoes (T : Tabs) (hT : T 0 = some (AV.agg (List.map (fun n => AV.sc (Value.int .i64 n)) tree_arities))) {a0 : (List Int)} {a1 : Tm} {a2 : Tm} {a3 : Int} {r0 : Bool} (hm : law04_ReduceDoes a0 a1 a2 a3 = some r0) : ACallP Tryd.prog T 8 [AV.slice .frz (List.map (fun n => AV.sc (Value.int .i64 n)) a0), Tm.av a1, Tm.av a2, AV.sc (.int .i64 a3)] [] (fun x _ => x = AV.sc (.bool r0)) := by
  rw [law04_ReduceDoes] at hm
  refine ACallP.intro (fn := Tryd.f8) Tryd.func8 rfl enters8 (Nat.le_of_ble_eq_true rfl) ?_
  refine AWp.sr [] fun K1 hk2 => ?_
  simp [hT]
  apply hk2
  refine AWp.seqK fun K3 hk4 => ?_
  refine AWp.sr [] fun K5 hk6 => ?_
  obtain ⟨x7, hx8, hm9⟩ := bind1_some hm
  clear hm
  try dsimp only at hm9
  simp [hT]
  refine CallAt.fn (r_law04_sane T hT hx8) ?_
  simp [hT]
  apply hk6
  refine AWp.condK fun A10 B11 ga12 gb13 => ?_
  rcases ite_some hm9 with ⟨hc14, hm15⟩ | ⟨hc14, hm16⟩
  rotate_left
  · clear hm9
    simp [hT, hc14]
    apply ga12
    refine AWp.sr [] fun K17 hk18 => ?_
    simp [hT, hc14]
    apply hk18
    refine AWp.ret ?_
    obtain rfl := Option.some.inj hm16
    simp [retQ, hT, hc14]
  clear hm9
  simp [hT, hc14]
  apply gb13
  refine AWp.skip ?_
  apply hk4
  refine AWp.seqK fun K19 hk20 => ?_
  obtain ⟨j21, hj22, hm23⟩ := joinB_some hm15
  clear hm15
  refine AWp.seqP (fun fr h => ∃ (v24 : Bool) (g5_36 : Nat) (g6_36 : Nat), ([] : Heap) = h ∧ (fr.env 0 = AV.slice .frz (List.map (fun n => AV.sc (Value.int .i64 n)) a0) ∧ fr.env 3 = AV.sc (.int .i64 a3) ∧ fr.env 5 = AV.lptr 5 g5_36 0 ∧ fr.env 6 = AV.lptr 6 g6_36 0 ∧ fr.env 49 = AV.sc (.bool v24) ∧ fr.gen 5 = g5_36 ∧ fr.box 5 = some [AV.sc (.int .i64 a1.kind), AV.sc (.int .i64 a1.index), AV.sc (.int .i64 a1.typeF.kind), AV.slice .frz (List.map Ty.av a1.typeF.args), AV.slice .frz (List.map Tm.av a1.args)] ∧ fr.gen 6 = g6_36 ∧ fr.box 6 = some [AV.sc (.int .i64 a2.kind), AV.sc (.int .i64 a2.index), AV.sc (.int .i64 a2.typeF.kind), AV.slice .frz (List.map Ty.av a2.typeF.args), AV.slice .frz (List.map Tm.av a2.args)]) ∧ j21 v24 = some r0) (fun K25 hk26 => ?_) ?_
  · refine AWp.region [] (by decide +kernel) ?_
    obtain ⟨x27, hx28, hm29⟩ := bind1_some hm23
    clear hm23
    try dsimp only at hm29
    simp [hT, hc14]
    refine CallAt.fn (r_mk_Few T hx28) ?_
    rcases ite_some hm29 with ⟨hc30, hm31⟩ | ⟨hc30, hm32⟩
    rotate_left
    · clear hm29
      simp [hT, hc14, hc30]
      refine hk26 _ _ ⟨true, 1, 1, ?_, ⟨?_, ?_, ?_, ?_, ?_, ?_, ?_, ?_, ?_⟩, hm32⟩ <;> first | rfl | simp [hT, hc14, hc30]
    clear hm29
    obtain ⟨x33, hx34, hm35⟩ := bind1_some hm31
    clear hm31
    try dsimp only at hm35
    simp [hT, hc14, hc30]
    refine CallAt.fn (r_law04_few T hx34) ?_
    simp [hT, hc14, hc30]
    refine hk26 _ _ ⟨(bnot x33), 1, 1, ?_, ⟨?_, ?_, ?_, ?_, ?_, ?_, ?_, ?_, ?_⟩, hm35⟩ <;> first | rfl | simp [hT, hc14, hc30]
  clear hm23
  rintro fr36 h36 ⟨v24, g5_36, g6_36, rfl, E36, hm37⟩
  subst hj22
  refine AWp.condK fun A38 B39 ga40 gb41 => ?_
  rcases ite_some hm37 with ⟨hc42, hm43⟩ | ⟨hc42, hm44⟩
  · clear hm37
    simp [E36, hT, hc14, hc42]
    apply ga40
    refine AWp.sr [] fun K45 hk46 => ?_
    simp [E36, hT, hc14, hc42]
    apply hk46
    refine AWp.ret ?_
    obtain rfl := Option.some.inj hm43
    simp [retQ, E36, hT, hc14, hc42]
  clear hm37
  simp [E36, hT, hc14, hc42]
  apply gb41
  refine AWp.skip ?_
  apply hk20
  refine AWp.sr [] fun K47 hk48 => ?_
  obtain ⟨x49, hx50, hm51⟩ := bind1_some hm44
  clear hm44
  try dsimp only at hm51
  simp [E36, hT, hc14, hc42]
  refine CallAt.fn (r_mk_New T hx50) ?_
  simp [E36, hT, hc14, hc42]
  apply hk48
  refine AWp.sr [] fun K52 hk53 => ?_
  obtain ⟨x54, d55, hx56, hm57⟩ := bind2_some hm51
  clear hm51
  try dsimp only at hm57
  simp [E36, hT, hc14, hc42]
  refine CallAt.fn (r_mk_Context T (by simp) hx56) ?_
  simp [E36, hT, hc14, hc42]
  apply hk53
  refine AWp.sr [] fun K58 hk59 => ?_
  obtain ⟨x60, d61, hx62, hm63⟩ := bind2_some hm57
  clear hm57
  try dsimp only at hm63
  simp [E36, hT, hc14, hc42]
  refine CallAt.fn (r_mk_Type T (by simp) hx62) ?_
  simp [E36, hT, hc14, hc42]
  apply hk59
  refine AWp.seqK fun K64 hk65 => ?_
  refine AWp.regionD [] false mixed (by decide +kernel) (by decide +kernel) ?_
  obtain ⟨x66, d67, hx68, hm69⟩ := bind2_some hm63
  clear hm63
  try dsimp only at hm69
  simp [E36, hT, hc14, hc42]
  refine CallAtD.fn (r_mk_Term T (by simp) hx68) (by simp) ?_
  obtain ⟨x70, d71, hx72, hm73⟩ := bind2_some hm69
  clear hm69
  try dsimp only at hm73
  simp [E36, hT, hc14, hc42]
  refine CallAtD.fn (r_mk_Term T (by simp) hx72) (by simp) ?_
  simp [E36, hT, hc14, hc42]
  apply hk65
  refine AWp.seqK fun K74 hk75 => ?_
  refine AWp.sr [] fun K76 hk77 => ?_
  simp [E36, hT, hc14, hc42]
  apply hk77
  obtain ⟨L78, hL79, hm80⟩ := joinB_some hm73
  clear hm73
  try dsimp only at hm80
  obtain ⟨hok81, hm82⟩ := chk_some hm80
  clear hm80
  obtain ⟨F83, hF84, hm85⟩ := joinB_some hm82
  clear hm82
  try dsimp only at hm85
  obtain ⟨out86, hl87, hmB88⟩ := bind1_some hm85
  clear hm85
  refine AWp.blockK fun Q89 nn90 ne91 nx92 nr93 => ?_
  refine AWp.loopF (fun n94 fr h => ∃ (i95 : Nat) (j96 : Int) (g6_97 : Nat) (g12_97 : Nat), hset [[]] 0 [AV.slice .frz (List.map (fun n => AV.sc (Value.int .i64 n)) d71.l), AV.sc (.int .i64 d71.atF)] = h ∧ (fr.env 3 = AV.sc (.int .i64 a3) ∧ fr.env 6 = AV.lptr 6 g6_97 0 ∧ fr.env 12 = AV.lptr 12 g12_97 0 ∧ fr.env 67 = AV.slice .full (List.map Tm.av L78) ∧ fr.env 68 = AV.sc (.int .i64 (llen L78)) ∧ fr.env 69 = AV.sc (.int .i64 j96) ∧ fr.gen 6 = g6_97 ∧ fr.box 6 = some [AV.sc (.int .i64 a2.kind), AV.sc (.int .i64 a2.index), AV.sc (.int .i64 a2.typeF.kind), AV.slice .frz (List.map Ty.av a2.typeF.args), AV.slice .frz (List.map Tm.av a2.args)] ∧ fr.gen 12 = g12_97 ∧ fr.box 12 = some [AV.sc (.int .i64 x66.kind), AV.sc (.int .i64 x66.index), AV.sc (.int .i64 x66.typeF.kind), AV.slice .frz (List.map Ty.av x66.typeF.args), AV.slice .frz (List.map Tm.av x66.args)]) ∧ j96 = (i95 : Int) ∧ i95 + n94 = List.length L78 ∧ forR F83 (List.drop i95 L78) i95 () = some out86) (List.length L78) ?_ ?_
  · refine ⟨0, 0, g6_36, (fr36.gen 12 + 1), ?_, ⟨?_, ?_, ?_, ?_, ?_, ?_, ?_, ?_, ?_, ?_⟩, rfl, (by simp), hl87⟩ <;> first | rfl | (rw [hL79]; rfl) | simp [E36, hT, hL79, llen, hc14, hc42, hL79]
  rintro n94 fr97 h97 ⟨i95, j96, g6_97, g12_97, rfl, E97, hj98, hi99, hl87⟩ K100 hK101
  rcases n94 with _ | n94
  · have hlt102 := ilt_notJ (l := L78) hj98 (by omega)
    refine AWp.sr [] fun K103 hk104 => ?_
    simp [E97, hT, hlt102, hc14, hc42]
    apply hk104
    refine AWp.seqK fun K105 hk106 => ?_
    refine AWp.condK fun A107 B108 ga109 gb110 => ?_
    simp [E97, hT, hlt102, hc14, hc42]
    apply gb110
    refine AWp.exit ?_
    apply ne91
    rw [List.drop_eq_nil_of_le (by omega), forR_nil] at hl87
    obtain rfl := Option.some.inj hl87
    rw [sumK_inl] at hmB88
    try dsimp only at hmB88
    apply hk75
    refine AWp.sr [] fun K111 hk112 => ?_
    simp [E97, hT, hlt102, hc14, hc42]
    apply hk112
    refine AWp.ret ?_
    obtain rfl := Option.some.inj hmB88
    simp [retQ, E97, hT, hlt102, hc14, hc42]
  have hlt102 := ilt_ofJ (l := L78) hj98 (by omega)
  obtain ⟨x113, hdn94, hg114⟩ := drop_ltJ (l := L78) hj98 (by omega)
  rw [hdn94, forR_cons] at hl87
  obtain ⟨c115, hb116, hk117⟩ := bind1_some hl87
  clear hl87
  rw [hF84, ← hj98] at hb116
  try dsimp only at hb116
  refine AWp.sr [] fun K118 hk119 => ?_
  simp [E97, hT, hlt102, hg114, hc14, hc42]
  apply hk119
  refine AWp.seqK fun K120 hk121 => ?_
  refine AWp.condK fun A122 B123 ga124 gb125 => ?_
  simp [E97, hT, hlt102, hg114, hc14, hc42]
  apply ga124
  refine AWp.skip ?_
  apply hk121
  refine AWp.seqK fun K126 hk127 => ?_
  refine AWp.blockK fun Q128 nn129 ne130 nx131 nr132 => ?_
  refine AWp.sr [] fun K133 hk134 => ?_
  simp [E97, hT, hlt102, hg114, hc14, hc42]
  apply hk134
  refine AWp.sr [] fun K135 hk136 => ?_
  obtain ⟨x137, x138, hx139, hm140⟩ := bind2_some hb116
  clear hb116
  try dsimp only at hm140
  simp [E97, hT, hlt102, hg114, hc14, hc42]
  refine CallAt.fn (r_reduce_Redex T hT hx139) ?_
  simp [E97, hT, hlt102, hg114, hc14, hc42]
  apply hk136
  refine AWp.sr [] fun K141 hk142 => ?_
  obtain ⟨x143, x144, hx145, hm146⟩ := bind2_some hm140
  clear hm140
  try dsimp only at hm146
  simp [E97, hT, hlt102, hg114, hc14, hc42]
  refine CallAt.fn (r_ref04_Redex T hx145) ?_
  simp [E97, hT, hlt102, hg114, hc14, hc42]
  apply hk142
  refine AWp.sr [] fun K147 hk148 => ?_
  obtain ⟨x149, x150, hx151, hm152⟩ := bind2_some hm146
  clear hm146
  try dsimp only at hm152
  simp [E97, hT, hlt102, hg114, hc14, hc42]
  refine CallAt.fn (r_reduce_Contract T hT hx151) ?_
  simp [E97, hT, hlt102, hg114, hc14, hc42]
  apply hk148
  refine AWp.sr [] fun K153 hk154 => ?_
  obtain ⟨x155, x156, hx157, hm158⟩ := bind2_some hm152
  clear hm152
  try dsimp only at hm158
  simp [E97, hT, hlt102, hg114, hc14, hc42]
  refine CallAt.fn (r_ref04_Contract T hx157) ?_
  simp [E97, hT, hlt102, hg114, hc14, hc42]
  apply hk154
  refine AWp.sr [] fun K159 hk160 => ?_
  obtain ⟨x161, x162, x163, hx164, hm165⟩ := bind3_some hm158
  clear hm158
  try dsimp only at hm165
  simp [E97, hT, hlt102, hg114, hc14, hc42]
  refine CallAt.fn (r_reduce_Step T hT hx164) ?_
  simp [E97, hT, hlt102, hg114, hc14, hc42]
  apply hk160
  refine AWp.sr [] fun K166 hk167 => ?_
  obtain ⟨x168, x169, x170, hx171, hm172⟩ := bind3_some hm165
  clear hm165
  try dsimp only at hm172
  simp [E97, hT, hlt102, hg114, hc14, hc42]
  refine CallAt.fn (r_ref04_Step T hx171) ?_
  simp [E97, hT, hlt102, hg114, hc14, hc42]
  apply hk167
  refine AWp.seqK fun K173 hk174 => ?_
  obtain ⟨j175, hj176, hm177⟩ := joinB_some hm172
  clear hm172
  refine AWp.seqP (fun fr h => ∃ (v178 : Bool) (g6_205 : Nat) (g12_205 : Nat) (g15_205 : Nat), hset [[]] 0 [AV.slice .frz (List.map (fun n => AV.sc (Value.int .i64 n)) d71.l), AV.sc (.int .i64 d71.atF)] = h ∧ (fr.env 3 = AV.sc (.int .i64 a3) ∧ fr.env 6 = AV.lptr 6 g6_205 0 ∧ fr.env 12 = AV.lptr 12 g12_205 0 ∧ fr.env 15 = AV.lptr 15 g15_205 0 ∧ fr.env 67 = AV.slice .full (List.map Tm.av L78) ∧ fr.env 68 = AV.sc (.int .i64 (llen L78)) ∧ fr.env 69 = AV.sc (.int .i64 j96) ∧ fr.env 139 = AV.sc (.bool v178) ∧ fr.gen 6 = g6_205 ∧ fr.box 6 = some [AV.sc (.int .i64 a2.kind), AV.sc (.int .i64 a2.index), AV.sc (.int .i64 a2.typeF.kind), AV.slice .frz (List.map Ty.av a2.typeF.args), AV.slice .frz (List.map Tm.av a2.args)] ∧ fr.gen 12 = g12_205 ∧ fr.box 12 = some [AV.sc (.int .i64 x66.kind), AV.sc (.int .i64 x66.index), AV.sc (.int .i64 x66.typeF.kind), AV.slice .frz (List.map Ty.av x66.typeF.args), AV.slice .frz (List.map Tm.av x66.args)] ∧ fr.gen 15 = g15_205 ∧ fr.box 15 = some [AV.sc (.int .i64 x113.kind), AV.sc (.int .i64 x113.index), AV.sc (.int .i64 x113.typeF.kind), AV.slice .frz (List.map Ty.av x113.typeF.args), AV.slice .frz (List.map Tm.av x113.args)]) ∧ j175 v178 = some c115) (fun K179 hk180 => ?_) ?_
  · refine AWp.region [] (by decide +kernel) ?_
    rcases ite_some hm177 with ⟨hc181, hm182⟩ | ⟨hc181, hm183⟩
    · clear hm177
      simp [E97, hT, hlt102, hg114, hc14, hc42, hc181]
      refine hk180 _ _ ⟨true, g6_97, g12_97, (fr97.gen 15 + 1), ?_, ⟨?_, ?_, ?_, ?_, ?_, ?_, ?_, ?_, ?_, ?_, ?_, ?_, ?_, ?_⟩, hm182⟩ <;> first | rfl | simp [E97, hT, hlt102, hg114, hc14, hc42, hc181]
    clear hm177
    rcases ite_some hm183 with ⟨hc184, hm185⟩ | ⟨hc184, hm186⟩
    · clear hm183
      simp [E97, hT, hlt102, hg114, hc14, hc42, hc181, hc184]
      refine hk180 _ _ ⟨true, g6_97, g12_97, (fr97.gen 15 + 1), ?_, ⟨?_, ?_, ?_, ?_, ?_, ?_, ?_, ?_, ?_, ?_, ?_, ?_, ?_, ?_⟩, hm185⟩ <;> first | rfl | simp [E97, hT, hlt102, hg114, hc14, hc42, hc181, hc184]
    clear hm183
    rcases ite_some hm186 with ⟨hc187, hm188⟩ | ⟨hc187, hm189⟩
    · clear hm186
      simp [E97, hT, hlt102, hg114, hc14, hc42, hc181, hc184, hc187]
      refine hk180 _ _ ⟨true, g6_97, g12_97, (fr97.gen 15 + 1), ?_, ⟨?_, ?_, ?_, ?_, ?_, ?_, ?_, ?_, ?_, ?_, ?_, ?_, ?_, ?_⟩, hm188⟩ <;> first | rfl | simp [E97, hT, hlt102, hg114, hc14, hc42, hc181, hc184, hc187]
    clear hm186
    obtain ⟨x190, hx191, hm192⟩ := bind1_some hm189
    clear hm189
    try dsimp only at hm192
    simp [E97, hT, hlt102, hg114, hc14, hc42, hc181, hc184, hc187]
    refine CallAt.fn (r_ref02_Same T hx191) ?_
    rcases ite_some hm192 with ⟨hc193, hm194⟩ | ⟨hc193, hm195⟩
    rotate_left
    · clear hm192
      simp [E97, hT, hlt102, hg114, hc14, hc42, hc181, hc184, hc187, hc193]
      refine hk180 _ _ ⟨true, g6_97, g12_97, (fr97.gen 15 + 1), ?_, ⟨?_, ?_, ?_, ?_, ?_, ?_, ?_, ?_, ?_, ?_, ?_, ?_, ?_, ?_⟩, hm195⟩ <;> first | rfl | simp [E97, hT, hlt102, hg114, hc14, hc42, hc181, hc184, hc187, hc193]
    clear hm192
    rcases ite_some hm194 with ⟨hc196, hm197⟩ | ⟨hc196, hm198⟩
    · clear hm194
      simp [E97, hT, hlt102, hg114, hc14, hc42, hc181, hc184, hc187, hc193, hc196]
      refine hk180 _ _ ⟨true, g6_97, g12_97, (fr97.gen 15 + 1), ?_, ⟨?_, ?_, ?_, ?_, ?_, ?_, ?_, ?_, ?_, ?_, ?_, ?_, ?_, ?_⟩, hm197⟩ <;> first | rfl | simp [E97, hT, hlt102, hg114, hc14, hc42, hc181, hc184, hc187, hc193, hc196]
    clear hm194
    rcases ite_some hm198 with ⟨hc199, hm200⟩ | ⟨hc199, hm201⟩
    · clear hm198
      simp [E97, hT, hlt102, hg114, hc14, hc42, hc181, hc184, hc187, hc193, hc196, hc199]
      refine hk180 _ _ ⟨true, g6_97, g12_97, (fr97.gen 15 + 1), ?_, ⟨?_, ?_, ?_, ?_, ?_, ?_, ?_, ?_, ?_, ?_, ?_, ?_, ?_, ?_⟩, hm200⟩ <;> first | rfl | simp [E97, hT, hlt102, hg114, hc14, hc42, hc181, hc184, hc187, hc193, hc196, hc199]
    clear hm198
    obtain ⟨x202, hx203, hm204⟩ := bind1_some hm201
    clear hm201
    try dsimp only at hm204
    simp [E97, hT, hlt102, hg114, hc14, hc42, hc181, hc184, hc187, hc193, hc196, hc199]
    refine CallAt.fn (r_ref02_Same T hx203) ?_
    simp [E97, hT, hlt102, hg114, hc14, hc42, hc181, hc184, hc187, hc193, hc196, hc199]
    refine hk180 _ _ ⟨(bnot x202), g6_97, g12_97, (fr97.gen 15 + 1), ?_, ⟨?_, ?_, ?_, ?_, ?_, ?_, ?_, ?_, ?_, ?_, ?_, ?_, ?_, ?_⟩, hm204⟩ <;> first | rfl | simp [E97, hT, hlt102, hg114, hc14, hc42, hc181, hc184, hc187, hc193, hc196, hc199]
  clear hm177
  rintro fr205 h205 ⟨v178, g6_205, g12_205, g15_205, rfl, E205, hm206⟩
  subst hj176
  refine AWp.condK fun A207 B208 ga209 gb210 => ?_
  rcases ite_some hm206 with ⟨hc211, hm212⟩ | ⟨hc211, hm213⟩
  · clear hm206
    simp [E205, hT, hlt102, hg114, hc14, hc42, hc211]
    apply ga209
    refine AWp.sr [] fun K214 hk215 => ?_
    simp [E205, hT, hlt102, hg114, hc14, hc42, hc211]
    apply hk215
    refine AWp.ret ?_
    apply nr132
    apply nr93
    obtain rfl := Option.some.inj hm212
    rw [ctlK_ret] at hk117
    obtain rfl := Option.some.inj hk117
    rw [sumK_inr] at hmB88
    try dsimp only at hmB88
    obtain rfl := Option.some.inj hmB88
    simp [retQ, E205, hT, hlt102, hg114, hc14, hc42, hc211]
  clear hm206
  simp [E205, hT, hlt102, hg114, hc14, hc42, hc211]
  apply gb210
  refine AWp.skip ?_
  apply hk174
  refine AWp.sr [] fun K216 hk217 => ?_
  obtain ⟨x218, hx219, hm220⟩ := bind1_some hm213
  clear hm213
  try dsimp only at hm220
  simp [E205, hT, hlt102, hg114, hc14, hc42, hc211]
  refine CallAt.fn (r_mk_Mod T hx219) ?_
  simp [E205, hT, hlt102, hg114, hc14, hc42, hc211]
  apply hk217
  obtain ⟨L221, hL222, hm223⟩ := joinB_some hm220
  clear hm220
  try dsimp only at hm223
  obtain ⟨hok224, hm225⟩ := chk_some hm223
  clear hm223
  obtain ⟨F226, hF227, hm228⟩ := joinB_some hm225
  clear hm225
  try dsimp only at hm228
  obtain ⟨out229, hl230, hmB231⟩ := bind1_some hm228
  clear hm228
  refine AWp.blockK fun Q232 nn233 ne234 nx235 nr236 => ?_
  refine AWp.loopF (fun n237 fr h => ∃ (i238 : Nat) (j239 : Int) (g6_240 : Nat) (g12_240 : Nat) (g15_240 : Nat), hset [[]] 0 [AV.slice .frz (List.map (fun n => AV.sc (Value.int .i64 n)) d71.l), AV.sc (.int .i64 d71.atF)] = h ∧ (fr.env 3 = AV.sc (.int .i64 a3) ∧ fr.env 6 = AV.lptr 6 g6_240 0 ∧ fr.env 12 = AV.lptr 12 g12_240 0 ∧ fr.env 15 = AV.lptr 15 g15_240 0 ∧ fr.env 67 = AV.slice .full (List.map Tm.av L78) ∧ fr.env 68 = AV.sc (.int .i64 (llen L78)) ∧ fr.env 69 = AV.sc (.int .i64 j96) ∧ fr.env 144 = AV.slice .full (List.map (fun n => AV.sc (Value.int .i64 n)) L221) ∧ fr.env 145 = AV.sc (.int .i64 (llen L221)) ∧ fr.env 146 = AV.sc (.int .i64 j239) ∧ fr.gen 6 = g6_240 ∧ fr.box 6 = some [AV.sc (.int .i64 a2.kind), AV.sc (.int .i64 a2.index), AV.sc (.int .i64 a2.typeF.kind), AV.slice .frz (List.map Ty.av a2.typeF.args), AV.slice .frz (List.map Tm.av a2.args)] ∧ fr.gen 12 = g12_240 ∧ fr.box 12 = some [AV.sc (.int .i64 x66.kind), AV.sc (.int .i64 x66.index), AV.sc (.int .i64 x66.typeF.kind), AV.slice .frz (List.map Ty.av x66.typeF.args), AV.slice .frz (List.map Tm.av x66.args)] ∧ fr.gen 15 = g15_240 ∧ fr.box 15 = some [AV.sc (.int .i64 x113.kind), AV.sc (.int .i64 x113.index), AV.sc (.int .i64 x113.typeF.kind), AV.slice .frz (List.map Ty.av x113.typeF.args), AV.slice .frz (List.map Tm.av x113.args)]) ∧ j239 = (i238 : Int) ∧ i238 + n237 = List.length L221 ∧ forR F226 (List.drop i238 L221) i238 () = some out229) (List.length L221) ?_ ?_
  · refine ⟨0, 0, g6_205, g12_205, g15_205, ?_, ⟨?_, ?_, ?_, ?_, ?_, ?_, ?_, ?_, ?_, ?_, ?_, ?_, ?_, ?_, ?_, ?_⟩, rfl, (by simp), hl230⟩ <;> first | rfl | (rw [hL222]; rfl) | simp [E205, hT, hlt102, hg114, hL222, llen, hc14, hc42, hc211, hL222]
  rintro n237 fr240 h240 ⟨i238, j239, g6_240, g12_240, g15_240, rfl, E240, hj241, hi242, hl230⟩ K243 hK244
  rcases n237 with _ | n237
  · have hlt245 := ilt_notJ (l := L221) hj241 (by omega)
    refine AWp.sr [] fun K246 hk247 => ?_
    simp [E240, hT, hlt102, hg114, hlt245, hc14, hc42, hc211]
    apply hk247
    refine AWp.seqK fun K248 hk249 => ?_
    refine AWp.condK fun A250 B251 ga252 gb253 => ?_
    simp [E240, hT, hlt102, hg114, hlt245, hc14, hc42, hc211]
    apply gb253
    refine AWp.exit ?_
    apply ne234
    rw [List.drop_eq_nil_of_le (by omega), forR_nil] at hl230
    obtain rfl := Option.some.inj hl230
    rw [sumK_inl] at hmB231
    try dsimp only at hmB231
    apply nn129
    apply hk127
    refine AWp.region [] (by decide +kernel) ?_
    simp [E240, hT, hlt102, hg114, hlt245, hc14, hc42, hc211]
    obtain rfl := Option.some.inj hmB231
    rw [ctlK_next] at hk117
    refine hK101 _ _ n94 (Nat.lt_succ_self _) ⟨(i95 + 1), (iadd .i64 j96 1), g6_240, g12_240, ?_, ⟨?_, ?_, ?_, ?_, ?_, ?_, ?_, ?_, ?_, ?_⟩, (iadd_idxJ hj98 (by omega) hok81), (by omega), hk117⟩ <;> first | rfl | simp [E240, hT, hlt102, hg114, hlt245, hc14, hc42, hc211]
  have hlt245 := ilt_ofJ (l := L221) hj241 (by omega)
  obtain ⟨x254, hdn237, hg255⟩ := drop_ltJ (l := L221) hj241 (by omega)
  rw [hdn237, forR_cons] at hl230
  obtain ⟨c256, hb257, hk258⟩ := bind1_some hl230
  clear hl230
  rw [hF227, ← hj241] at hb257
  try dsimp only at hb257
  refine AWp.sr [] fun K259 hk260 => ?_
  simp [E240, hT, hlt102, hg114, hlt245, hg255, hc14, hc42, hc211]
  apply hk260
  refine AWp.seqK fun K261 hk262 => ?_
  refine AWp.condK fun A263 B264 ga265 gb266 => ?_
  simp [E240, hT, hlt102, hg114, hlt245, hg255, hc14, hc42, hc211]
  apply ga265
  refine AWp.skip ?_
  apply hk262
  refine AWp.seqK fun K267 hk268 => ?_
  refine AWp.blockK fun Q269 nn270 ne271 nx272 nr273 => ?_
  refine AWp.sr [] fun K274 hk275 => ?_
  simp [E240, hT, hlt102, hg114, hlt245, hg255, hc14, hc42, hc211]
  apply hk275
  refine AWp.sr [] fun K276 hk277 => ?_
  obtain ⟨x278, x279, x280, hx281, hm282⟩ := bind3_some hb257
  clear hb257
  try dsimp only at hm282
  simp [E240, hT, hlt102, hg114, hlt245, hg255, hc14, hc42, hc211]
  refine CallAt.fn (r_reduce_Normal T hT hx281) ?_
  simp [E240, hT, hlt102, hg114, hlt245, hg255, hc14, hc42, hc211]
  apply hk277
  refine AWp.sr [] fun K283 hk284 => ?_
  obtain ⟨x285, x286, x287, hx288, hm289⟩ := bind3_some hm282
  clear hm282
  try dsimp only at hm289
  simp [E240, hT, hlt102, hg114, hlt245, hg255, hc14, hc42, hc211]
  refine CallAt.fn (r_ref04_Normal T hx288) ?_
  simp [E240, hT, hlt102, hg114, hlt245, hg255, hc14, hc42, hc211]
  apply hk284
  obtain ⟨j290, hj291, hm292⟩ := joinB_some hm289
  clear hm289
  refine AWp.seqP (fun fr h => ∃ (v293 : Bool) (g6_296 : Nat) (g12_296 : Nat) (g15_296 : Nat), hset [[]] 0 [AV.slice .frz (List.map (fun n => AV.sc (Value.int .i64 n)) d71.l), AV.sc (.int .i64 d71.atF)] = h ∧ (fr.env 3 = AV.sc (.int .i64 a3) ∧ fr.env 6 = AV.lptr 6 g6_296 0 ∧ fr.env 12 = AV.lptr 12 g12_296 0 ∧ fr.env 15 = AV.lptr 15 g15_296 0 ∧ fr.env 67 = AV.slice .full (List.map Tm.av L78) ∧ fr.env 68 = AV.sc (.int .i64 (llen L78)) ∧ fr.env 69 = AV.sc (.int .i64 j96) ∧ fr.env 144 = AV.slice .full (List.map (fun n => AV.sc (Value.int .i64 n)) L221) ∧ fr.env 145 = AV.sc (.int .i64 (llen L221)) ∧ fr.env 146 = AV.sc (.int .i64 j239) ∧ fr.env 199 = AV.sc (.bool v293) ∧ fr.gen 6 = g6_296 ∧ fr.box 6 = some [AV.sc (.int .i64 a2.kind), AV.sc (.int .i64 a2.index), AV.sc (.int .i64 a2.typeF.kind), AV.slice .frz (List.map Ty.av a2.typeF.args), AV.slice .frz (List.map Tm.av a2.args)] ∧ fr.gen 12 = g12_296 ∧ fr.box 12 = some [AV.sc (.int .i64 x66.kind), AV.sc (.int .i64 x66.index), AV.sc (.int .i64 x66.typeF.kind), AV.slice .frz (List.map Ty.av x66.typeF.args), AV.slice .frz (List.map Tm.av x66.args)] ∧ fr.gen 15 = g15_296 ∧ fr.box 15 = some [AV.sc (.int .i64 x113.kind), AV.sc (.int .i64 x113.index), AV.sc (.int .i64 x113.typeF.kind), AV.slice .frz (List.map Ty.av x113.typeF.args), AV.slice .frz (List.map Tm.av x113.args)]) ∧ j290 v293 = some c256) (fun K294 hk295 => ?_) ?_
  rotate_left
  · clear hm292
    rintro fr296 h296 ⟨v293, g6_296, g12_296, g15_296, rfl, E296, hm297⟩
    subst hj291
    refine AWp.condK fun A298 B299 ga300 gb301 => ?_
    rcases ite_some hm297 with ⟨hc302, hm303⟩ | ⟨hc302, hm304⟩
    rotate_left
    · clear hm297
      simp [E296, hT, hlt102, hg114, hlt245, hg255, hc14, hc42, hc211, hc302]
      apply gb301
      refine AWp.skip ?_
      apply nn270
      apply hk268
      refine AWp.region [] (by decide +kernel) ?_
      simp [E296, hT, hlt102, hg114, hlt245, hg255, hc14, hc42, hc211, hc302]
      obtain rfl := Option.some.inj hm304
      rw [ctlK_next] at hk258
      refine hK244 _ _ n237 (Nat.lt_succ_self _) ⟨(i238 + 1), (iadd .i64 j239 1), g6_296, g12_296, g15_296, ?_, ⟨?_, ?_, ?_, ?_, ?_, ?_, ?_, ?_, ?_, ?_, ?_, ?_, ?_, ?_, ?_, ?_⟩, (iadd_idxJ hj241 (by omega) hok224), (by omega), hk258⟩ <;> first | rfl | simp [E296, hT, hlt102, hg114, hlt245, hg255, hc14, hc42, hc211, hc302]
    clear hm297
    simp [E296, hT, hlt102, hg114, hlt245, hg255, hc14, hc42, hc211, hc302]
    apply ga300
    refine AWp.sr [] fun K305 hk306 => ?_
    simp [E296, hT, hlt102, hg114, hlt245, hg255, hc14, hc42, hc211, hc302]
    apply hk306
    refine AWp.ret ?_
    apply nr273
    apply nr236
    apply nr132
    apply nr93
    obtain rfl := Option.some.inj hm303
    rw [ctlK_ret] at hk258
    obtain rfl := Option.some.inj hk258
    rw [sumK_inr] at hmB231
    try dsimp only at hmB231
    obtain rfl := Option.some.inj hmB231
    rw [ctlK_ret] at hk117
    obtain rfl := Option.some.inj hk117
    rw [sumK_inr] at hmB88
    try dsimp only at hmB88
    obtain rfl := Option.some.inj hmB88
    simp [retQ, E296, hT, hlt102, hg114, hlt245, hg255, hc14, hc42, hc211, hc302]
  refine AWp.regionD [] false mixed (by decide +kernel) (by decide +kernel) ?_
  rcases ite_some hm292 with ⟨hc307, hm308⟩ | ⟨hc307, hm309⟩
  · clear hm292
    simp [E240, hT, hlt102, hg114, hlt245, hg255, hc14, hc42, hc211, hc307]
    refine hk295 _ _ ⟨true, g6_240, g12_240, g15_240, ?_, ⟨?_, ?_, ?_, ?_, ?_, ?_, ?_, ?_, ?_, ?_, ?_, ?_, ?_, ?_, ?_, ?_, ?_⟩, hm308⟩ <;> first | rfl | simp [E240, hT, hlt102, hg114, hlt245, hg255, hc14, hc42, hc211, hc307]
  clear hm292
  rcases ite_some hm309 with ⟨hc310, hm311⟩ | ⟨hc310, hm312⟩
  · clear hm309
    simp [E240, hT, hlt102, hg114, hlt245, hg255, hc14, hc42, hc211, hc307, hc310]
    refine hk295 _ _ ⟨true, g6_240, g12_240, g15_240, ?_, ⟨?_, ?_, ?_, ?_, ?_, ?_, ?_, ?_, ?_, ?_, ?_, ?_, ?_, ?_, ?_, ?_, ?_⟩, hm311⟩ <;> first | rfl | simp [E240, hT, hlt102, hg114, hlt245, hg255, hc14, hc42, hc211, hc307, hc310]
  clear hm309
  obtain ⟨x313, hx314, hm315⟩ := bind1_some hm312
  clear hm312
  try dsimp only at hm315
  simp [E240, hT, hlt102, hg114, hlt245, hg255, hc14, hc42, hc211, hc307, hc310]
  refine CallAtD.fn (r_ref02_Same T hx314) (by simp) ?_
  rcases ite_some hm315 with ⟨hc316, hm317⟩ | ⟨hc316, hm318⟩
  rotate_left
  · clear hm315
    simp [E240, hT, hlt102, hg114, hlt245, hg255, hc14, hc42, hc211, hc307, hc310, hc316]
    refine hk295 _ _ ⟨true, g6_240, g12_240, g15_240, ?_, ⟨?_, ?_, ?_, ?_, ?_, ?_, ?_, ?_, ?_, ?_, ?_, ?_, ?_, ?_, ?_, ?_, ?_⟩, hm318⟩ <;> first | rfl | simp [E240, hT, hlt102, hg114, hlt245, hg255, hc14, hc42, hc211, hc307, hc310, hc316]
  clear hm315
  obtain ⟨x319, hx320, hm321⟩ := bind1_some hm317
  clear hm317
  try dsimp only at hm321
  simp [E240, hT, hlt102, hg114, hlt245, hg255, hc14, hc42, hc211, hc307, hc310, hc316]
  refine CallAtD.fn (r_reduce_Match T hT hx320) (by simp) ?_
  obtain ⟨x322, hx323, hm324⟩ := bind1_some hm321
  clear hm321
  try dsimp only at hm324
  simp [E240, hT, hlt102, hg114, hlt245, hg255, hc14, hc42, hc211, hc307, hc310, hc316]
  refine CallAtD.fn (r_ref04_Match T hx323) (by simp) ?_
  rcases ite_some hm324 with ⟨hc325, hm326⟩ | ⟨hc325, hm327⟩
  · clear hm324
    simp [E240, hT, hlt102, hg114, hlt245, hg255, hc14, hc42, hc211, hc307, hc310, hc316, hc325]
    refine hk295 _ _ ⟨true, g6_240, g12_240, g15_240, ?_, ⟨?_, ?_, ?_, ?_, ?_, ?_, ?_, ?_, ?_, ?_, ?_, ?_, ?_, ?_, ?_, ?_, ?_⟩, hm326⟩ <;> first | rfl | simp [E240, hT, hlt102, hg114, hlt245, hg255, hc14, hc42, hc211, hc307, hc310, hc316, hc325]
  clear hm324
  obtain ⟨x328, hx329, hm330⟩ := bind1_some hm327
  clear hm327
  try dsimp only at hm330
  simp [E240, hT, hlt102, hg114, hlt245, hg255, hc14, hc42, hc211, hc307, hc310, hc316, hc325]
  refine CallAtD.fn (r_reduce_Match T hT hx329) (by simp) ?_
  obtain ⟨x331, hx332, hm333⟩ := bind1_some hm330
  clear hm330
  try dsimp only at hm333
  simp [E240, hT, hlt102, hg114, hlt245, hg255, hc14, hc42, hc211, hc307, hc310, hc316, hc325]
  refine CallAtD.fn (r_ref04_Match T hx332) (by simp) ?_
  simp [E240, hT, hlt102, hg114, hlt245, hg255, hc14, hc42, hc211, hc307, hc310, hc316, hc325]
  refine hk295 _ _ ⟨(ine x328 x331), g6_240, g12_240, g15_240, ?_, ⟨?_, ?_, ?_, ?_, ?_, ?_, ?_, ?_, ?_, ?_, ?_, ?_, ?_, ?_, ?_, ?_, ?_⟩, hm333⟩ <;> first | rfl | simp [E240, hT, hlt102, hg114, hlt245, hg255, hc14, hc42, hc211, hc307, hc310, hc316, hc325]

end Go.Proofs.YtnabbjnhemmkhaaDoor
