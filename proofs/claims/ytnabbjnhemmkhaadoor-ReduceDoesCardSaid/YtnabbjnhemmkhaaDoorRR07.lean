/- The program's functions do what the models say. -/
import Derived.Test.YtnabbjnhemmkhaaDoorRR06
import Derived.Test.YtnabbjnhemmkhaaDoorRM
set_option maxRecDepth 20000
set_option maxHeartbeats 4000000
set_option linter.unusedSimpArgs false
set_option linter.unusedVariables false
namespace Go.Proofs.YtnabbjnhemmkhaaDoor
open Go Go.Abs Go.Mdl

theorem enters88 : entersB Tryd.prog 88 = true := by kernel_rfl

theorem r_ref03_below (T : Tabs) {H : Heap} {a0 : Tm} {r0 : Int} (hm : ref03_below a0 = some r0) : ACall Tryd.prog T 88 [Tm.av a0] H (AV.sc (.int .i64 r0)) H := by
  rw [ref03_below] at hm
  refine ACallP.intro (fn := Tryd.f88) Tryd.func88 rfl enters88 (Nat.le_of_ble_eq_true rfl) ?_
  refine AWp.sr [] fun K1 hk2 => ?_
  simp
  apply hk2
  refine AWp.seqK fun K3 hk4 => ?_
  refine AWp.sr [] fun K5 hk6 => ?_
  simp
  apply hk6
  refine AWp.condK fun A7 B8 ga9 gb10 => ?_
  rcases ite_some hm with ⟨hc11, hm12⟩ | ⟨hc11, hm13⟩
  · clear hm
    simp [hc11]
    apply ga9
    refine AWp.sr [] fun K14 hk15 => ?_
    simp [hc11]
    apply hk15
    refine AWp.ret ?_
    obtain rfl := Option.some.inj hm12
    simp [retQ, hc11]
  clear hm
  simp [hc11]
  apply gb10
  refine AWp.skip ?_
  apply hk4
  refine AWp.sr [] fun K16 hk17 => ?_
  simp [hc11]
  apply hk17
  refine AWp.ret ?_
  obtain rfl := Option.some.inj hm13
  simp [retQ, hc11]

theorem enters104 : entersB Tryd.prog 104 = true := by kernel_rfl

theorem rg_tree_SameType (T : Tabs) : ∀ (n : Nat), (∀ {H : Heap} {a0 : Ty} {a1 : Ty} {r0 : Bool} (hm : tree_SameType n a0 a1 = some r0), ACall Tryd.prog T 104 [Ty.av a0, Ty.av a1] H (AV.sc (.bool r0)) H) := by
  intro n
  induction n with
  | zero =>
    skip
    all_goals
      intros
      rename_i hm
      cases hm
  | succ n ih =>
    intro H a0 a1 r0 hm
    rw [tree_SameType] at hm
    refine ACallP.intro (fn := Tryd.f104) Tryd.func104 rfl enters104 (Nat.le_of_ble_eq_true rfl) ?_
    refine AWp.sr [] fun K1 hk2 => ?_
    simp
    apply hk2
    refine AWp.seqK fun K3 hk4 => ?_
    refine AWp.seqP (fun fr h => ∃ (g2_8 : Nat) (g3_8 : Nat), H = h ∧ (fr.env 2 = AV.lptr 2 g2_8 0 ∧ fr.env 3 = AV.lptr 3 g3_8 0 ∧ fr.env 20 = AV.sc (.bool (sel (ine a0.kind a1.kind) true (ine (llen a0.args) (llen a1.args)))) ∧ fr.gen 2 = g2_8 ∧ fr.box 2 = some [AV.sc (.int .i64 a0.kind), AV.slice .frz (List.map Ty.av a0.args)] ∧ fr.gen 3 = g3_8 ∧ fr.box 3 = some [AV.sc (.int .i64 a1.kind), AV.slice .frz (List.map Ty.av a1.args)])) (fun K5 hk6 => ?_) ?_
    · refine AWp.region [] (by decide +kernel) ?_
      rcases Bool.eq_false_or_eq_true (ine a0.kind a1.kind) with hc7 | hc7
      · simp [hc7]
        refine hk6 _ _ ⟨1, 1, ?_, ⟨?_, ?_, ?_, ?_, ?_, ?_, ?_⟩⟩ <;> first | rfl | simp [hc7]
      simp [hc7]
      refine hk6 _ _ ⟨1, 1, ?_, ⟨?_, ?_, ?_, ?_, ?_, ?_, ?_⟩⟩ <;> first | rfl | simp [hc7]
    rintro fr8 h8 ⟨g2_8, g3_8, rfl, E8⟩
    refine AWp.condK fun A9 B10 ga11 gb12 => ?_
    rcases ite_some hm with ⟨hc13, hm14⟩ | ⟨hc13, hm15⟩
    · clear hm
      simp [E8, hc13]
      apply ga11
      refine AWp.sr [] fun K16 hk17 => ?_
      simp [E8, hc13]
      apply hk17
      refine AWp.ret ?_
      obtain rfl := Option.some.inj hm14
      simp [retQ, E8, hc13]
    clear hm
    simp [E8, hc13]
    apply gb12
    refine AWp.skip ?_
    apply hk4
    refine AWp.seqK fun K18 hk19 => ?_
    refine AWp.sr [] fun K20 hk21 => ?_
    simp [E8, hc13]
    apply hk21
    obtain ⟨hok22, hm23⟩ := chk_some hm15
    clear hm15
    obtain ⟨F24, hF25, hm26⟩ := joinB_some hm23
    clear hm23
    try dsimp only at hm26
    obtain ⟨out27, hl28, hmB29⟩ := bind1_some hm26
    clear hm26
    refine AWp.blockK fun Q30 nn31 ne32 nx33 nr34 => ?_
    refine AWp.loopF (fun n35 fr h => ∃ (i36 : Nat) (j37 : Int) (g3_38 : Nat), H = h ∧ (fr.env 3 = AV.lptr 3 g3_38 0 ∧ fr.env 22 = AV.slice .frz (List.map Ty.av a0.args) ∧ fr.env 23 = AV.sc (.int .i64 (llen a0.args)) ∧ fr.env 24 = AV.sc (.int .i64 j37) ∧ fr.gen 3 = g3_38 ∧ fr.box 3 = some [AV.sc (.int .i64 a1.kind), AV.slice .frz (List.map Ty.av a1.args)]) ∧ j37 = (i36 : Int) ∧ i36 + n35 = List.length a0.args ∧ forR F24 (List.drop i36 a0.args) i36 () = some out27) (List.length a0.args) ?_ ?_
    · refine ⟨0, 0, g3_8, ?_, ⟨?_, ?_, ?_, ?_, ?_, ?_⟩, rfl, (by simp), hl28⟩ <;> first | rfl | simp [E8, hc13]
    rintro n35 fr38 h38 ⟨i36, j37, g3_38, rfl, E38, hj39, hi40, hl28⟩ K41 hK42
    rcases n35 with _ | n35
    · have hlt43 := ilt_notJ (l := a0.args) hj39 (by omega)
      refine AWp.sr [] fun K44 hk45 => ?_
      simp [E38, hlt43, hc13]
      apply hk45
      refine AWp.seqK fun K46 hk47 => ?_
      refine AWp.condK fun A48 B49 ga50 gb51 => ?_
      simp [E38, hlt43, hc13]
      apply gb51
      refine AWp.exit ?_
      apply ne32
      rw [List.drop_eq_nil_of_le (by omega), forR_nil] at hl28
      obtain rfl := Option.some.inj hl28
      rw [sumK_inl] at hmB29
      try dsimp only at hmB29
      apply hk19
      refine AWp.sr [] fun K52 hk53 => ?_
      simp [E38, hlt43, hc13]
      apply hk53
      refine AWp.ret ?_
      obtain rfl := Option.some.inj hmB29
      simp [retQ, E38, hlt43, hc13]
    have hlt43 := ilt_ofJ (l := a0.args) hj39 (by omega)
    obtain ⟨x54, hdn35, hg55⟩ := drop_ltJ (l := a0.args) hj39 (by omega)
    rw [hdn35, forR_cons] at hl28
    obtain ⟨c56, hb57, hk58⟩ := bind1_some hl28
    clear hl28
    rw [hF25, ← hj39] at hb57
    try dsimp only at hb57
    refine AWp.sr [] fun K59 hk60 => ?_
    simp [E38, hlt43, hg55, hc13]
    apply hk60
    refine AWp.seqK fun K61 hk62 => ?_
    refine AWp.condK fun A63 B64 ga65 gb66 => ?_
    simp [E38, hlt43, hg55, hc13]
    apply ga65
    refine AWp.skip ?_
    apply hk62
    refine AWp.seqK fun K67 hk68 => ?_
    refine AWp.blockK fun Q69 nn70 ne71 nx72 nr73 => ?_
    refine AWp.sr [] fun K74 hk75 => ?_
    simp [E38, hlt43, hg55, hc13]
    apply hk75
    refine AWp.seqK fun K76 hk77 => ?_
    refine AWp.regionD [] false mixed (by decide +kernel) (by decide +kernel) ?_
    obtain ⟨x78, hx79, hm80⟩ := bind1_some hb57
    clear hb57
    try dsimp only at hm80
    obtain ⟨x81, hx82, hm83⟩ := bind1_some hm80
    clear hm80
    try dsimp only at hm83
    simp [E38, hlt43, hg55, hx79, hc13]
    refine CallAtD.fn (ih hx82) (by simp) ?_
    simp [E38, hlt43, hg55, hx79, hc13]
    apply hk77
    refine AWp.condK fun A84 B85 ga86 gb87 => ?_
    rcases ite_some hm83 with ⟨hc88, hm89⟩ | ⟨hc88, hm90⟩
    rotate_left
    · clear hm83
      simp [E38, hlt43, hg55, hx79, hc13, hc88]
      apply ga86
      refine AWp.sr [] fun K91 hk92 => ?_
      simp [E38, hlt43, hg55, hx79, hc13, hc88]
      apply hk92
      refine AWp.ret ?_
      apply nr73
      apply nr34
      obtain rfl := Option.some.inj hm90
      rw [ctlK_ret] at hk58
      obtain rfl := Option.some.inj hk58
      rw [sumK_inr] at hmB29
      try dsimp only at hmB29
      obtain rfl := Option.some.inj hmB29
      simp [retQ, E38, hlt43, hg55, hx79, hc13, hc88]
    clear hm83
    simp [E38, hlt43, hg55, hx79, hc13, hc88]
    apply gb87
    refine AWp.skip ?_
    apply nn70
    apply hk68
    refine AWp.region [] (by decide +kernel) ?_
    simp [E38, hlt43, hg55, hx79, hc13, hc88]
    obtain rfl := Option.some.inj hm89
    rw [ctlK_next] at hk58
    refine hK42 _ _ n35 (Nat.lt_succ_self _) ⟨(i36 + 1), (iadd .i64 j37 1), g3_38, ?_, ⟨?_, ?_, ?_, ?_, ?_, ?_⟩, (iadd_idxJ hj39 (by omega) hok22), (by omega), hk58⟩ <;> first | rfl | simp [E38, hlt43, hg55, hx79, hc13, hc88]
theorem r_tree_SameType (T : Tabs) {H : Heap} {a0 : Ty} {a1 : Ty} {r0 : Bool} {n : Nat} (hm : tree_SameType n a0 a1 = some r0) : ACall Tryd.prog T 104 [Ty.av a0, Ty.av a1] H (AV.sc (.bool r0)) H := (rg_tree_SameType T n) hm

theorem enters89 : entersB Tryd.prog 89 = true := by kernel_rfl

theorem rg_tree_SameTerm (T : Tabs) : ∀ (n : Nat), (∀ {H : Heap} {a0 : Tm} {a1 : Tm} {r0 : Bool} (hm : tree_SameTerm n a0 a1 = some r0), ACall Tryd.prog T 89 [Tm.av a0, Tm.av a1] H (AV.sc (.bool r0)) H) := by
  intro n
  induction n with
  | zero =>
    skip
    all_goals
      intros
      rename_i hm
      cases hm
  | succ n ih =>
    intro H a0 a1 r0 hm
    rw [tree_SameTerm] at hm
    refine ACallP.intro (fn := Tryd.f89) Tryd.func89 rfl enters89 (Nat.le_of_ble_eq_true rfl) ?_
    refine AWp.sr [] fun K1 hk2 => ?_
    simp
    apply hk2
    refine AWp.seqK fun K3 hk4 => ?_
    obtain ⟨j5, hj6, hm7⟩ := joinB_some hm
    clear hm
    refine AWp.seqP (fun fr h => ∃ (v8 : Bool) (g2_23 : Nat) (g3_23 : Nat), H = h ∧ (fr.env 2 = AV.lptr 2 g2_23 0 ∧ fr.env 3 = AV.lptr 3 g3_23 0 ∧ fr.env 35 = AV.sc (.bool v8) ∧ fr.gen 2 = g2_23 ∧ fr.box 2 = some [AV.sc (.int .i64 a0.kind), AV.sc (.int .i64 a0.index), AV.sc (.int .i64 a0.typeF.kind), AV.slice .frz (List.map Ty.av a0.typeF.args), AV.slice .frz (List.map Tm.av a0.args)] ∧ fr.gen 3 = g3_23 ∧ fr.box 3 = some [AV.sc (.int .i64 a1.kind), AV.sc (.int .i64 a1.index), AV.sc (.int .i64 a1.typeF.kind), AV.slice .frz (List.map Ty.av a1.typeF.args), AV.slice .frz (List.map Tm.av a1.args)]) ∧ j5 v8 = some r0) (fun K9 hk10 => ?_) ?_
    · refine AWp.region [] (by decide +kernel) ?_
      rcases ite_some hm7 with ⟨hc11, hm12⟩ | ⟨hc11, hm13⟩
      · clear hm7
        simp [hc11]
        refine hk10 _ _ ⟨true, 1, 1, ?_, ⟨?_, ?_, ?_, ?_, ?_, ?_, ?_⟩, hm12⟩ <;> first | rfl | simp [hc11]
      clear hm7
      rcases ite_some hm13 with ⟨hc14, hm15⟩ | ⟨hc14, hm16⟩
      · clear hm13
        simp [hc11, hc14]
        refine hk10 _ _ ⟨true, 1, 1, ?_, ⟨?_, ?_, ?_, ?_, ?_, ?_, ?_⟩, hm15⟩ <;> first | rfl | simp [hc11, hc14]
      clear hm13
      obtain ⟨x17, hx18, hm19⟩ := bind1_some hm16
      clear hm16
      try dsimp only at hm19
      simp [hc11, hc14]
      refine CallAt.fn (r_tree_SameType T hx18) ?_
      rcases ite_some hm19 with ⟨hc20, hm21⟩ | ⟨hc20, hm22⟩
      rotate_left
      · clear hm19
        simp [hc11, hc14, hc20]
        refine hk10 _ _ ⟨true, 1, 1, ?_, ⟨?_, ?_, ?_, ?_, ?_, ?_, ?_⟩, hm22⟩ <;> first | rfl | simp [hc11, hc14, hc20]
      clear hm19
      simp [hc11, hc14, hc20]
      refine hk10 _ _ ⟨(ine (llen a0.args) (llen a1.args)), 1, 1, ?_, ⟨?_, ?_, ?_, ?_, ?_, ?_, ?_⟩, hm21⟩ <;> first | rfl | simp [hc11, hc14, hc20]
    clear hm7
    rintro fr23 h23 ⟨v8, g2_23, g3_23, rfl, E23, hm24⟩
    subst hj6
    refine AWp.condK fun A25 B26 ga27 gb28 => ?_
    rcases ite_some hm24 with ⟨hc29, hm30⟩ | ⟨hc29, hm31⟩
    · clear hm24
      simp [E23, hc29]
      apply ga27
      refine AWp.sr [] fun K32 hk33 => ?_
      simp [E23, hc29]
      apply hk33
      refine AWp.ret ?_
      obtain rfl := Option.some.inj hm30
      simp [retQ, E23, hc29]
    clear hm24
    simp [E23, hc29]
    apply gb28
    refine AWp.skip ?_
    apply hk4
    refine AWp.seqK fun K34 hk35 => ?_
    refine AWp.sr [] fun K36 hk37 => ?_
    simp [E23, hc29]
    apply hk37
    obtain ⟨hok38, hm39⟩ := chk_some hm31
    clear hm31
    obtain ⟨F40, hF41, hm42⟩ := joinB_some hm39
    clear hm39
    try dsimp only at hm42
    obtain ⟨out43, hl44, hmB45⟩ := bind1_some hm42
    clear hm42
    refine AWp.blockK fun Q46 nn47 ne48 nx49 nr50 => ?_
    refine AWp.loopF (fun n51 fr h => ∃ (i52 : Nat) (j53 : Int) (g3_54 : Nat), H = h ∧ (fr.env 3 = AV.lptr 3 g3_54 0 ∧ fr.env 37 = AV.slice .frz (List.map Tm.av a0.args) ∧ fr.env 38 = AV.sc (.int .i64 (llen a0.args)) ∧ fr.env 39 = AV.sc (.int .i64 j53) ∧ fr.gen 3 = g3_54 ∧ fr.box 3 = some [AV.sc (.int .i64 a1.kind), AV.sc (.int .i64 a1.index), AV.sc (.int .i64 a1.typeF.kind), AV.slice .frz (List.map Ty.av a1.typeF.args), AV.slice .frz (List.map Tm.av a1.args)]) ∧ j53 = (i52 : Int) ∧ i52 + n51 = List.length a0.args ∧ forR F40 (List.drop i52 a0.args) i52 () = some out43) (List.length a0.args) ?_ ?_
    · refine ⟨0, 0, g3_23, ?_, ⟨?_, ?_, ?_, ?_, ?_, ?_⟩, rfl, (by simp), hl44⟩ <;> first | rfl | simp [E23, hc29]
    rintro n51 fr54 h54 ⟨i52, j53, g3_54, rfl, E54, hj55, hi56, hl44⟩ K57 hK58
    rcases n51 with _ | n51
    · have hlt59 := ilt_notJ (l := a0.args) hj55 (by omega)
      refine AWp.sr [] fun K60 hk61 => ?_
      simp [E54, hlt59, hc29]
      apply hk61
      refine AWp.seqK fun K62 hk63 => ?_
      refine AWp.condK fun A64 B65 ga66 gb67 => ?_
      simp [E54, hlt59, hc29]
      apply gb67
      refine AWp.exit ?_
      apply ne48
      rw [List.drop_eq_nil_of_le (by omega), forR_nil] at hl44
      obtain rfl := Option.some.inj hl44
      rw [sumK_inl] at hmB45
      try dsimp only at hmB45
      apply hk35
      refine AWp.sr [] fun K68 hk69 => ?_
      simp [E54, hlt59, hc29]
      apply hk69
      refine AWp.ret ?_
      obtain rfl := Option.some.inj hmB45
      simp [retQ, E54, hlt59, hc29]
    have hlt59 := ilt_ofJ (l := a0.args) hj55 (by omega)
    obtain ⟨x70, hdn51, hg71⟩ := drop_ltJ (l := a0.args) hj55 (by omega)
    rw [hdn51, forR_cons] at hl44
    obtain ⟨c72, hb73, hk74⟩ := bind1_some hl44
    clear hl44
    rw [hF41, ← hj55] at hb73
    try dsimp only at hb73
    refine AWp.sr [] fun K75 hk76 => ?_
    simp [E54, hlt59, hg71, hc29]
    apply hk76
    refine AWp.seqK fun K77 hk78 => ?_
    refine AWp.condK fun A79 B80 ga81 gb82 => ?_
    simp [E54, hlt59, hg71, hc29]
    apply ga81
    refine AWp.skip ?_
    apply hk78
    refine AWp.seqK fun K83 hk84 => ?_
    refine AWp.blockK fun Q85 nn86 ne87 nx88 nr89 => ?_
    refine AWp.sr [] fun K90 hk91 => ?_
    simp [E54, hlt59, hg71, hc29]
    apply hk91
    refine AWp.seqK fun K92 hk93 => ?_
    refine AWp.regionD [] false mixed (by decide +kernel) (by decide +kernel) ?_
    obtain ⟨x94, hx95, hm96⟩ := bind1_some hb73
    clear hb73
    try dsimp only at hm96
    obtain ⟨x97, hx98, hm99⟩ := bind1_some hm96
    clear hm96
    try dsimp only at hm99
    simp [E54, hlt59, hg71, hx95, hc29]
    refine CallAtD.fn (ih hx98) (by simp) ?_
    simp [E54, hlt59, hg71, hx95, hc29]
    apply hk93
    refine AWp.condK fun A100 B101 ga102 gb103 => ?_
    rcases ite_some hm99 with ⟨hc104, hm105⟩ | ⟨hc104, hm106⟩
    rotate_left
    · clear hm99
      simp [E54, hlt59, hg71, hx95, hc29, hc104]
      apply ga102
      refine AWp.sr [] fun K107 hk108 => ?_
      simp [E54, hlt59, hg71, hx95, hc29, hc104]
      apply hk108
      refine AWp.ret ?_
      apply nr89
      apply nr50
      obtain rfl := Option.some.inj hm106
      rw [ctlK_ret] at hk74
      obtain rfl := Option.some.inj hk74
      rw [sumK_inr] at hmB45
      try dsimp only at hmB45
      obtain rfl := Option.some.inj hmB45
      simp [retQ, E54, hlt59, hg71, hx95, hc29, hc104]
    clear hm99
    simp [E54, hlt59, hg71, hx95, hc29, hc104]
    apply gb103
    refine AWp.skip ?_
    apply nn86
    apply hk84
    refine AWp.region [] (by decide +kernel) ?_
    simp [E54, hlt59, hg71, hx95, hc29, hc104]
    obtain rfl := Option.some.inj hm105
    rw [ctlK_next] at hk74
    refine hK58 _ _ n51 (Nat.lt_succ_self _) ⟨(i52 + 1), (iadd .i64 j53 1), g3_54, ?_, ⟨?_, ?_, ?_, ?_, ?_, ?_⟩, (iadd_idxJ hj55 (by omega) hok38), (by omega), hk74⟩ <;> first | rfl | simp [E54, hlt59, hg71, hx95, hc29, hc104]
theorem r_tree_SameTerm (T : Tabs) {H : Heap} {a0 : Tm} {a1 : Tm} {r0 : Bool} {n : Nat} (hm : tree_SameTerm n a0 a1 = some r0) : ACall Tryd.prog T 89 [Tm.av a0, Tm.av a1] H (AV.sc (.bool r0)) H := (rg_tree_SameTerm T n) hm

theorem enters63 : entersB Tryd.prog 63 = true := by kernel_rfl

theorem r_terms_Same (T : Tabs) {H : Heap} {a0 : Tm} {a1 : Tm} {r0 : Bool} (hm : terms_Same a0 a1 = some r0) : ACall Tryd.prog T 63 [Tm.av a0, Tm.av a1] H (AV.sc (.bool r0)) H := by
  rw [terms_Same] at hm
  refine ACallP.intro (fn := Tryd.f63) Tryd.func63 rfl enters63 (Nat.le_of_ble_eq_true rfl) ?_
  refine AWp.sr [] fun K1 hk2 => ?_
  simp
  apply hk2
  refine AWp.sr [] fun K3 hk4 => ?_
  obtain ⟨x5, hx6, hm7⟩ := bind1_some hm
  clear hm
  try dsimp only at hm7
  simp
  refine CallAt.fn (r_tree_SameTerm T hx6) ?_
  simp
  apply hk4
  refine AWp.ret ?_
  obtain rfl := Option.some.inj hm7
  simp [retQ]

end Go.Proofs.YtnabbjnhemmkhaaDoor
