/- The program's functions do what the models say. -/
import Derived.Test.YtnabbjnhemmkhaaDoorRR03
import Derived.Test.YtnabbjnhemmkhaaDoorRM
set_option maxRecDepth 20000
set_option maxHeartbeats 4000000
set_option linter.unusedSimpArgs false
set_option linter.unusedVariables false
namespace Go.Proofs.YtnabbjnhemmkhaaDoor
open Go Go.Abs Go.Mdl

theorem enters18 : entersB Tryd.prog 18 = true := by kernel_rfl

theorem rg_ref02_Same (T : Tabs) : ∀ (n : Nat), (∀ {H : Heap} {a0 : Tm} {a1 : Tm} {r0 : Bool} (hm : ref02_Same n a0 a1 = some r0), ACall Tryd.prog T 18 [Tm.av a0, Tm.av a1] H (AV.sc (.bool r0)) H) := by
  intro n
  induction n with
  | zero =>
    skip
    all_goals
      intros
      rename_i hm
      cases hm
  | succ n ih =>
    intro H a0 a1 r0 hm
    rw [ref02_Same] at hm
    refine ACallP.intro (fn := Tryd.f18) Tryd.func18 rfl enters18 (Nat.le_of_ble_eq_true rfl) ?_
    refine AWp.sr [] fun K1 hk2 => ?_
    simp
    apply hk2
    refine AWp.seqK fun K3 hk4 => ?_
    obtain ⟨j5, hj6, hm7⟩ := joinB_some hm
    clear hm
    refine AWp.seqP (fun fr h => ∃ (v8 : Bool) (g2_23 : Nat) (g3_23 : Nat), H = h ∧ (fr.env 2 = AV.lptr 2 g2_23 0 ∧ fr.env 3 = AV.lptr 3 g3_23 0 ∧ fr.env 34 = AV.sc (.bool v8) ∧ fr.gen 2 = g2_23 ∧ fr.box 2 = some [AV.sc (.int .i64 a0.kind), AV.sc (.int .i64 a0.index), AV.sc (.int .i64 a0.typeF.kind), AV.slice .frz (List.map Ty.av a0.typeF.args), AV.slice .frz (List.map Tm.av a0.args)] ∧ fr.gen 3 = g3_23 ∧ fr.box 3 = some [AV.sc (.int .i64 a1.kind), AV.sc (.int .i64 a1.index), AV.sc (.int .i64 a1.typeF.kind), AV.slice .frz (List.map Ty.av a1.typeF.args), AV.slice .frz (List.map Tm.av a1.args)]) ∧ j5 v8 = some r0) (fun K9 hk10 => ?_) ?_
    · refine AWp.region [] (by decide +kernel) ?_
      rcases ite_some hm7 with ⟨hc11, hm12⟩ | ⟨hc11, hm13⟩
      · clear hm7
        simp [hc11]
        refine hk10 _ _ ⟨true, 1, 1, ?_, ⟨?_, ?_, ?_, ?_, ?_, ?_, ?_⟩, hm12⟩ <;> first | rfl | simp [hc11]
      clear hm7
      rcases ite_some hm13 with ⟨hc14, hm15⟩ | ⟨hc14, hm16⟩
      · clear hm13
        simp [hc11, hc14]
        refine hk10 _ _ ⟨true, 1, 1, ?_, ⟨?_, ?_, ?_, ?_, ?_, ?_, ?_⟩, hm15⟩ <;> first | rfl | simp [hc11, hc14]
      clear hm13
      obtain ⟨x17, hx18, hm19⟩ := bind1_some hm16
      clear hm16
      try dsimp only at hm19
      simp [hc11, hc14]
      refine CallAt.fn (r_ref01_Same T hx18) ?_
      rcases ite_some hm19 with ⟨hc20, hm21⟩ | ⟨hc20, hm22⟩
      rotate_left
      · clear hm19
        simp [hc11, hc14, hc20]
        refine hk10 _ _ ⟨true, 1, 1, ?_, ⟨?_, ?_, ?_, ?_, ?_, ?_, ?_⟩, hm22⟩ <;> first | rfl | simp [hc11, hc14, hc20]
      clear hm19
      simp [hc11, hc14, hc20]
      refine hk10 _ _ ⟨(ine (llen a0.args) (llen a1.args)), 1, 1, ?_, ⟨?_, ?_, ?_, ?_, ?_, ?_, ?_⟩, hm21⟩ <;> first | rfl | simp [hc11, hc14, hc20]
    clear hm7
    rintro fr23 h23 ⟨v8, g2_23, g3_23, rfl, E23, hm24⟩
    subst hj6
    refine AWp.condK fun A25 B26 ga27 gb28 => ?_
    rcases ite_some hm24 with ⟨hc29, hm30⟩ | ⟨hc29, hm31⟩
    · clear hm24
      simp [E23, hc29]
      apply ga27
      refine AWp.sr [] fun K32 hk33 => ?_
      simp [E23, hc29]
      apply hk33
      refine AWp.ret ?_
      obtain rfl := Option.some.inj hm30
      simp [retQ, E23, hc29]
    clear hm24
    simp [E23, hc29]
    apply gb28
    refine AWp.skip ?_
    apply hk4
    refine AWp.seqK fun K34 hk35 => ?_
    refine AWp.sr [] fun K36 hk37 => ?_
    simp [E23, hc29]
    apply hk37
    obtain ⟨hok38, hm39⟩ := chk_some hm31
    clear hm31
    obtain ⟨F40, hF41, hm42⟩ := joinB_some hm39
    clear hm39
    try dsimp only at hm42
    obtain ⟨out43, hl44, hmB45⟩ := bind1_some hm42
    clear hm42
    refine AWp.blockK fun Q46 nn47 ne48 nx49 nr50 => ?_
    refine AWp.loopF (fun n51 fr h => ∃ (i52 : Nat) (j53 : Int) (g2_54 : Nat) (g3_54 : Nat), H = h ∧ (fr.env 2 = AV.lptr 2 g2_54 0 ∧ fr.env 3 = AV.lptr 3 g3_54 0 ∧ fr.env 37 = AV.sc (.int .i64 (llen a0.args)) ∧ fr.env 38 = AV.sc (.int .i64 j53) ∧ fr.gen 2 = g2_54 ∧ fr.box 2 = some [AV.sc (.int .i64 a0.kind), AV.sc (.int .i64 a0.index), AV.sc (.int .i64 a0.typeF.kind), AV.slice .frz (List.map Ty.av a0.typeF.args), AV.slice .frz (List.map Tm.av a0.args)] ∧ fr.gen 3 = g3_54 ∧ fr.box 3 = some [AV.sc (.int .i64 a1.kind), AV.sc (.int .i64 a1.index), AV.sc (.int .i64 a1.typeF.kind), AV.slice .frz (List.map Ty.av a1.typeF.args), AV.slice .frz (List.map Tm.av a1.args)]) ∧ j53 = (i52 : Int) ∧ i52 + n51 = List.length a0.args ∧ forR F40 (List.drop i52 a0.args) i52 () = some out43) (List.length a0.args) ?_ ?_
    · refine ⟨0, 0, g2_23, g3_23, ?_, ⟨?_, ?_, ?_, ?_, ?_, ?_, ?_, ?_⟩, rfl, (by simp), hl44⟩ <;> first | rfl | simp [E23, hc29]
    rintro n51 fr54 h54 ⟨i52, j53, g2_54, g3_54, rfl, E54, hj55, hi56, hl44⟩ K57 hK58
    rcases n51 with _ | n51
    · have hlt59 := ilt_notJ (l := a0.args) hj55 (by omega)
      refine AWp.sr [] fun K60 hk61 => ?_
      simp [E54, hlt59, hc29]
      apply hk61
      refine AWp.seqK fun K62 hk63 => ?_
      refine AWp.condK fun A64 B65 ga66 gb67 => ?_
      simp [E54, hlt59, hc29]
      apply gb67
      refine AWp.exit ?_
      apply ne48
      rw [List.drop_eq_nil_of_le (by omega), forR_nil] at hl44
      obtain rfl := Option.some.inj hl44
      rw [sumK_inl] at hmB45
      try dsimp only at hmB45
      apply hk35
      refine AWp.sr [] fun K68 hk69 => ?_
      simp [E54, hlt59, hc29]
      apply hk69
      refine AWp.ret ?_
      obtain rfl := Option.some.inj hmB45
      simp [retQ, E54, hlt59, hc29]
    have hlt59 := ilt_ofJ (l := a0.args) hj55 (by omega)
    obtain ⟨x70, hdn51, hg71⟩ := drop_ltJ (l := a0.args) hj55 (by omega)
    rw [hdn51, forR_cons] at hl44
    obtain ⟨c72, hb73, hk74⟩ := bind1_some hl44
    clear hl44
    rw [hF41, ← hj55] at hb73
    try dsimp only at hb73
    refine AWp.sr [] fun K75 hk76 => ?_
    simp [E54, hlt59, hg71, hc29]
    apply hk76
    refine AWp.seqK fun K77 hk78 => ?_
    refine AWp.condK fun A79 B80 ga81 gb82 => ?_
    simp [E54, hlt59, hg71, hc29]
    apply ga81
    refine AWp.skip ?_
    apply hk78
    refine AWp.seqK fun K83 hk84 => ?_
    refine AWp.blockK fun Q85 nn86 ne87 nx88 nr89 => ?_
    refine AWp.sr [] fun K90 hk91 => ?_
    simp [E54, hlt59, hg71, hc29]
    apply hk91
    refine AWp.seqK fun K92 hk93 => ?_
    refine AWp.regionD [] false mixed (by decide +kernel) (by decide +kernel) ?_
    obtain ⟨x94, hx95, hm96⟩ := bind1_some hb73
    clear hb73
    try dsimp only at hm96
    obtain ⟨x97, hx98, hm99⟩ := bind1_some hm96
    clear hm96
    try dsimp only at hm99
    simp [E54, hlt59, hg71, hx95, hc29]
    refine CallAtD.fn (ih hx98) (by simp) ?_
    simp [E54, hlt59, hg71, hx95, hc29]
    apply hk93
    refine AWp.condK fun A100 B101 ga102 gb103 => ?_
    rcases ite_some hm99 with ⟨hc104, hm105⟩ | ⟨hc104, hm106⟩
    rotate_left
    · clear hm99
      simp [E54, hlt59, hg71, hx95, hc29, hc104]
      apply ga102
      refine AWp.sr [] fun K107 hk108 => ?_
      simp [E54, hlt59, hg71, hx95, hc29, hc104]
      apply hk108
      refine AWp.ret ?_
      apply nr89
      apply nr50
      obtain rfl := Option.some.inj hm106
      rw [ctlK_ret] at hk74
      obtain rfl := Option.some.inj hk74
      rw [sumK_inr] at hmB45
      try dsimp only at hmB45
      obtain rfl := Option.some.inj hmB45
      simp [retQ, E54, hlt59, hg71, hx95, hc29, hc104]
    clear hm99
    simp [E54, hlt59, hg71, hx95, hc29, hc104]
    apply gb103
    refine AWp.skip ?_
    apply nn86
    apply hk84
    refine AWp.region [] (by decide +kernel) ?_
    simp [E54, hlt59, hg71, hx95, hc29, hc104]
    obtain rfl := Option.some.inj hm105
    rw [ctlK_next] at hk74
    refine hK58 _ _ n51 (Nat.lt_succ_self _) ⟨(i52 + 1), (iadd .i64 j53 1), g2_54, g3_54, ?_, ⟨?_, ?_, ?_, ?_, ?_, ?_, ?_, ?_⟩, (iadd_idxJ hj55 (by omega) hok38), (by omega), hk74⟩ <;> first | rfl | simp [E54, hlt59, hg71, hx95, hc29, hc104]
theorem r_ref02_Same (T : Tabs) {H : Heap} {a0 : Tm} {a1 : Tm} {r0 : Bool} {n : Nat} (hm : ref02_Same n a0 a1 = some r0) : ACall Tryd.prog T 18 [Tm.av a0, Tm.av a1] H (AV.sc (.bool r0)) H := (rg_ref02_Same T n) hm

theorem enters10 : entersB Tryd.prog 10 = true := by kernel_rfl

theorem r_law04_sane (T : Tabs) (hT : T 0 = some (AV.agg (List.map (fun n => AV.sc (Value.int .i64 n)) tree_arities))) {H : Heap}  {r0 : Bool} (hm : law04_sane = some r0) : ACall Tryd.prog T 10 [] H (AV.sc (.bool r0)) H := by
  rw [law04_sane] at hm
  refine ACallP.intro (fn := Tryd.f10) Tryd.func10 rfl enters10 (Nat.le_of_ble_eq_true rfl) ?_
  refine AWp.sr [] fun K1 hk2 => ?_
  simp [hT]
  apply hk2
  refine AWp.sr [] fun K3 hk4 => ?_
  obtain ⟨x5, hx6, hm7⟩ := bind1_some hm
  clear hm
  try dsimp only at hm7
  simp [hT]
  refine CallAt.fn (r_ref01_Nat T hx6) ?_
  obtain ⟨x8, hx9, hm10⟩ := bind1_some hm7
  clear hm7
  try dsimp only at hm10
  simp [hT]
  refine CallAt.fn (r_ref02_Var T hx9) ?_
  obtain ⟨x11, hx12, hm13⟩ := bind1_some hm10
  clear hm10
  try dsimp only at hm13
  simp [hT]
  refine CallAt.fn (r_ref02_N T hx12) ?_
  obtain ⟨x14, hx15, hm16⟩ := bind1_some hm13
  clear hm13
  try dsimp only at hm16
  simp [hT]
  refine CallAt.fn (r_ref02_T T hx15) ?_
  obtain ⟨x17, hx18, hm19⟩ := bind1_some hm16
  clear hm16
  try dsimp only at hm19
  simp [hT]
  refine CallAt.fn (r_ref02_N T hx18) ?_
  obtain ⟨x20, hx21, hm22⟩ := bind1_some hm19
  clear hm19
  try dsimp only at hm22
  simp [hT]
  refine CallAt.fn (r_ref02_N T hx21) ?_
  obtain ⟨x23, x24, x25, hx26, hm27⟩ := bind3_some hm22
  clear hm22
  try dsimp only at hm27
  simp [hT]
  refine CallAt.fn (r_reduce_Step T hT hx26) ?_
  simp [hT]
  apply hk4
  obtain ⟨j28, hj29, hm30⟩ := joinB_some hm27
  clear hm27
  refine AWp.seqP (fun fr h => ∃ (v31 : Bool), H = h ∧ fr.env 0 = AV.sc (.bool v31) ∧ j28 v31 = some r0) (fun K32 hk33 => ?_) ?_
  rotate_left
  · clear hm30
    rintro fr34 h34 ⟨v31, rfl, E34, hm35⟩
    subst hj29
    refine AWp.ret ?_
    obtain rfl := Option.some.inj hm35
    simp [retQ, E34, hT]
  refine AWp.regionD [] false mixed (by decide +kernel) (by decide +kernel) ?_
  rcases ite_some hm30 with ⟨hc36, hm37⟩ | ⟨hc36, hm38⟩
  rotate_left
  · clear hm30
    simp [hT, hc36]
    refine hk33 _ _ ⟨false, ?_, ?_, hm38⟩ <;> first | rfl | simp [hT, hc36]
  clear hm30
  rcases ite_some hm37 with ⟨hc39, hm40⟩ | ⟨hc39, hm41⟩
  rotate_left
  · clear hm37
    simp [hT, hc36, hc39]
    refine hk33 _ _ ⟨false, ?_, ?_, hm41⟩ <;> first | rfl | simp [hT, hc36, hc39]
  clear hm37
  obtain ⟨x42, hx43, hm44⟩ := bind1_some hm40
  clear hm40
  try dsimp only at hm44
  simp [hT, hc36, hc39]
  refine CallAtD.fn (r_ref02_N T hx43) (by simp) ?_
  obtain ⟨x45, hx46, hm47⟩ := bind1_some hm44
  clear hm44
  try dsimp only at hm47
  simp [hT, hc36, hc39]
  refine CallAtD.fn (r_ref02_N T hx46) (by simp) ?_
  obtain ⟨x48, hx49, hm50⟩ := bind1_some hm47
  clear hm47
  try dsimp only at hm50
  simp [hT, hc36, hc39]
  refine CallAtD.fn (r_ref02_Same T hx49) (by simp) ?_
  simp [hT, hc36, hc39]
  refine hk33 _ _ ⟨x48, ?_, ?_, hm50⟩ <;> first | rfl | simp [hT, hc36, hc39]

theorem enters11 : entersB Tryd.prog 11 = true := by kernel_rfl

theorem r_mk_Few (T : Tabs) {H : Heap} {a0 : (List Int)} {r0 : Bool} (hm : mk_Few a0 = some r0) : ACall Tryd.prog T 11 [AV.slice .frz (List.map (fun n => AV.sc (Value.int .i64 n)) a0)] H (AV.sc (.bool r0)) H := by
  rw [mk_Few] at hm
  refine ACallP.intro (fn := Tryd.f11) Tryd.func11 rfl enters11 (Nat.le_of_ble_eq_true rfl) ?_
  refine AWp.sr [] fun K1 hk2 => ?_
  simp
  apply hk2
  refine AWp.sr [] fun K3 hk4 => ?_
  simp
  apply hk4
  refine AWp.ret ?_
  obtain rfl := Option.some.inj hm
  simp [retQ]

theorem enters12 : entersB Tryd.prog 12 = true := by kernel_rfl
theorem r_mk_New (T : Tabs) {a0 : List Int} {r0 : Smk_Deck} (hm : mk_New a0 = some r0) : ACall Tryd.prog T 12 [AV.slice .frz (List.map (fun n => AV.sc (Value.int .i64 n)) a0)] [] (AV.gptr 0 0) (hset [[]] 0 [AV.slice .frz (List.map (fun n => AV.sc (Value.int .i64 n)) r0.l), AV.sc (.int .i64 r0.atF)]) := by
  obtain rfl := Option.some.inj hm
  refine ACallP.intro (fn := Tryd.f12) Tryd.func12 rfl enters12 (Nat.le_of_ble_eq_true rfl) ?_
  refine AWp.seqK fun K1 hk1 => ?_
  refine AWp.region [] (by decide +kernel) ?_
  simp
  refine hk1 _ _ ?_
  refine AWp.seqK fun K1 hk1 => ?_
  refine AWp.region [5] (by decide +kernel) ?_
  simp
  refine hk1 _ _ ?_
  refine AWp.ret ?_
  simp [retQ, hset]

theorem enters33 : entersB Tryd.prog 33 = true := by kernel_rfl

theorem r_mk_Mod (T : Tabs) {H : Heap} {a0 : Int} {a1 : Int} {r0 : Int} (hm : mk_Mod a0 a1 = some r0) : ACall Tryd.prog T 33 [AV.sc (.int .i64 a0), AV.sc (.int .i64 a1)] H (AV.sc (.int .i64 r0)) H := by
  rw [mk_Mod] at hm
  refine ACallP.intro (fn := Tryd.f33) Tryd.func33 rfl enters33 (Nat.le_of_ble_eq_true rfl) ?_
  refine AWp.sr [] fun K1 hk2 => ?_
  simp
  apply hk2
  refine AWp.sr [] fun K3 hk4 => ?_
  obtain ⟨hx5, hm6⟩ := chk_some hm
  clear hm
  obtain ⟨hx7, hm8⟩ := chk_some hm6
  clear hm6
  simp [hx5, hx7]
  apply hk4
  refine AWp.ret ?_
  obtain rfl := Option.some.inj hm8
  simp [retQ, hx5, hx7]

theorem enters39 : entersB Tryd.prog 39 = true := by kernel_rfl

theorem r_mk_Deck_Next (T : Tabs) {H : Heap} {a0 : Smk_Deck} {a1 : Int} {r0 : Int} {do0 : Smk_Deck} {o0 : Nat} (ho0 : H[o0]? = some [AV.slice .frz (List.map (fun n => AV.sc (Value.int .i64 n)) a0.l), AV.sc (.int .i64 a0.atF)]) (hm : mk_Deck_Next a0 a1 = some (r0, do0)) : ACall Tryd.prog T 39 [AV.gptr o0 0, AV.sc (.int .i64 a1)] H (AV.sc (.int .i64 r0)) (hset H o0 [AV.slice .frz (List.map (fun n => AV.sc (Value.int .i64 n)) do0.l), AV.sc (.int .i64 do0.atF)]) := by
  rw [mk_Deck_Next] at hm
  have lo0 := inb_of_get ho0
  refine ACallP.at1 ho0 ?_
  refine ACallP.intro (fn := Tryd.f39) Tryd.func39 rfl enters39 (Nat.le_of_ble_eq_true rfl) ?_
  refine AWp.sr [] fun K1 hk2 => ?_
  simp [lo0]
  apply hk2
  refine AWp.seqK fun K3 hk4 => ?_
  refine AWp.seqP (fun fr h => hset H o0 [AV.slice .frz (List.map (fun n => AV.sc (Value.int .i64 n)) a0.l), AV.sc (.int .i64 a0.atF)] = h ∧ (fr.env 0 = AV.gptr o0 0 ∧ fr.env 1 = AV.sc (.int .i64 a1) ∧ fr.env 19 = AV.sc (.bool (sel (ilt a1 1) true (ige a0.atF (llen a0.l)))))) (fun K5 hk6 => ?_) ?_
  · refine AWp.regionD [] true mixed (by decide +kernel) (by decide +kernel) ?_
    rcases Bool.eq_false_or_eq_true (ilt a1 1) with hc7 | hc7
    · simp [lo0, hc7]
      refine hk6 _ _ ⟨?_, ⟨?_, ?_, ?_⟩⟩ <;> first | rfl | simp [lo0, hc7]
    simp [lo0, hc7]
    refine hk6 _ _ ⟨?_, ⟨?_, ?_, ?_⟩⟩ <;> first | rfl | simp [lo0, hc7]
  rintro fr8 h8 ⟨rfl, E8⟩
  refine AWp.condK fun A9 B10 ga11 gb12 => ?_
  rcases ite_some hm with ⟨hc13, hm14⟩ | ⟨hc13, hm15⟩
  · clear hm
    simp [E8, lo0, hc13]
    apply ga11
    refine AWp.sr [] fun K16 hk17 => ?_
    simp [E8, lo0, hc13]
    apply hk17
    refine AWp.ret ?_
    simp only [Option.some.injEq, Prod.mk.injEq] at hm14
    obtain ⟨rfl, rfl⟩ := hm14
    simp [retQ, E8, lo0, hc13]
  clear hm
  simp [E8, lo0, hc13]
  apply gb12
  refine AWp.skip ?_
  apply hk4
  refine AWp.seqK fun K18 hk19 => ?_
  refine AWp.regionD [] true mixed (by decide +kernel) (by decide +kernel) ?_
  obtain ⟨x20, hx21, hm22⟩ := bind1_some hm15
  clear hm15
  try dsimp only at hm22
  simp [E8, lo0, hx21, hc13]
  apply hk19
  refine AWp.sr [] fun K23 hk24 => ?_
  simp [E8, lo0, hx21, hc13]
  apply hk24
  refine AWp.sr [] fun K25 hk26 => ?_
  obtain ⟨x27, hx28, hm29⟩ := bind1_some hm22
  clear hm22
  try dsimp only at hm29
  simp [E8, lo0, hx21, hc13]
  refine CallAt.fn (r_mk_Mod T hx28) ?_
  simp [E8, lo0, hx21, hc13]
  apply hk26
  refine AWp.ret ?_
  simp only [Option.some.injEq, Prod.mk.injEq] at hm29
  obtain ⟨rfl, rfl⟩ := hm29
  simp [retQ, E8, lo0, hx21, hc13]

theorem enters40 : entersB Tryd.prog 40 = true := by kernel_rfl

theorem r_ref01_List (T : Tabs) {H : Heap}  {r0 : Ty} (hm : ref01_List = some r0) : ACall Tryd.prog T 40 [] H (Ty.av r0) H := by
  rw [ref01_List] at hm
  refine ACallP.intro (fn := Tryd.f40) Tryd.func40 rfl enters40 (Nat.le_of_ble_eq_true rfl) ?_
  refine AWp.sr [] fun K1 hk2 => ?_
  simp
  apply hk2
  refine AWp.sr [] fun K3 hk4 => ?_
  simp
  apply hk4
  refine AWp.ret ?_
  obtain rfl := Option.some.inj hm
  simp [retQ]

theorem enters41 : entersB Tryd.prog 41 = true := by kernel_rfl

theorem r_ref01_Unit (T : Tabs) {H : Heap}  {r0 : Ty} (hm : ref01_Unit = some r0) : ACall Tryd.prog T 41 [] H (Ty.av r0) H := by
  rw [ref01_Unit] at hm
  refine ACallP.intro (fn := Tryd.f41) Tryd.func41 rfl enters41 (Nat.le_of_ble_eq_true rfl) ?_
  refine AWp.sr [] fun K1 hk2 => ?_
  simp
  apply hk2
  refine AWp.sr [] fun K3 hk4 => ?_
  simp
  apply hk4
  refine AWp.ret ?_
  obtain rfl := Option.some.inj hm
  simp [retQ]

theorem enters42 : entersB Tryd.prog 42 = true := by kernel_rfl

theorem r_ref01_Two (T : Tabs) {H : Heap} {a0 : Ty} {a1 : Ty} {r0 : Ty} (hm : ref01_Two a0 a1 = some r0) : ACall Tryd.prog T 42 [Ty.av a0, Ty.av a1] H (Ty.av r0) H := by
  rw [ref01_Two] at hm
  refine ACallP.intro (fn := Tryd.f42) Tryd.func42 rfl enters42 (Nat.le_of_ble_eq_true rfl) ?_
  refine AWp.sr [] fun K1 hk2 => ?_
  simp
  apply hk2
  refine AWp.seqK fun K3 hk4 => ?_
  refine AWp.regionD [] false mixed (by decide +kernel) (by decide +kernel) ?_
  obtain ⟨x5, hx6, hm7⟩ := bind1_some hm
  clear hm
  try dsimp only at hm7
  simp
  refine CallAtD.fn (r_ref01_Copy T hx6) (by simp) ?_
  obtain ⟨x8, hx9, hm10⟩ := bind1_some hm7
  clear hm7
  try dsimp only at hm10
  simp
  refine CallAtD.fn (r_ref01_Copy T hx9) (by simp) ?_
  simp
  apply hk4
  refine AWp.ret ?_
  have hf11 : AV.agg [AV.sc (.int .i64 3), AV.slice .frz [Ty.av x5, Ty.av x8]] = Ty.av (Ty.mk 3 [x5, x8]) := by rw [Ty.av_mk]; rfl
  have hf12 : AV.agg [AV.sc (.int .i64 3), AV.slice .frz [Ty.av x5, Ty.av x8]] = Ty.av (Ty.mk 3 [x5, x8]) := by rw [Ty.av_mk]; rfl
  obtain rfl := Option.some.inj hm10
  simp [retQ, hf11, hf12]

theorem enters43 : entersB Tryd.prog 43 = true := by kernel_rfl

theorem r_ref01_Fun (T : Tabs) {H : Heap} {a0 : Ty} {a1 : Ty} {r0 : Ty} (hm : ref01_Fun a0 a1 = some r0) : ACall Tryd.prog T 43 [Ty.av a0, Ty.av a1] H (Ty.av r0) H := by
  rw [ref01_Fun] at hm
  refine ACallP.intro (fn := Tryd.f43) Tryd.func43 rfl enters43 (Nat.le_of_ble_eq_true rfl) ?_
  refine AWp.sr [] fun K1 hk2 => ?_
  simp
  apply hk2
  refine AWp.seqK fun K3 hk4 => ?_
  refine AWp.regionD [] false mixed (by decide +kernel) (by decide +kernel) ?_
  obtain ⟨x5, hx6, hm7⟩ := bind1_some hm
  clear hm
  try dsimp only at hm7
  simp
  refine CallAtD.fn (r_ref01_Copy T hx6) (by simp) ?_
  obtain ⟨x8, hx9, hm10⟩ := bind1_some hm7
  clear hm7
  try dsimp only at hm10
  simp
  refine CallAtD.fn (r_ref01_Copy T hx9) (by simp) ?_
  simp
  apply hk4
  refine AWp.ret ?_
  have hf11 : AV.agg [AV.sc (.int .i64 4), AV.slice .frz [Ty.av x5, Ty.av x8]] = Ty.av (Ty.mk 4 [x5, x8]) := by rw [Ty.av_mk]; rfl
  have hf12 : AV.agg [AV.sc (.int .i64 4), AV.slice .frz [Ty.av x5, Ty.av x8]] = Ty.av (Ty.mk 4 [x5, x8]) := by rw [Ty.av_mk]; rfl
  obtain rfl := Option.some.inj hm10
  simp [retQ, hf11, hf12]

theorem enters14 : entersB Tryd.prog 14 = true := by kernel_rfl

theorem rg_mk_Type (T : Tabs) : ∀ (n : Nat), (∀ {H : Heap} {a0 : Smk_Deck} {a1 : Int} {r0 : Ty} {do0 : Smk_Deck} {o0 : Nat} (ho0 : H[o0]? = some [AV.slice .frz (List.map (fun n => AV.sc (Value.int .i64 n)) a0.l), AV.sc (.int .i64 a0.atF)]) (hm : mk_Type n a0 a1 = some (r0, do0)), ACall Tryd.prog T 14 [AV.gptr o0 0, AV.sc (.int .i64 a1)] H (Ty.av r0) (hset H o0 [AV.slice .frz (List.map (fun n => AV.sc (Value.int .i64 n)) do0.l), AV.sc (.int .i64 do0.atF)])) := by
  intro n
  induction n with
  | zero =>
    skip
    all_goals
      intros
      rename_i hm
      cases hm
  | succ n ih =>
    intro H a0 a1 r0 do0 o0 ho0 hm
    rw [mk_Type] at hm
    have lo0 := inb_of_get ho0
    refine ACallP.at1 ho0 ?_
    refine ACallP.intro (fn := Tryd.f14) Tryd.func14 rfl enters14 (Nat.le_of_ble_eq_true rfl) ?_
    refine AWp.sr [] fun K1 hk2 => ?_
    simp [lo0]
    apply hk2
    obtain ⟨j3, hj4, hm5⟩ := joinB_some hm
    clear hm
    refine AWp.seqP (fun fr h => ∃ (v6 : Smk_Deck) (g4_9 : Nat), hset H o0 [AV.slice .frz (List.map (fun n => AV.sc (Value.int .i64 n)) v6.l), AV.sc (.int .i64 v6.atF)] = h ∧ (fr.env 4 = AV.lptr 4 g4_9 0 ∧ fr.gen 4 = g4_9 ∧ fr.box 4 = some [AV.sc (.int .i64 0), AV.slice .full []]) ∧ j3 v6 = some (r0, do0)) (fun K7 hk8 => ?_) ?_
    rotate_left
    · clear hm5
      rintro fr9 h9 ⟨v6, g4_9, rfl, E9, hm10⟩
      subst hj4
      refine AWp.sr [] fun K11 hk12 => ?_
      obtain ⟨x13, hx14, hm15⟩ := bind1_some hm10
      clear hm10
      try dsimp only at hm15
      simp [E9, lo0]
      refine CallAt.fn (r_ref01_Nat T hx14) ?_
      simp [E9, lo0]
      apply hk12
      refine AWp.ret ?_
      simp only [Option.some.injEq, Prod.mk.injEq] at hm15
      obtain ⟨rfl, rfl⟩ := hm15
      simp [retQ, E9, lo0]
    refine AWp.sr [] fun K16 hk17 => ?_
    obtain ⟨x18, d19, hx20, hm21⟩ := bind2_some hm5
    clear hm5
    try dsimp only at hm21
    simp [lo0]
    refine CallAt.fn (r_mk_Deck_Next T (by simp [lo0]) hx20) ?_
    simp [lo0]
    apply hk17
    refine AWp.blockK fun Q22 nn23 ne24 nx25 nr26 => ?_
    refine AWp.seqP (fun fr h => ∃ (g4_43 : Nat), hset H o0 [AV.slice .frz (List.map (fun n => AV.sc (Value.int .i64 n)) d19.l), AV.sc (.int .i64 d19.atF)] = h ∧ (fr.env 0 = AV.gptr o0 0 ∧ fr.env 1 = AV.sc (.int .i64 a1) ∧ fr.env 4 = AV.lptr 4 g4_43 0 ∧ fr.env 6 = AV.sc (.int .i64 x18) ∧ fr.env 7 = AV.sc (.bool (sel (ieq x18 0) true (sel (ieq x18 1) true (ieq x18 2)))) ∧ fr.gen 4 = g4_43 ∧ fr.box 4 = some [AV.sc (.int .i64 0), AV.slice .full []])) (fun K27 hk28 => ?_) ?_
    · refine AWp.sr [] fun K29 hk30 => ?_
      simp [lo0]
      apply hk30
      refine AWp.condK fun A31 B32 ga33 gb34 => ?_
      rcases Bool.eq_false_or_eq_true (ieq x18 0) with hc35 | hc35
      · simp [lo0, hc35]
        apply ga33
        refine AWp.skip ?_
        refine hk28 _ _ ⟨1, ?_, ⟨?_, ?_, ?_, ?_, ?_, ?_, ?_⟩⟩ <;> first | rfl | simp [lo0, hc35]
      simp [lo0, hc35]
      apply gb34
      refine AWp.sr [] fun K36 hk37 => ?_
      simp [lo0, hc35]
      apply hk37
      refine AWp.condK fun A38 B39 ga40 gb41 => ?_
      rcases Bool.eq_false_or_eq_true (ieq x18 1) with hc42 | hc42
      · simp [lo0, hc35, hc42]
        apply ga40
        refine AWp.skip ?_
        refine hk28 _ _ ⟨1, ?_, ⟨?_, ?_, ?_, ?_, ?_, ?_, ?_⟩⟩ <;> first | rfl | simp [lo0, hc35, hc42]
      simp [lo0, hc35, hc42]
      apply gb41
      refine AWp.region [] (by decide +kernel) ?_
      simp [lo0, hc35, hc42]
      refine hk28 _ _ ⟨1, ?_, ⟨?_, ?_, ?_, ?_, ?_, ?_, ?_⟩⟩ <;> first | rfl | simp [lo0, hc35, hc42]
    rintro fr43 h43 ⟨g4_43, rfl, E43⟩
    refine AWp.condK fun A44 B45 ga46 gb47 => ?_
    rcases ite_some hm21 with ⟨hc48, hm49⟩ | ⟨hc48, hm50⟩
    · clear hm21
      simp [E43, lo0, hc48]
      apply ga46
      refine AWp.sr [] fun K51 hk52 => ?_
      obtain ⟨x53, hx54, hm55⟩ := bind1_some hm49
      clear hm49
      try dsimp only at hm55
      simp [E43, lo0, hc48]
      refine CallAt.fn (r_ref01_Nat T hx54) ?_
      simp [E43, lo0, hc48]
      apply hk52
      refine AWp.ret ?_
      apply nr26
      simp only [Option.some.injEq, Prod.mk.injEq] at hm55
      obtain ⟨rfl, rfl⟩ := hm55
      simp [retQ, E43, lo0, hc48]
    clear hm21
    simp [E43, lo0, hc48]
    apply gb47
    refine AWp.sr [] fun K56 hk57 => ?_
    simp [E43, lo0, hc48]
    apply hk57
    refine AWp.condK fun A58 B59 ga60 gb61 => ?_
    rcases ite_some hm50 with ⟨hc62, hm63⟩ | ⟨hc62, hm64⟩
    · clear hm50
      simp [E43, lo0, hc48, hc62]
      apply ga60
      refine AWp.sr [] fun K65 hk66 => ?_
      obtain ⟨x67, hx68, hm69⟩ := bind1_some hm63
      clear hm63
      try dsimp only at hm69
      simp [E43, lo0, hc48, hc62]
      refine CallAt.fn (r_ref01_List T hx68) ?_
      simp [E43, lo0, hc48, hc62]
      apply hk66
      refine AWp.ret ?_
      apply nr26
      simp only [Option.some.injEq, Prod.mk.injEq] at hm69
      obtain ⟨rfl, rfl⟩ := hm69
      simp [retQ, E43, lo0, hc48, hc62]
    clear hm50
    simp [E43, lo0, hc48, hc62]
    apply gb61
    refine AWp.sr [] fun K70 hk71 => ?_
    simp [E43, lo0, hc48, hc62]
    apply hk71
    refine AWp.condK fun A72 B73 ga74 gb75 => ?_
    rcases ite_some hm64 with ⟨hc76, hm77⟩ | ⟨hc76, hm78⟩
    · clear hm64
      simp [E43, lo0, hc48, hc62, hc76]
      apply ga74
      refine AWp.sr [] fun K79 hk80 => ?_
      obtain ⟨x81, hx82, hm83⟩ := bind1_some hm77
      clear hm77
      try dsimp only at hm83
      simp [E43, lo0, hc48, hc62, hc76]
      refine CallAt.fn (r_ref01_Unit T hx82) ?_
      simp [E43, lo0, hc48, hc62, hc76]
      apply hk80
      refine AWp.ret ?_
      apply nr26
      simp only [Option.some.injEq, Prod.mk.injEq] at hm83
      obtain ⟨rfl, rfl⟩ := hm83
      simp [retQ, E43, lo0, hc48, hc62, hc76]
    clear hm64
    simp [E43, lo0, hc48, hc62, hc76]
    apply gb75
    refine AWp.sr [] fun K84 hk85 => ?_
    simp [E43, lo0, hc48, hc62, hc76]
    apply hk85
    refine AWp.condK fun A86 B87 ga88 gb89 => ?_
    rcases ite_some hm78 with ⟨hc90, hm91⟩ | ⟨hc90, hm92⟩
    · clear hm78
      simp [E43, lo0, hc48, hc62, hc76, hc90]
      apply ga88
      refine AWp.sr [] fun K93 hk94 => ?_
      simp [E43, lo0, hc48, hc62, hc76, hc90]
      apply hk94
      refine AWp.condK fun A95 B96 ga97 gb98 => ?_
      rcases ite_some hm91 with ⟨hc99, hm100⟩ | ⟨hc99, hm101⟩
      rotate_left
      · clear hm91
        simp [E43, lo0, hc48, hc62, hc76, hc90, hc99]
        apply gb98
        refine AWp.skip ?_
        apply nn23
        refine hk8 _ _ ⟨d19, g4_43, ?_, ⟨?_, ?_, ?_⟩, hm101⟩ <;> first | rfl | simp [E43, lo0, hc48, hc62, hc76, hc90, hc99]
      clear hm91
      simp [E43, lo0, hc48, hc62, hc76, hc90, hc99]
      apply ga97
      refine AWp.sr [] fun K102 hk103 => ?_
      obtain ⟨x104, d105, hx106, hm107⟩ := bind2_some hm100
      clear hm100
      try dsimp only at hm107
      simp [E43, lo0, hc48, hc62, hc76, hc90, hc99]
      refine CallAt.fn (ih (by simp [lo0]) hx106) ?_
      obtain ⟨x108, d109, hx110, hm111⟩ := bind2_some hm107
      clear hm107
      try dsimp only at hm111
      simp [E43, lo0, hc48, hc62, hc76, hc90, hc99]
      refine CallAt.fn (ih (by simp [lo0]) hx110) ?_
      obtain ⟨x112, hx113, hm114⟩ := bind1_some hm111
      clear hm111
      try dsimp only at hm114
      simp [E43, lo0, hc48, hc62, hc76, hc90, hc99]
      refine CallAt.fn (r_ref01_Two T hx113) ?_
      simp [E43, lo0, hc48, hc62, hc76, hc90, hc99]
      apply hk103
      refine AWp.ret ?_
      apply nr26
      simp only [Option.some.injEq, Prod.mk.injEq] at hm114
      obtain ⟨rfl, rfl⟩ := hm114
      simp [retQ, E43, lo0, hc48, hc62, hc76, hc90, hc99]
    clear hm78
    simp [E43, lo0, hc48, hc62, hc76, hc90]
    apply gb89
    refine AWp.sr [] fun K115 hk116 => ?_
    simp [E43, lo0, hc48, hc62, hc76, hc90]
    apply hk116
    refine AWp.condK fun A117 B118 ga119 gb120 => ?_
    rcases ite_some hm92 with ⟨hc121, hm122⟩ | ⟨hc121, hm123⟩
    rotate_left
    · clear hm92
      simp [E43, lo0, hc48, hc62, hc76, hc90, hc121]
      apply gb120
      refine AWp.skip ?_
      apply nn23
      refine hk8 _ _ ⟨d19, g4_43, ?_, ⟨?_, ?_, ?_⟩, hm123⟩ <;> first | rfl | simp [E43, lo0, hc48, hc62, hc76, hc90, hc121]
    clear hm92
    simp [E43, lo0, hc48, hc62, hc76, hc90, hc121]
    apply ga119
    refine AWp.sr [] fun K124 hk125 => ?_
    simp [E43, lo0, hc48, hc62, hc76, hc90, hc121]
    apply hk125
    refine AWp.condK fun A126 B127 ga128 gb129 => ?_
    rcases ite_some hm122 with ⟨hc130, hm131⟩ | ⟨hc130, hm132⟩
    rotate_left
    · clear hm122
      simp [E43, lo0, hc48, hc62, hc76, hc90, hc121, hc130]
      apply gb129
      refine AWp.skip ?_
      apply nn23
      refine hk8 _ _ ⟨d19, g4_43, ?_, ⟨?_, ?_, ?_⟩, hm132⟩ <;> first | rfl | simp [E43, lo0, hc48, hc62, hc76, hc90, hc121, hc130]
    clear hm122
    simp [E43, lo0, hc48, hc62, hc76, hc90, hc121, hc130]
    apply ga128
    refine AWp.sr [] fun K133 hk134 => ?_
    obtain ⟨x135, d136, hx137, hm138⟩ := bind2_some hm131
    clear hm131
    try dsimp only at hm138
    simp [E43, lo0, hc48, hc62, hc76, hc90, hc121, hc130]
    refine CallAt.fn (ih (by simp [lo0]) hx137) ?_
    obtain ⟨x139, d140, hx141, hm142⟩ := bind2_some hm138
    clear hm138
    try dsimp only at hm142
    simp [E43, lo0, hc48, hc62, hc76, hc90, hc121, hc130]
    refine CallAt.fn (ih (by simp [lo0]) hx141) ?_
    obtain ⟨x143, hx144, hm145⟩ := bind1_some hm142
    clear hm142
    try dsimp only at hm145
    simp [E43, lo0, hc48, hc62, hc76, hc90, hc121, hc130]
    refine CallAt.fn (r_ref01_Fun T hx144) ?_
    simp [E43, lo0, hc48, hc62, hc76, hc90, hc121, hc130]
    apply hk134
    refine AWp.ret ?_
    apply nr26
    simp only [Option.some.injEq, Prod.mk.injEq] at hm145
    obtain ⟨rfl, rfl⟩ := hm145
    simp [retQ, E43, lo0, hc48, hc62, hc76, hc90, hc121, hc130]
theorem r_mk_Type (T : Tabs) {H : Heap} {a0 : Smk_Deck} {a1 : Int} {r0 : Ty} {do0 : Smk_Deck} {o0 : Nat} (ho0 : H[o0]? = some [AV.slice .frz (List.map (fun n => AV.sc (Value.int .i64 n)) a0.l), AV.sc (.int .i64 a0.atF)]) {n : Nat} (hm : mk_Type n a0 a1 = some (r0, do0)) : ACall Tryd.prog T 14 [AV.gptr o0 0, AV.sc (.int .i64 a1)] H (Ty.av r0) (hset H o0 [AV.slice .frz (List.map (fun n => AV.sc (Value.int .i64 n)) do0.l), AV.sc (.int .i64 do0.atF)]) := (rg_mk_Type T n) ho0 hm

theorem enters13 : entersB Tryd.prog 13 = true := by kernel_rfl

theorem r_mk_Context (T : Tabs) {H : Heap} {a0 : Smk_Deck} {r0 : (List Ty)} {do0 : Smk_Deck} {o0 : Nat} (ho0 : H[o0]? = some [AV.slice .frz (List.map (fun n => AV.sc (Value.int .i64 n)) a0.l), AV.sc (.int .i64 a0.atF)]) (hm : mk_Context a0 = some (r0, do0)) : ACall Tryd.prog T 13 [AV.gptr o0 0] H (AV.slice .frz (List.map Ty.av r0)) (hset H o0 [AV.slice .frz (List.map (fun n => AV.sc (Value.int .i64 n)) do0.l), AV.sc (.int .i64 do0.atF)]) := by
  rw [mk_Context] at hm
  have lo0 := inb_of_get ho0
  refine ACallP.at1 ho0 ?_
  refine ACallP.intro (fn := Tryd.f13) Tryd.func13 rfl enters13 (Nat.le_of_ble_eq_true rfl) ?_
  refine AWp.sr [] fun K1 hk2 => ?_
  simp [lo0]
  apply hk2
  refine AWp.sr [] fun K3 hk4 => ?_
  simp [lo0]
  apply hk4
  refine AWp.seqK fun K5 hk6 => ?_
  refine AWp.sr [] fun K7 hk8 => ?_
  obtain ⟨x9, d10, hx11, hm12⟩ := bind2_some hm
  clear hm
  try dsimp only at hm12
  simp [lo0]
  refine CallAt.fn (r_mk_Deck_Next T (by simp [lo0]) hx11) ?_
  simp [lo0]
  apply hk8
  obtain ⟨F13, hF14, hm15⟩ := joinB_some hm12
  clear hm12
  try dsimp only at hm15
  obtain ⟨out16, hl17, hmB18⟩ := bind1_some hm15
  clear hm15
  refine AWp.blockK fun Q19 nn20 ne21 nx22 nr23 => ?_
  refine AWp.loopF (fun n24 fr h => ∃ (v25 : (List Ty)) (v26 : Int) (v27 : Smk_Deck) (tg0_28 : Tag), hset H o0 [AV.slice .frz (List.map (fun n => AV.sc (Value.int .i64 n)) v27.l), AV.sc (.int .i64 v27.atF)] = h ∧ (fr.env 0 = AV.gptr o0 0 ∧ fr.env 3 = AV.slice tg0_28 (List.map Ty.av v25) ∧ fr.env 4 = AV.sc (.int .i64 v26)) ∧ OwnT fr.tab fr.tgen [15] tg0_28 (List.length v25) ∧ loopN F13 n24 (v25, v26, v27) = some out16) FU ?_ ?_
  · refine ⟨[], x9, d10, .full, ?_, ⟨?_, ?_, ?_⟩, OwnT.full, hl17⟩ <;> first | rfl | simp [lo0]
  rintro n24 fr28 h28 ⟨v25, v26, v27, tg0_28, rfl, E28, o0_28, hl17⟩ K29 hK30
  rcases n24 with _ | n24
  · rw [loopN_zero] at hl17
    cases hl17
  rw [loopN_succ] at hl17
  obtain ⟨c31, hb32, hk33⟩ := bind1_some hl17
  clear hl17
  rw [hF14] at hb32
  try dsimp only at hb32
  rw [un3_mk] at hb32
  try dsimp only at hb32
  refine AWp.seqK fun K34 hk35 => ?_
  refine AWp.sr [] fun K36 hk37 => ?_
  simp [E28, lo0]
  apply hk37
  refine AWp.condK fun A38 B39 ga40 gb41 => ?_
  rcases ite_some hb32 with ⟨hc42, hm43⟩ | ⟨hc42, hm44⟩
  rotate_left
  · clear hb32
    simp [E28, lo0, hc42]
    apply gb41
    refine AWp.exit ?_
    apply ne21
    obtain rfl := Option.some.inj hm44
    rw [ctlK_brk] at hk33
    obtain rfl := Option.some.inj hk33
    rw [sumK_inl, un3_mk] at hmB18
    try dsimp only at hmB18
    apply hk6
    refine AWp.sr [] fun K45 hk46 => ?_
    simp [E28, lo0, hc42]
    apply hk46
    refine AWp.ret ?_
    simp only [Option.some.injEq, Prod.mk.injEq] at hmB18
    obtain ⟨rfl, rfl⟩ := hmB18
    simp [retQ, E28, lo0, hc42]
  clear hb32
  simp [E28, lo0, hc42]
  apply ga40
  refine AWp.skip ?_
  apply hk35
  refine AWp.seqK fun K47 hk48 => ?_
  refine AWp.blockK fun Q49 nn50 ne51 nx52 nr53 => ?_
  refine AWp.region [] (by decide +kernel) ?_
  obtain ⟨x54, d55, hx56, hm57⟩ := bind2_some hm43
  clear hm43
  try dsimp only at hm57
  simp [E28, lo0, hc42]
  refine CallAt.fn (r_mk_Type T (by simp [lo0]) hx56) ?_
  obtain ⟨ha58, hm59⟩ := chk_some hm57
  clear hm57
  simp [E28, lo0, hc42]
  refine AppAt2.own (f := Ty.av) v25 [x54] o0_28 ap27 (by intro x; simp) ha58 (by first | rfl | simp) (by first | rfl | simp) ?_
  simp [E28, lo0, hc42]
  apply nn50
  apply hk48
  refine AWp.region [] (by decide +kernel) ?_
  simp [E28, lo0, hc42]
  obtain rfl := Option.some.inj hm59
  rw [ctlK_next] at hk33
  refine hK30 _ _ n24 (Nat.lt_succ_self _) ⟨(lapp v25 [x54]), (isub .i64 v26 1), d55, (.loc 15 (fr28.tgen 15 + 1)), ?_, ⟨?_, ?_, ?_⟩, (OwnT.mono (D := [15]) (OwnT.new (D := [15]) (d := 15) (by decide)) (by decide)), hk33⟩ <;> first | rfl | simp [E28, lo0, hc42]

end Go.Proofs.YtnabbjnhemmkhaaDoor
