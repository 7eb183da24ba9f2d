/- The program's functions do what the models say. -/
import Derived.Test.YtnabbjnhemmkhaaDoorRR04
import Derived.Test.YtnabbjnhemmkhaaDoorRM
set_option maxRecDepth 20000
set_option maxHeartbeats 4000000
set_option linter.unusedSimpArgs false
set_option linter.unusedVariables false
namespace Go.Proofs.YtnabbjnhemmkhaaDoor
open Go Go.Abs Go.Mdl

theorem enters44 : entersB Tryd.prog 44 = true := by kernel_rfl

theorem r_mk_vars (T : Tabs) {H : Heap} {a0 : (List Ty)} {a1 : Ty} {r0 : (List Int)} (hm : mk_vars a0 a1 = some r0) : ACall Tryd.prog T 44 [AV.slice .frz (List.map Ty.av a0), Ty.av a1] H (AV.slice .frz (List.map (fun n => AV.sc (Value.int .i64 n)) r0)) H := by
  rw [mk_vars] at hm
  refine ACallP.intro (fn := Tryd.f44) Tryd.func44 rfl enters44 (Nat.le_of_ble_eq_true rfl) ?_
  refine AWp.sr [] fun K1 hk2 => ?_
  simp
  apply hk2
  refine AWp.sr [] fun K3 hk4 => ?_
  simp
  apply hk4
  refine AWp.seqK fun K5 hk6 => ?_
  refine AWp.sr [] fun K7 hk8 => ?_
  simp
  apply hk8
  obtain ⟨hok9, hm10⟩ := chk_some hm
  clear hm
  obtain ⟨F11, hF12, hm13⟩ := joinB_some hm10
  clear hm10
  try dsimp only at hm13
  obtain ⟨out14, hl15, hmB16⟩ := bind1_some hm13
  clear hm13
  refine AWp.blockK fun Q17 nn18 ne19 nx20 nr21 => ?_
  refine AWp.loopF (fun n22 fr h => ∃ (i23 : Nat) (j24 : Int) (v25 : (List Int)) (tg0_26 : Tag) (g3_26 : Nat), H = h ∧ (fr.env 0 = AV.slice .frz (List.map Ty.av a0) ∧ fr.env 3 = AV.lptr 3 g3_26 0 ∧ fr.env 5 = AV.slice tg0_26 (List.map (fun n => AV.sc (Value.int .i64 n)) v25) ∧ fr.env 8 = AV.sc (.int .i64 (llen a0)) ∧ fr.env 9 = AV.sc (.int .i64 j24) ∧ fr.gen 3 = g3_26 ∧ fr.box 3 = some [AV.sc (.int .i64 a1.kind), AV.slice .frz (List.map Ty.av a1.args)]) ∧ OwnT fr.tab fr.tgen [25] tg0_26 (List.length v25) ∧ j24 = (i23 : Int) ∧ i23 + n22 = List.length a0 ∧ forR F11 (List.drop i23 a0) i23 v25 = some out14) (List.length a0) ?_ ?_
  · refine ⟨0, 0, [], .full, 1, ?_, ⟨?_, ?_, ?_, ?_, ?_, ?_, ?_⟩, OwnT.full, rfl, (by simp), hl15⟩ <;> first | rfl | simp
  rintro n22 fr26 h26 ⟨i23, j24, v25, tg0_26, g3_26, rfl, E26, o0_26, hj27, hi28, hl15⟩ K29 hK30
  rcases n22 with _ | n22
  · have hlt31 := ilt_notJ (l := a0) hj27 (by omega)
    refine AWp.sr [] fun K32 hk33 => ?_
    simp [E26, hlt31]
    apply hk33
    refine AWp.seqK fun K34 hk35 => ?_
    refine AWp.condK fun A36 B37 ga38 gb39 => ?_
    simp [E26, hlt31]
    apply gb39
    refine AWp.exit ?_
    apply ne19
    rw [List.drop_eq_nil_of_le (by omega), forR_nil] at hl15
    obtain rfl := Option.some.inj hl15
    rw [sumK_inl] at hmB16
    try dsimp only at hmB16
    apply hk6
    refine AWp.sr [] fun K40 hk41 => ?_
    simp [E26, hlt31]
    apply hk41
    refine AWp.ret ?_
    obtain rfl := Option.some.inj hmB16
    simp [retQ, E26, hlt31]
  have hlt31 := ilt_ofJ (l := a0) hj27 (by omega)
  obtain ⟨x42, hdn22, hg43⟩ := drop_ltJ (l := a0) hj27 (by omega)
  rw [hdn22, forR_cons] at hl15
  obtain ⟨c44, hb45, hk46⟩ := bind1_some hl15
  clear hl15
  rw [hF12, ← hj27] at hb45
  try dsimp only at hb45
  refine AWp.sr [] fun K47 hk48 => ?_
  simp [E26, hlt31, hg43]
  apply hk48
  refine AWp.seqK fun K49 hk50 => ?_
  refine AWp.condK fun A51 B52 ga53 gb54 => ?_
  simp [E26, hlt31, hg43]
  apply ga53
  refine AWp.skip ?_
  apply hk50
  obtain ⟨j55, hj56, hm57⟩ := joinB_some hb45
  clear hb45
  refine AWp.seqP (fun fr h => ∃ (v58 : (List Int)) (tg0_61 : Tag) (g3_61 : Nat), H = h ∧ (fr.env 0 = AV.slice .frz (List.map Ty.av a0) ∧ fr.env 3 = AV.lptr 3 g3_61 0 ∧ fr.env 5 = AV.slice tg0_61 (List.map (fun n => AV.sc (Value.int .i64 n)) v58) ∧ fr.env 8 = AV.sc (.int .i64 (llen a0)) ∧ fr.env 9 = AV.sc (.int .i64 j24) ∧ fr.gen 3 = g3_61 ∧ fr.box 3 = some [AV.sc (.int .i64 a1.kind), AV.slice .frz (List.map Ty.av a1.args)]) ∧ OwnT fr.tab fr.tgen [25] tg0_61 (List.length v58) ∧ j55 v58 = some c44) (fun K59 hk60 => ?_) ?_
  rotate_left
  · clear hm57
    rintro fr61 h61 ⟨v58, tg0_61, g3_61, rfl, E61, o0_61, hm62⟩
    subst hj56
    refine AWp.region [] (by decide +kernel) ?_
    simp [E61, hlt31, hg43]
    obtain rfl := Option.some.inj hm62
    rw [ctlK_next] at hk46
    refine hK30 _ _ n22 (Nat.lt_succ_self _) ⟨(i23 + 1), (iadd .i64 j24 1), v58, tg0_61, g3_61, ?_, ⟨?_, ?_, ?_, ?_, ?_, ?_, ?_⟩, (OwnT.mono (D := [25]) o0_61 (by decide)), (iadd_idxJ hj27 (by omega) hok9), (by omega), hk46⟩ <;> first | rfl | simp [E61, hlt31, hg43]
  refine AWp.blockK fun Q63 nn64 ne65 nx66 nr67 => ?_
  refine AWp.sr [] fun K68 hk69 => ?_
  simp [E26, hlt31, hg43]
  apply hk69
  refine AWp.seqK fun K70 hk71 => ?_
  refine AWp.regionD [] false mixed (by decide +kernel) (by decide +kernel) ?_
  obtain ⟨x72, hx73, hm74⟩ := bind1_some hm57
  clear hm57
  try dsimp only at hm74
  obtain ⟨x75, hx76, hm77⟩ := bind1_some hm74
  clear hm74
  try dsimp only at hm77
  simp [E26, hlt31, hg43, hx73]
  refine CallAtD.fn (r_ref01_Same T hx76) (by simp) ?_
  simp [E26, hlt31, hg43, hx73]
  apply hk71
  refine AWp.condK fun A78 B79 ga80 gb81 => ?_
  rcases ite_some hm77 with ⟨hc82, hm83⟩ | ⟨hc82, hm84⟩
  rotate_left
  · clear hm77
    simp [E26, hlt31, hg43, hx73, hc82]
    apply gb81
    refine AWp.skip ?_
    apply nn64
    refine hk60 _ _ ⟨v25, tg0_26, g3_26, ?_, ⟨?_, ?_, ?_, ?_, ?_, ?_, ?_⟩, (OwnT.mono (D := [25]) o0_26 (by decide)), hm84⟩ <;> first | rfl | simp [E26, hlt31, hg43, hx73, hc82]
  clear hm77
  simp [E26, hlt31, hg43, hx73, hc82]
  apply ga80
  refine AWp.region [] (by decide +kernel) ?_
  obtain ⟨ha85, hm86⟩ := chk_some hm83
  clear hm83
  simp [E26, hlt31, hg43, hx73, hc82]
  refine AppAt2.own (f := (fun n => AV.sc (Value.int .i64 n))) v25 [j24] o0_26 ap22 (by intro x; simp) ha85 (by first | rfl | simp) (by first | rfl | simp) ?_
  simp [E26, hlt31, hg43, hx73, hc82]
  apply nn64
  refine hk60 _ _ ⟨(lapp v25 [j24]), (.loc 25 (fr26.tgen 25 + 1)), g3_26, ?_, ⟨?_, ?_, ?_, ?_, ?_, ?_, ?_⟩, (OwnT.mono (D := [25]) (OwnT.new (D := [25]) (d := 25) (by decide)) (by decide)), hm86⟩ <;> first | rfl | simp [E26, hlt31, hg43, hx73, hc82]

theorem enters45 : entersB Tryd.prog 45 = true := by kernel_rfl

theorem r_mk_longer (T : Tabs) {H : Heap} {a0 : (List Ty)} {a1 : (List Ty)} {r0 : (List Ty)} (hm : mk_longer a0 a1 = some r0) : ACall Tryd.prog T 45 [AV.slice .frz (List.map Ty.av a0), AV.slice .frz (List.map Ty.av a1)] H (AV.slice .frz (List.map Ty.av r0)) H := by
  rw [mk_longer] at hm
  refine ACallP.intro (fn := Tryd.f45) Tryd.func45 rfl enters45 (Nat.le_of_ble_eq_true rfl) ?_
  refine AWp.sr [] fun K1 hk2 => ?_
  simp
  apply hk2
  refine AWp.sr [] fun K3 hk4 => ?_
  obtain ⟨ha5, hm6⟩ := chk_some hm
  clear hm
  simp
  refine AppAt2.own (f := Ty.av) [] a0 (OwnT.full (D := [])) ap27 (by intro x; simp) ha5 (by first | rfl | simp) (by first | rfl | simp) ?_
  obtain ⟨ha7, hm8⟩ := chk_some hm6
  clear hm6
  simp
  refine AppAt2.own (f := Ty.av) (lapp [] a0) a1 (OwnT.new (D := [6]) (d := 6) (by decide)) ap27 (by intro x; simp) ha7 (by first | rfl | simp) (by first | rfl | simp) ?_
  simp
  apply hk4
  refine AWp.ret ?_
  obtain rfl := Option.some.inj hm8
  simp [retQ]

theorem enters95 : entersB Tryd.prog 95 = true := by kernel_rfl

theorem r_ref05_numeral (T : Tabs) {H : Heap} {a0 : Int} {r0 : Tm} (hm : ref05_numeral a0 = some r0) : ACall Tryd.prog T 95 [AV.sc (.int .i64 a0)] H (Tm.av r0) H := by
  rw [ref05_numeral] at hm
  refine ACallP.intro (fn := Tryd.f95) Tryd.func95 rfl enters95 (Nat.le_of_ble_eq_true rfl) ?_
  refine AWp.sr [] fun K1 hk2 => ?_
  simp
  apply hk2
  refine AWp.sr [] fun K3 hk4 => ?_
  obtain ⟨x5, hx6, hm7⟩ := bind1_some hm
  clear hm
  try dsimp only at hm7
  simp
  refine CallAt.fn (r_ref02_N T hx6) ?_
  simp
  apply hk4
  refine AWp.seqK fun K8 hk9 => ?_
  obtain ⟨F10, hF11, hm12⟩ := joinB_some hm7
  clear hm7
  try dsimp only at hm12
  obtain ⟨out13, hl14, hmB15⟩ := bind1_some hm12
  clear hm12
  refine AWp.blockK fun Q16 nn17 ne18 nx19 nr20 => ?_
  refine AWp.loopF (fun n21 fr h => ∃ (v22 : Int) (v23 : Int) (v24 : Int) (v25 : Int) (v26 : (List Ty)) (v27 : (List Tm)) (tg0_28 : Tag) (tg1_28 : Tag) (g2_28 : Nat) (g3_28 : Nat), H = h ∧ (fr.env 0 = AV.sc (.int .i64 v22) ∧ fr.env 2 = AV.lptr 2 g2_28 0 ∧ fr.env 3 = AV.lptr 3 g3_28 0 ∧ fr.gen 2 = g2_28 ∧ fr.box 2 = some [AV.sc (.int .i64 0), AV.sc (.int .i64 0), AV.sc (.int .i64 0), AV.slice .full [], AV.slice .full []] ∧ fr.gen 3 = g3_28 ∧ fr.box 3 = some [AV.sc (.int .i64 v23), AV.sc (.int .i64 v24), AV.sc (.int .i64 v25), AV.slice tg0_28 (List.map Ty.av v26), AV.slice tg1_28 (List.map Tm.av v27)]) ∧ loopN F10 n21 (v22, v23, v24, v25, v26, v27) = some out13) FU ?_ ?_
  · refine ⟨a0, x5.kind, x5.index, x5.typeF.kind, x5.typeF.args, x5.args, .frz, .frz, 1, 1, ?_, ⟨?_, ?_, ?_, ?_, ?_, ?_, ?_⟩, hl14⟩ <;> first | rfl | simp
  rintro n21 fr28 h28 ⟨v22, v23, v24, v25, v26, v27, tg0_28, tg1_28, g2_28, g3_28, rfl, E28, hl14⟩ K29 hK30
  rcases n21 with _ | n21
  · rw [loopN_zero] at hl14
    cases hl14
  rw [loopN_succ] at hl14
  obtain ⟨c31, hb32, hk33⟩ := bind1_some hl14
  clear hl14
  rw [hF11] at hb32
  try dsimp only at hb32
  rw [un6_mk] at hb32
  try dsimp only at hb32
  refine AWp.seqK fun K34 hk35 => ?_
  refine AWp.sr [] fun K36 hk37 => ?_
  simp [E28]
  apply hk37
  refine AWp.condK fun A38 B39 ga40 gb41 => ?_
  rcases ite_some hb32 with ⟨hc42, hm43⟩ | ⟨hc42, hm44⟩
  rotate_left
  · clear hb32
    simp [E28, hc42]
    apply gb41
    refine AWp.exit ?_
    apply ne18
    obtain rfl := Option.some.inj hm44
    rw [ctlK_brk] at hk33
    obtain rfl := Option.some.inj hk33
    rw [sumK_inl, un6_mk] at hmB15
    try dsimp only at hmB15
    apply hk9
    refine AWp.sr [] fun K45 hk46 => ?_
    simp [E28, hc42]
    apply hk46
    refine AWp.ret ?_
    obtain rfl := Option.some.inj hmB15
    simp [retQ, E28, hc42]
  clear hb32
  simp [E28, hc42]
  apply ga40
  refine AWp.skip ?_
  apply hk35
  refine AWp.seqK fun K47 hk48 => ?_
  refine AWp.blockK fun Q49 nn50 ne51 nx52 nr53 => ?_
  refine AWp.region [] (by decide +kernel) ?_
  simp [E28, hc42]
  apply nn50
  apply hk48
  refine AWp.region [] (by decide +kernel) ?_
  simp [E28, hc42]
  obtain rfl := Option.some.inj hm43
  rw [ctlK_next] at hk33
  refine hK30 _ _ n21 (Nat.lt_succ_self _) ⟨(isub .i64 v22 1), 5, 0, 0, [], [(Tm.mk v23 v24 (Ty.mk v25 v26) v27)], .full, .full, g2_28, g3_28, ?_, ⟨?_, ?_, ?_, ?_, ?_, ?_, ?_⟩, hk33⟩ <;> first | rfl | simp [E28, hc42]

theorem enters73 : entersB Tryd.prog 73 = true := by kernel_rfl

theorem r_ref05_Number (T : Tabs) {H : Heap} {a0 : Int} {r0 : Tm} {r1 : Int} (hm : ref05_Number a0 = some (r0, r1)) : ACall Tryd.prog T 73 [AV.sc (.int .i64 a0)] H (AV.tuple [Tm.av r0, AV.sc (.int .i64 r1)]) H := by
  rw [ref05_Number] at hm
  refine ACallP.intro (fn := Tryd.f73) Tryd.func73 rfl enters73 (Nat.le_of_ble_eq_true rfl) ?_
  refine AWp.sr [] fun K1 hk2 => ?_
  simp
  apply hk2
  refine AWp.seqK fun K3 hk4 => ?_
  refine AWp.sr [] fun K5 hk6 => ?_
  simp
  apply hk6
  refine AWp.condK fun A7 B8 ga9 gb10 => ?_
  rcases ite_some hm with ⟨hc11, hm12⟩ | ⟨hc11, hm13⟩
  · clear hm
    simp [hc11]
    apply ga9
    refine AWp.sr [] fun K14 hk15 => ?_
    simp [hc11]
    apply hk15
    refine AWp.ret ?_
    simp only [Option.some.injEq, Prod.mk.injEq] at hm12
    obtain ⟨rfl, rfl⟩ := hm12
    simp [retQ, hc11]
  clear hm
  simp [hc11]
  apply gb10
  refine AWp.skip ?_
  apply hk4
  refine AWp.seqK fun K16 hk17 => ?_
  refine AWp.sr [] fun K18 hk19 => ?_
  simp [hc11]
  apply hk19
  refine AWp.condK fun A20 B21 ga22 gb23 => ?_
  rcases ite_some hm13 with ⟨hc24, hm25⟩ | ⟨hc24, hm26⟩
  · clear hm13
    simp [hc11, hc24]
    apply ga22
    refine AWp.sr [] fun K27 hk28 => ?_
    simp [hc11, hc24]
    apply hk28
    refine AWp.ret ?_
    simp only [Option.some.injEq, Prod.mk.injEq] at hm25
    obtain ⟨rfl, rfl⟩ := hm25
    simp [retQ, hc11, hc24]
  clear hm13
  simp [hc11, hc24]
  apply gb23
  refine AWp.skip ?_
  apply hk17
  refine AWp.sr [] fun K29 hk30 => ?_
  obtain ⟨x31, hx32, hm33⟩ := bind1_some hm26
  clear hm26
  try dsimp only at hm33
  simp [hc11, hc24]
  refine CallAt.fn (r_ref05_numeral T hx32) ?_
  simp [hc11, hc24]
  apply hk30
  refine AWp.ret ?_
  simp only [Option.some.injEq, Prod.mk.injEq] at hm33
  obtain ⟨rfl, rfl⟩ := hm33
  simp [retQ, hc11, hc24]

theorem enters46 : entersB Tryd.prog 46 = true := by kernel_rfl

theorem r_mk_Num (T : Tabs) {H : Heap} {a0 : Int} {r0 : Tm} (hm : mk_Num a0 = some r0) : ACall Tryd.prog T 46 [AV.sc (.int .i64 a0)] H (Tm.av r0) H := by
  rw [mk_Num] at hm
  refine ACallP.intro (fn := Tryd.f46) Tryd.func46 rfl enters46 (Nat.le_of_ble_eq_true rfl) ?_
  refine AWp.sr [] fun K1 hk2 => ?_
  simp
  apply hk2
  refine AWp.sr [] fun K3 hk4 => ?_
  obtain ⟨x5, x6, hx7, hm8⟩ := bind2_some hm
  clear hm
  try dsimp only at hm8
  simp
  refine CallAt.fn (r_ref05_Number T hx7) ?_
  simp
  apply hk4
  refine AWp.sr [] fun K9 hk10 => ?_
  simp
  apply hk10
  refine AWp.ret ?_
  obtain rfl := Option.some.inj hm8
  simp [retQ]

theorem enters74 : entersB Tryd.prog 74 = true := by kernel_rfl

theorem r_ref05_lam (T : Tabs) {H : Heap} {a0 : Tm} {r0 : Tm} (hm : ref05_lam a0 = some r0) : ACall Tryd.prog T 74 [Tm.av a0] H (Tm.av r0) H := by
  rw [ref05_lam] at hm
  refine ACallP.intro (fn := Tryd.f74) Tryd.func74 rfl enters74 (Nat.le_of_ble_eq_true rfl) ?_
  refine AWp.sr [] fun K1 hk2 => ?_
  simp
  apply hk2
  refine AWp.seqK fun K3 hk4 => ?_
  refine AWp.regionD [] false mixed (by decide +kernel) (by decide +kernel) ?_
  obtain ⟨x5, hx6, hm7⟩ := bind1_some hm
  clear hm
  try dsimp only at hm7
  simp
  refine CallAtD.fn (r_ref01_Nat T hx6) (by simp) ?_
  obtain ⟨x8, hx9, hm10⟩ := bind1_some hm7
  clear hm7
  try dsimp only at hm10
  simp
  refine CallAtD.fn (r_ref02_T T hx9) (by simp) ?_
  simp
  apply hk4
  refine AWp.ret ?_
  obtain rfl := Option.some.inj hm10
  simp [retQ]

theorem enters75 : entersB Tryd.prog 75 = true := by kernel_rfl

theorem r_ref05_rec (T : Tabs) {H : Heap} {a0 : Tm} {a1 : Tm} {a2 : Tm} {r0 : Tm} (hm : ref05_rec a0 a1 a2 = some r0) : ACall Tryd.prog T 75 [Tm.av a0, Tm.av a1, Tm.av a2] H (Tm.av r0) H := by
  rw [ref05_rec] at hm
  refine ACallP.intro (fn := Tryd.f75) Tryd.func75 rfl enters75 (Nat.le_of_ble_eq_true rfl) ?_
  refine AWp.sr [] fun K1 hk2 => ?_
  simp
  apply hk2
  refine AWp.seqK fun K3 hk4 => ?_
  refine AWp.regionD [] false mixed (by decide +kernel) (by decide +kernel) ?_
  obtain ⟨x5, hx6, hm7⟩ := bind1_some hm
  clear hm
  try dsimp only at hm7
  simp
  refine CallAtD.fn (r_ref01_Nat T hx6) (by simp) ?_
  obtain ⟨x8, hx9, hm10⟩ := bind1_some hm7
  clear hm7
  try dsimp only at hm10
  simp
  refine CallAtD.fn (r_ref02_T T hx9) (by simp) ?_
  simp
  apply hk4
  refine AWp.ret ?_
  obtain rfl := Option.some.inj hm10
  simp [retQ]

theorem enters48 : entersB Tryd.prog 48 = true := by kernel_rfl

theorem r_ref05_Plus (T : Tabs) {H : Heap}  {r0 : Tm} (hm : ref05_Plus = some r0) : ACall Tryd.prog T 48 [] H (Tm.av r0) H := by
  rw [ref05_Plus] at hm
  refine ACallP.intro (fn := Tryd.f48) Tryd.func48 rfl enters48 (Nat.le_of_ble_eq_true rfl) ?_
  refine AWp.sr [] fun K1 hk2 => ?_
  simp
  apply hk2
  refine AWp.sr [] fun K3 hk4 => ?_
  obtain ⟨x5, hx6, hm7⟩ := bind1_some hm
  clear hm
  try dsimp only at hm7
  simp
  refine CallAt.fn (r_ref02_Var T hx6) ?_
  obtain ⟨x8, hx9, hm10⟩ := bind1_some hm7
  clear hm7
  try dsimp only at hm10
  simp
  refine CallAt.fn (r_ref02_Var T hx9) ?_
  obtain ⟨x11, hx12, hm13⟩ := bind1_some hm10
  clear hm10
  try dsimp only at hm13
  simp
  refine CallAt.fn (r_ref02_N T hx12) ?_
  obtain ⟨x14, hx15, hm16⟩ := bind1_some hm13
  clear hm13
  try dsimp only at hm16
  simp
  refine CallAt.fn (r_ref05_lam T hx15) ?_
  obtain ⟨x17, hx18, hm19⟩ := bind1_some hm16
  clear hm16
  try dsimp only at hm19
  simp
  refine CallAt.fn (r_ref05_lam T hx18) ?_
  obtain ⟨x20, hx21, hm22⟩ := bind1_some hm19
  clear hm19
  try dsimp only at hm22
  simp
  refine CallAt.fn (r_ref02_Var T hx21) ?_
  obtain ⟨x23, hx24, hm25⟩ := bind1_some hm22
  clear hm22
  try dsimp only at hm25
  simp
  refine CallAt.fn (r_ref05_rec T hx24) ?_
  obtain ⟨x26, hx27, hm28⟩ := bind1_some hm25
  clear hm25
  try dsimp only at hm28
  simp
  refine CallAt.fn (r_ref05_lam T hx27) ?_
  obtain ⟨x29, hx30, hm31⟩ := bind1_some hm28
  clear hm28
  try dsimp only at hm31
  simp
  refine CallAt.fn (r_ref05_lam T hx30) ?_
  simp
  apply hk4
  refine AWp.ret ?_
  obtain rfl := Option.some.inj hm31
  simp [retQ]

theorem enters47 : entersB Tryd.prog 47 = true := by kernel_rfl

theorem r_mk_App (T : Tabs) {H : Heap} {a0 : Tm} {a1 : (List Tm)} {r0 : Tm} (hm : mk_App a0 a1 = some r0) : ACall Tryd.prog T 47 [Tm.av a0, AV.slice .frz (List.map Tm.av a1)] H (Tm.av r0) H := by
  rw [mk_App] at hm
  refine ACallP.intro (fn := Tryd.f47) Tryd.func47 rfl enters47 (Nat.le_of_ble_eq_true rfl) ?_
  refine AWp.sr [] fun K1 hk2 => ?_
  simp
  apply hk2
  refine AWp.seqK fun K3 hk4 => ?_
  refine AWp.sr [] fun K5 hk6 => ?_
  simp
  apply hk6
  obtain ⟨hok7, hm8⟩ := chk_some hm
  clear hm
  obtain ⟨F9, hF10, hm11⟩ := joinB_some hm8
  clear hm8
  try dsimp only at hm11
  obtain ⟨out12, hl13, hmB14⟩ := bind1_some hm11
  clear hm11
  refine AWp.blockK fun Q15 nn16 ne17 nx18 nr19 => ?_
  refine AWp.loopF (fun n20 fr h => ∃ (i21 : Nat) (j22 : Int) (v23 : Int) (v24 : Int) (v25 : Int) (v26 : (List Ty)) (v27 : (List Tm)) (g2_28 : Nat) (g4_28 : Nat), H = h ∧ (fr.env 2 = AV.lptr 2 g2_28 0 ∧ fr.env 4 = AV.lptr 4 g4_28 0 ∧ fr.env 7 = AV.slice .frz (List.map Tm.av a1) ∧ fr.env 8 = AV.sc (.int .i64 (llen a1)) ∧ fr.env 9 = AV.sc (.int .i64 j22) ∧ fr.gen 2 = g2_28 ∧ fr.box 2 = some [AV.sc (.int .i64 v23), AV.sc (.int .i64 v24), AV.sc (.int .i64 v25), AV.slice .frz (List.map Ty.av v26), AV.slice .frz (List.map Tm.av v27)] ∧ fr.gen 4 = g4_28 ∧ fr.box 4 = some [AV.sc (.int .i64 0), AV.sc (.int .i64 0), AV.sc (.int .i64 0), AV.slice .full [], AV.slice .full []]) ∧ j22 = (i21 : Int) ∧ i21 + n20 = List.length a1 ∧ forR F9 (List.drop i21 a1) i21 (v23, v24, v25, v26, v27) = some out12) (List.length a1) ?_ ?_
  · refine ⟨0, 0, a0.kind, a0.index, a0.typeF.kind, a0.typeF.args, a0.args, 1, 1, ?_, ⟨?_, ?_, ?_, ?_, ?_, ?_, ?_, ?_, ?_⟩, rfl, (by simp), hl13⟩ <;> first | rfl | simp
  rintro n20 fr28 h28 ⟨i21, j22, v23, v24, v25, v26, v27, g2_28, g4_28, rfl, E28, hj29, hi30, hl13⟩ K31 hK32
  rcases n20 with _ | n20
  · have hlt33 := ilt_notJ (l := a1) hj29 (by omega)
    refine AWp.sr [] fun K34 hk35 => ?_
    simp [E28, hlt33]
    apply hk35
    refine AWp.seqK fun K36 hk37 => ?_
    refine AWp.condK fun A38 B39 ga40 gb41 => ?_
    simp [E28, hlt33]
    apply gb41
    refine AWp.exit ?_
    apply ne17
    rw [List.drop_eq_nil_of_le (by omega), forR_nil] at hl13
    obtain rfl := Option.some.inj hl13
    rw [sumK_inl, un5_mk] at hmB14
    try dsimp only at hmB14
    apply hk4
    refine AWp.sr [] fun K42 hk43 => ?_
    simp [E28, hlt33]
    apply hk43
    refine AWp.ret ?_
    obtain rfl := Option.some.inj hmB14
    simp [retQ, E28, hlt33]
  have hlt33 := ilt_ofJ (l := a1) hj29 (by omega)
  obtain ⟨x44, hdn20, hg45⟩ := drop_ltJ (l := a1) hj29 (by omega)
  rw [hdn20, forR_cons] at hl13
  obtain ⟨c46, hb47, hk48⟩ := bind1_some hl13
  clear hl13
  rw [hF10, ← hj29] at hb47
  try dsimp only at hb47
  rw [un5_mk] at hb47
  try dsimp only at hb47
  refine AWp.sr [] fun K49 hk50 => ?_
  simp [E28, hlt33, hg45]
  apply hk50
  refine AWp.seqK fun K51 hk52 => ?_
  refine AWp.condK fun A53 B54 ga55 gb56 => ?_
  simp [E28, hlt33, hg45]
  apply ga55
  refine AWp.skip ?_
  apply hk52
  refine AWp.seqK fun K57 hk58 => ?_
  refine AWp.blockK fun Q59 nn60 ne61 nx62 nr63 => ?_
  refine AWp.sr [] fun K64 hk65 => ?_
  simp [E28, hlt33, hg45]
  apply hk65
  refine AWp.region [] (by decide +kernel) ?_
  obtain ⟨x66, hx67, hm68⟩ := bind1_some hb47
  clear hb47
  try dsimp only at hm68
  simp [E28, hlt33, hg45]
  refine CallAt.fn (r_ref02_N T hx67) ?_
  simp [E28, hlt33, hg45]
  apply nn60
  apply hk58
  refine AWp.region [] (by decide +kernel) ?_
  simp [E28, hlt33, hg45]
  obtain rfl := Option.some.inj hm68
  rw [ctlK_next] at hk48
  refine hK32 _ _ n20 (Nat.lt_succ_self _) ⟨(i21 + 1), (iadd .i64 j22 1), x66.kind, x66.index, x66.typeF.kind, x66.typeF.args, x66.args, g2_28, g4_28, ?_, ⟨?_, ?_, ?_, ?_, ?_, ?_, ?_, ?_, ?_⟩, (iadd_idxJ hj29 (by omega) hok7), (by omega), hk48⟩ <;> first | rfl | simp [E28, hlt33, hg45]

theorem enters76 : entersB Tryd.prog 76 = true := by kernel_rfl

theorem r_ref05_Pred (T : Tabs) {H : Heap}  {r0 : Tm} (hm : ref05_Pred = some r0) : ACall Tryd.prog T 76 [] H (Tm.av r0) H := by
  rw [ref05_Pred] at hm
  refine ACallP.intro (fn := Tryd.f76) Tryd.func76 rfl enters76 (Nat.le_of_ble_eq_true rfl) ?_
  refine AWp.sr [] fun K1 hk2 => ?_
  simp
  apply hk2
  refine AWp.sr [] fun K3 hk4 => ?_
  obtain ⟨x5, hx6, hm7⟩ := bind1_some hm
  clear hm
  try dsimp only at hm7
  simp
  refine CallAt.fn (r_ref02_N T hx6) ?_
  obtain ⟨x8, hx9, hm10⟩ := bind1_some hm7
  clear hm7
  try dsimp only at hm10
  simp
  refine CallAt.fn (r_ref02_Var T hx9) ?_
  obtain ⟨x11, hx12, hm13⟩ := bind1_some hm10
  clear hm10
  try dsimp only at hm13
  simp
  refine CallAt.fn (r_ref05_lam T hx12) ?_
  obtain ⟨x14, hx15, hm16⟩ := bind1_some hm13
  clear hm13
  try dsimp only at hm16
  simp
  refine CallAt.fn (r_ref05_lam T hx15) ?_
  obtain ⟨x17, hx18, hm19⟩ := bind1_some hm16
  clear hm16
  try dsimp only at hm19
  simp
  refine CallAt.fn (r_ref02_Var T hx18) ?_
  obtain ⟨x20, hx21, hm22⟩ := bind1_some hm19
  clear hm19
  try dsimp only at hm22
  simp
  refine CallAt.fn (r_ref05_rec T hx21) ?_
  obtain ⟨x23, hx24, hm25⟩ := bind1_some hm22
  clear hm22
  try dsimp only at hm25
  simp
  refine CallAt.fn (r_ref05_lam T hx24) ?_
  simp
  apply hk4
  refine AWp.ret ?_
  obtain rfl := Option.some.inj hm25
  simp [retQ]

theorem enters49 : entersB Tryd.prog 49 = true := by kernel_rfl

theorem r_ref05_Sub (T : Tabs) {H : Heap}  {r0 : Tm} (hm : ref05_Sub = some r0) : ACall Tryd.prog T 49 [] H (Tm.av r0) H := by
  rw [ref05_Sub] at hm
  refine ACallP.intro (fn := Tryd.f49) Tryd.func49 rfl enters49 (Nat.le_of_ble_eq_true rfl) ?_
  refine AWp.sr [] fun K1 hk2 => ?_
  simp
  apply hk2
  refine AWp.sr [] fun K3 hk4 => ?_
  obtain ⟨x5, hx6, hm7⟩ := bind1_some hm
  clear hm
  try dsimp only at hm7
  simp
  refine CallAt.fn (r_ref02_Var T hx6) ?_
  obtain ⟨x8, hx9, hm10⟩ := bind1_some hm7
  clear hm7
  try dsimp only at hm10
  simp
  refine CallAt.fn (r_ref05_Pred T hx9) ?_
  obtain ⟨x11, hx12, hm13⟩ := bind1_some hm10
  clear hm10
  try dsimp only at hm13
  simp
  refine CallAt.fn (r_ref02_Var T hx12) ?_
  obtain ⟨x14, hx15, hm16⟩ := bind1_some hm13
  clear hm13
  try dsimp only at hm16
  simp
  refine CallAt.fn (r_ref02_N T hx15) ?_
  obtain ⟨x17, hx18, hm19⟩ := bind1_some hm16
  clear hm16
  try dsimp only at hm19
  simp
  refine CallAt.fn (r_ref05_lam T hx18) ?_
  obtain ⟨x20, hx21, hm22⟩ := bind1_some hm19
  clear hm19
  try dsimp only at hm22
  simp
  refine CallAt.fn (r_ref05_lam T hx21) ?_
  obtain ⟨x23, hx24, hm25⟩ := bind1_some hm22
  clear hm22
  try dsimp only at hm25
  simp
  refine CallAt.fn (r_ref02_Var T hx24) ?_
  obtain ⟨x26, hx27, hm28⟩ := bind1_some hm25
  clear hm25
  try dsimp only at hm28
  simp
  refine CallAt.fn (r_ref05_rec T hx27) ?_
  obtain ⟨x29, hx30, hm31⟩ := bind1_some hm28
  clear hm28
  try dsimp only at hm31
  simp
  refine CallAt.fn (r_ref05_lam T hx30) ?_
  obtain ⟨x32, hx33, hm34⟩ := bind1_some hm31
  clear hm31
  try dsimp only at hm34
  simp
  refine CallAt.fn (r_ref05_lam T hx33) ?_
  simp
  apply hk4
  refine AWp.ret ?_
  obtain rfl := Option.some.inj hm34
  simp [retQ]

theorem enters15 : entersB Tryd.prog 15 = true := by kernel_rfl

theorem rg_mk_Term (T : Tabs) : ∀ (n : Nat), (∀ {H : Heap} {a0 : Smk_Deck} {a1 : (List Ty)} {a2 : Ty} {a3 : Int} {r0 : Tm} {do0 : Smk_Deck} {o0 : Nat} (ho0 : H[o0]? = some [AV.slice .frz (List.map (fun n => AV.sc (Value.int .i64 n)) a0.l), AV.sc (.int .i64 a0.atF)]) (hm : mk_Term n a0 a1 a2 a3 = some (r0, do0)), ACall Tryd.prog T 15 [AV.gptr o0 0, AV.slice .frz (List.map Ty.av a1), Ty.av a2, AV.sc (.int .i64 a3)] H (Tm.av r0) (hset H o0 [AV.slice .frz (List.map (fun n => AV.sc (Value.int .i64 n)) do0.l), AV.sc (.int .i64 do0.atF)])) := by
  intro n
  induction n with
  | zero =>
    skip
    all_goals
      intros
      rename_i hm
      cases hm
  | succ n ih =>
    intro H a0 a1 a2 a3 r0 do0 o0 ho0 hm
    rw [mk_Term] at hm
    have lo0 := inb_of_get ho0
    refine ACallP.at1 ho0 ?_
    refine ACallP.intro (fn := Tryd.f15) Tryd.func15 rfl enters15 (Nat.le_of_ble_eq_true rfl) ?_
    refine AWp.sr [] fun K1 hk2 => ?_
    simp [lo0]
    apply hk2
    refine AWp.sr [] fun K3 hk4 => ?_
    obtain ⟨x5, hx6, hm7⟩ := bind1_some hm
    clear hm
    try dsimp only at hm7
    simp [lo0]
    refine CallAt.fn (r_mk_vars T hx6) ?_
    simp [lo0]
    apply hk4
    refine AWp.seqK fun K8 hk9 => ?_
    obtain ⟨j10, hj11, hm12⟩ := joinB_some hm7
    clear hm7
    refine AWp.seqP (fun fr h => ∃ (v13 : Bool) (v14 : Smk_Deck) (g6_24 : Nat) (g8_24 : Nat), hset H o0 [AV.slice .frz (List.map (fun n => AV.sc (Value.int .i64 n)) v14.l), AV.sc (.int .i64 v14.atF)] = h ∧ (fr.env 0 = AV.gptr o0 0 ∧ fr.env 1 = AV.slice .frz (List.map Ty.av a1) ∧ fr.env 3 = AV.sc (.int .i64 a3) ∧ fr.env 6 = AV.lptr 6 g6_24 0 ∧ fr.env 8 = AV.lptr 8 g8_24 0 ∧ fr.env 9 = AV.slice .frz (List.map (fun n => AV.sc (Value.int .i64 n)) x5) ∧ fr.env 27 = AV.sc (.bool v13) ∧ fr.gen 6 = g6_24 ∧ fr.box 6 = some [AV.sc (.int .i64 a2.kind), AV.slice .frz (List.map Ty.av a2.args)] ∧ fr.gen 8 = g8_24 ∧ fr.box 8 = some [AV.sc (.int .i64 0), AV.sc (.int .i64 0), AV.sc (.int .i64 0), AV.slice .full [], AV.slice .full []]) ∧ j10 v13 v14 = some (r0, do0)) (fun K15 hk16 => ?_) ?_
    · refine AWp.region [] (by decide +kernel) ?_
      rcases ite_some hm12 with ⟨hc17, hm18⟩ | ⟨hc17, hm19⟩
      rotate_left
      · clear hm12
        simp [lo0, hc17]
        refine hk16 _ _ ⟨false, a0, 1, 1, ?_, ⟨?_, ?_, ?_, ?_, ?_, ?_, ?_, ?_, ?_, ?_, ?_⟩, hm19⟩ <;> first | rfl | simp [lo0, hc17]
      clear hm12
      obtain ⟨x20, d21, hx22, hm23⟩ := bind2_some hm18
      clear hm18
      try dsimp only at hm23
      simp [lo0, hc17]
      refine CallAt.fn (r_mk_Deck_Next T (by simp [lo0]) hx22) ?_
      simp [lo0, hc17]
      refine hk16 _ _ ⟨(igt x20 0), d21, 1, 1, ?_, ⟨?_, ?_, ?_, ?_, ?_, ?_, ?_, ?_, ?_, ?_, ?_⟩, hm23⟩ <;> first | rfl | simp [lo0, hc17]
    clear hm12
    rintro fr24 h24 ⟨v13, v14, g6_24, g8_24, rfl, E24, hm25⟩
    subst hj11
    refine AWp.condK fun A26 B27 ga28 gb29 => ?_
    rcases ite_some hm25 with ⟨hc30, hm31⟩ | ⟨hc30, hm32⟩
    · clear hm25
      simp [E24, lo0, hc30]
      apply ga28
      refine AWp.sr [] fun K33 hk34 => ?_
      obtain ⟨x35, d36, hx37, hm38⟩ := bind2_some hm31
      clear hm31
      try dsimp only at hm38
      simp [E24, lo0, hc30]
      refine CallAt.fn (r_mk_Deck_Next T (by simp [lo0]) hx37) ?_
      obtain ⟨x39, hx40, hm41⟩ := bind1_some hm38
      clear hm38
      try dsimp only at hm41
      obtain ⟨x42, hx43, hm44⟩ := bind1_some hm41
      clear hm41
      try dsimp only at hm44
      simp [E24, lo0, hx40, hc30]
      refine CallAt.fn (r_ref02_Var T hx43) ?_
      simp [E24, lo0, hx40, hc30]
      apply hk34
      refine AWp.ret ?_
      simp only [Option.some.injEq, Prod.mk.injEq] at hm44
      obtain ⟨rfl, rfl⟩ := hm44
      simp [retQ, E24, lo0, hx40, hc30]
    clear hm25
    simp [E24, lo0, hc30]
    apply gb29
    refine AWp.skip ?_
    apply hk9
    obtain ⟨j45, hj46, hm47⟩ := joinB_some hm32
    clear hm32
    refine AWp.seqP (fun fr h => ∃ (v48 : Smk_Deck) (g6_51 : Nat) (g8_51 : Nat), hset H o0 [AV.slice .frz (List.map (fun n => AV.sc (Value.int .i64 n)) v48.l), AV.sc (.int .i64 v48.atF)] = h ∧ (fr.env 0 = AV.gptr o0 0 ∧ fr.env 1 = AV.slice .frz (List.map Ty.av a1) ∧ fr.env 3 = AV.sc (.int .i64 a3) ∧ fr.env 6 = AV.lptr 6 g6_51 0 ∧ fr.env 8 = AV.lptr 8 g8_51 0 ∧ fr.gen 6 = g6_51 ∧ fr.box 6 = some [AV.sc (.int .i64 a2.kind), AV.slice .frz (List.map Ty.av a2.args)] ∧ fr.gen 8 = g8_51 ∧ fr.box 8 = some [AV.sc (.int .i64 0), AV.sc (.int .i64 0), AV.sc (.int .i64 0), AV.slice .full [], AV.slice .full []]) ∧ j45 v48 = some (r0, do0)) (fun K49 hk50 => ?_) ?_
    rotate_left
    · clear hm47
      rintro fr51 h51 ⟨v48, g6_51, g8_51, rfl, E51, hm52⟩
      subst hj46
      refine AWp.seqK fun K53 hk54 => ?_
      refine AWp.sr [] fun K55 hk56 => ?_
      simp [E51, lo0, hc30]
      apply hk56
      refine AWp.blockK fun Q57 nn58 ne59 nx60 nr61 => ?_
      refine AWp.sr [] fun K62 hk63 => ?_
      simp [E51, lo0, hc30]
      apply hk63
      refine AWp.condK fun A64 B65 ga66 gb67 => ?_
      rcases ite_some hm52 with ⟨hc68, hm69⟩ | ⟨hc68, hm70⟩
      · clear hm52
        simp [E51, lo0, hc30, hc68]
        apply ga66
        obtain ⟨j71, hj72, hm73⟩ := joinB_some hm69
        clear hm69
        refine AWp.seqP (fun fr h => ∃ (v74 : Smk_Deck) (g8_77 : Nat), hset H o0 [AV.slice .frz (List.map (fun n => AV.sc (Value.int .i64 n)) v74.l), AV.sc (.int .i64 v74.atF)] = h ∧ (fr.env 0 = AV.gptr o0 0 ∧ fr.env 8 = AV.lptr 8 g8_77 0 ∧ fr.gen 8 = g8_77 ∧ fr.box 8 = some [AV.sc (.int .i64 0), AV.sc (.int .i64 0), AV.sc (.int .i64 0), AV.slice .full [], AV.slice .full []]) ∧ j71 v74 = some (r0, do0)) (fun K75 hk76 => ?_) ?_
        rotate_left
        · clear hm73
          rintro fr77 h77 ⟨v74, g8_77, rfl, E77, hm78⟩
          subst hj72
          refine AWp.sr [] fun K79 hk80 => ?_
          obtain ⟨x81, d82, hx83, hm84⟩ := bind2_some hm78
          clear hm78
          try dsimp only at hm84
          simp [E77, lo0, hc30, hc68]
          refine CallAt.fn (r_mk_Deck_Next T (by simp [lo0]) hx83) ?_
          obtain ⟨x85, hx86, hm87⟩ := bind1_some hm84
          clear hm84
          try dsimp only at hm87
          simp [E77, lo0, hc30, hc68]
          refine CallAt.fn (r_mk_Num T hx86) ?_
          simp [E77, lo0, hc30, hc68]
          apply hk80
          refine AWp.ret ?_
          apply nr61
          simp only [Option.some.injEq, Prod.mk.injEq] at hm87
          obtain ⟨rfl, rfl⟩ := hm87
          simp [retQ, E77, lo0, hc30, hc68]
        refine AWp.sr [] fun K88 hk89 => ?_
        simp [E51, lo0, hc30, hc68]
        apply hk89
        refine AWp.condK fun A90 B91 ga92 gb93 => ?_
        rcases ite_some hm73 with ⟨hc94, hm95⟩ | ⟨hc94, hm96⟩
        rotate_left
        · clear hm73
          simp [E51, lo0, hc30, hc68, hc94]
          apply gb93
          refine AWp.skip ?_
          refine hk76 _ _ ⟨v48, g8_51, ?_, ⟨?_, ?_, ?_, ?_⟩, hm96⟩ <;> first | rfl | simp [E51, lo0, hc30, hc68, hc94]
        clear hm73
        simp [E51, lo0, hc30, hc68, hc94]
        apply ga92
        refine AWp.sr [] fun K97 hk98 => ?_
        obtain ⟨x99, d100, hx101, hm102⟩ := bind2_some hm95
        clear hm95
        try dsimp only at hm102
        simp [E51, lo0, hc30, hc68, hc94]
        refine CallAt.fn (r_mk_Deck_Next T (by simp [lo0]) hx101) ?_
        simp [E51, lo0, hc30, hc68, hc94]
        apply hk98
        refine AWp.blockK fun Q103 nn104 ne105 nx106 nr107 => ?_
        refine AWp.sr [] fun K108 hk109 => ?_
        simp [E51, lo0, hc30, hc68, hc94]
        apply hk109
        refine AWp.condK fun A110 B111 ga112 gb113 => ?_
        rcases ite_some hm102 with ⟨hc114, hm115⟩ | ⟨hc114, hm116⟩
        · clear hm102
          simp [E51, lo0, hc30, hc68, hc94, hc114]
          apply ga112
          refine AWp.sr [] fun K117 hk118 => ?_
          obtain ⟨x119, d120, hx121, hm122⟩ := bind2_some hm115
          clear hm115
          try dsimp only at hm122
          simp [E51, lo0, hc30, hc68, hc94, hc114]
          refine CallAt.fn (ih (by simp [lo0]) hx121) ?_
          obtain ⟨x123, hx124, hm125⟩ := bind1_some hm122
          clear hm122
          try dsimp only at hm125
          simp [E51, lo0, hc30, hc68, hc94, hc114]
          refine CallAt.fn (r_ref02_N T hx124) ?_
          simp [E51, lo0, hc30, hc68, hc94, hc114]
          apply hk118
          refine AWp.ret ?_
          apply nr107
          apply nr61
          simp only [Option.some.injEq, Prod.mk.injEq] at hm125
          obtain ⟨rfl, rfl⟩ := hm125
          simp [retQ, E51, lo0, hc30, hc68, hc94, hc114]
        clear hm102
        simp [E51, lo0, hc30, hc68, hc94, hc114]
        apply gb113
        refine AWp.sr [] fun K126 hk127 => ?_
        simp [E51, lo0, hc30, hc68, hc94, hc114]
        apply hk127
        refine AWp.condK fun A128 B129 ga130 gb131 => ?_
        rcases ite_some hm116 with ⟨hc132, hm133⟩ | ⟨hc132, hm134⟩
        · clear hm116
          simp [E51, lo0, hc30, hc68, hc94, hc114, hc132]
          apply ga130
          refine AWp.seqK fun K135 hk136 => ?_
          refine AWp.regionD [] false mixed (by decide +kernel) (by decide +kernel) ?_
          obtain ⟨x137, hx138, hm139⟩ := bind1_some hm133
          clear hm133
          try dsimp only at hm139
          simp [E51, lo0, hc30, hc68, hc94, hc114, hc132]
          refine CallAtD.fn (r_ref05_Plus T hx138) (by simp) ?_
          obtain ⟨x140, d141, hx142, hm143⟩ := bind2_some hm139
          clear hm139
          try dsimp only at hm143
          simp [E51, lo0, hc30, hc68, hc94, hc114, hc132]
          refine CallAtD.fn (ih (by simp [lo0]) hx142) (by simp) ?_
          obtain ⟨x144, d145, hx146, hm147⟩ := bind2_some hm143
          clear hm143
          try dsimp only at hm147
          simp [E51, lo0, hc30, hc68, hc94, hc114, hc132]
          refine CallAtD.fn (ih (by simp [lo0]) hx146) (by simp) ?_
          obtain ⟨x148, hx149, hm150⟩ := bind1_some hm147
          clear hm147
          try dsimp only at hm150
          simp [E51, lo0, hc30, hc68, hc94, hc114, hc132]
          refine CallAtD.fn (r_mk_App T hx149) (by simp) ?_
          simp [E51, lo0, hc30, hc68, hc94, hc114, hc132]
          apply hk136
          refine AWp.ret ?_
          apply nr107
          apply nr61
          simp only [Option.some.injEq, Prod.mk.injEq] at hm150
          obtain ⟨rfl, rfl⟩ := hm150
          simp [retQ, E51, lo0, hc30, hc68, hc94, hc114, hc132]
        clear hm116
        simp [E51, lo0, hc30, hc68, hc94, hc114, hc132]
        apply gb131
        refine AWp.sr [] fun K151 hk152 => ?_
        simp [E51, lo0, hc30, hc68, hc94, hc114, hc132]
        apply hk152
        refine AWp.condK fun A153 B154 ga155 gb156 => ?_
        rcases ite_some hm134 with ⟨hc157, hm158⟩ | ⟨hc157, hm159⟩
        rotate_left
        · clear hm134
          simp [E51, lo0, hc30, hc68, hc94, hc114, hc132, hc157]
          apply gb156
          refine AWp.skip ?_
          apply nn104
          refine hk76 _ _ ⟨d100, g8_51, ?_, ⟨?_, ?_, ?_, ?_⟩, hm159⟩ <;> first | rfl | simp [E51, lo0, hc30, hc68, hc94, hc114, hc132, hc157]
        clear hm134
        simp [E51, lo0, hc30, hc68, hc94, hc114, hc132, hc157]
        apply ga155
        refine AWp.seqK fun K160 hk161 => ?_
        refine AWp.regionD [] false mixed (by decide +kernel) (by decide +kernel) ?_
        obtain ⟨x162, hx163, hm164⟩ := bind1_some hm158
        clear hm158
        try dsimp only at hm164
        simp [E51, lo0, hc30, hc68, hc94, hc114, hc132, hc157]
        refine CallAtD.fn (r_ref05_Sub T hx163) (by simp) ?_
        obtain ⟨x165, d166, hx167, hm168⟩ := bind2_some hm164
        clear hm164
        try dsimp only at hm168
        simp [E51, lo0, hc30, hc68, hc94, hc114, hc132, hc157]
        refine CallAtD.fn (ih (by simp [lo0]) hx167) (by simp) ?_
        obtain ⟨x169, d170, hx171, hm172⟩ := bind2_some hm168
        clear hm168
        try dsimp only at hm172
        simp [E51, lo0, hc30, hc68, hc94, hc114, hc132, hc157]
        refine CallAtD.fn (ih (by simp [lo0]) hx171) (by simp) ?_
        obtain ⟨x173, hx174, hm175⟩ := bind1_some hm172
        clear hm172
        try dsimp only at hm175
        simp [E51, lo0, hc30, hc68, hc94, hc114, hc132, hc157]
        refine CallAtD.fn (r_mk_App T hx174) (by simp) ?_
        simp [E51, lo0, hc30, hc68, hc94, hc114, hc132, hc157]
        apply hk161
        refine AWp.ret ?_
        apply nr107
        apply nr61
        simp only [Option.some.injEq, Prod.mk.injEq] at hm175
        obtain ⟨rfl, rfl⟩ := hm175
        simp [retQ, E51, lo0, hc30, hc68, hc94, hc114, hc132, hc157]
      clear hm52
      simp [E51, lo0, hc30, hc68]
      apply gb67
      refine AWp.sr [] fun K176 hk177 => ?_
      simp [E51, lo0, hc30, hc68]
      apply hk177
      refine AWp.condK fun A178 B179 ga180 gb181 => ?_
      rcases ite_some hm70 with ⟨hc182, hm183⟩ | ⟨hc182, hm184⟩
      · clear hm70
        simp [E51, lo0, hc30, hc68, hc182]
        apply ga180
        refine AWp.seqK fun K185 hk186 => ?_
        obtain ⟨j187, hj188, hm189⟩ := joinB_some hm183
        clear hm183
        refine AWp.seqP (fun fr h => ∃ (v190 : Bool) (v191 : Smk_Deck) (g6_201 : Nat) (g8_201 : Nat), hset H o0 [AV.slice .frz (List.map (fun n => AV.sc (Value.int .i64 n)) v191.l), AV.sc (.int .i64 v191.atF)] = h ∧ (fr.env 0 = AV.gptr o0 0 ∧ fr.env 1 = AV.slice .frz (List.map Ty.av a1) ∧ fr.env 3 = AV.sc (.int .i64 a3) ∧ fr.env 6 = AV.lptr 6 g6_201 0 ∧ fr.env 8 = AV.lptr 8 g8_201 0 ∧ fr.env 276 = AV.sc (.bool v190) ∧ fr.gen 6 = g6_201 ∧ fr.box 6 = some [AV.sc (.int .i64 a2.kind), AV.slice .frz (List.map Ty.av a2.args)] ∧ fr.gen 8 = g8_201 ∧ fr.box 8 = some [AV.sc (.int .i64 0), AV.sc (.int .i64 0), AV.sc (.int .i64 0), AV.slice .full [], AV.slice .full []]) ∧ j187 v190 v191 = some (r0, do0)) (fun K192 hk193 => ?_) ?_
        · refine AWp.region [] (by decide +kernel) ?_
          rcases ite_some hm189 with ⟨hc194, hm195⟩ | ⟨hc194, hm196⟩
          rotate_left
          · clear hm189
            simp [E51, lo0, hc30, hc68, hc182, hc194]
            refine hk193 _ _ ⟨false, v48, g6_51, g8_51, ?_, ⟨?_, ?_, ?_, ?_, ?_, ?_, ?_, ?_, ?_, ?_⟩, hm196⟩ <;> first | rfl | simp [E51, lo0, hc30, hc68, hc182, hc194]
          clear hm189
          obtain ⟨x197, d198, hx199, hm200⟩ := bind2_some hm195
          clear hm195
          try dsimp only at hm200
          simp [E51, lo0, hc30, hc68, hc182, hc194]
          refine CallAt.fn (r_mk_Deck_Next T (by simp [lo0]) hx199) ?_
          simp [E51, lo0, hc30, hc68, hc182, hc194]
          refine hk193 _ _ ⟨(ieq x197 0), d198, g6_51, g8_51, ?_, ⟨?_, ?_, ?_, ?_, ?_, ?_, ?_, ?_, ?_, ?_⟩, hm200⟩ <;> first | rfl | simp [E51, lo0, hc30, hc68, hc182, hc194]
        clear hm189
        rintro fr201 h201 ⟨v190, v191, g6_201, g8_201, rfl, E201, hm202⟩
        subst hj188
        refine AWp.condK fun A203 B204 ga205 gb206 => ?_
        rcases ite_some hm202 with ⟨hc207, hm208⟩ | ⟨hc207, hm209⟩
        rotate_left
        · clear hm202
          simp [E201, lo0, hc30, hc68, hc182, hc207]
          apply gb206
          refine AWp.skip ?_
          apply hk186
          refine AWp.sr [] fun K210 hk211 => ?_
          obtain ⟨x212, hx213, hm214⟩ := bind1_some hm209
          clear hm209
          try dsimp only at hm214
          simp [E201, lo0, hc30, hc68, hc182, hc207]
          refine CallAt.fn (r_ref02_N T hx213) ?_
          simp [E201, lo0, hc30, hc68, hc182, hc207]
          apply hk211
          refine AWp.ret ?_
          apply nr61
          simp only [Option.some.injEq, Prod.mk.injEq] at hm214
          obtain ⟨rfl, rfl⟩ := hm214
          simp [retQ, E201, lo0, hc30, hc68, hc182, hc207]
        clear hm202
        simp [E201, lo0, hc30, hc68, hc182, hc207]
        apply ga205
        refine AWp.seqK fun K215 hk216 => ?_
        refine AWp.regionD [] false mixed (by decide +kernel) (by decide +kernel) ?_
        obtain ⟨x217, hx218, hm219⟩ := bind1_some hm208
        clear hm208
        try dsimp only at hm219
        simp [E201, lo0, hc30, hc68, hc182, hc207]
        refine CallAtD.fn (r_ref01_Nat T hx218) (by simp) ?_
        obtain ⟨x220, d221, hx222, hm223⟩ := bind2_some hm219
        clear hm219
        try dsimp only at hm223
        simp [E201, lo0, hc30, hc68, hc182, hc207]
        refine CallAtD.fn (ih (by simp [lo0]) hx222) (by simp) ?_
        obtain ⟨x224, d225, hx226, hm227⟩ := bind2_some hm223
        clear hm223
        try dsimp only at hm227
        simp [E201, lo0, hc30, hc68, hc182, hc207]
        refine CallAtD.fn (ih (by simp [lo0]) hx226) (by simp) ?_
        obtain ⟨x228, hx229, hm230⟩ := bind1_some hm227
        clear hm227
        try dsimp only at hm230
        simp [E201, lo0, hc30, hc68, hc182, hc207]
        refine CallAtD.fn (r_ref02_N T hx229) (by simp) ?_
        simp [E201, lo0, hc30, hc68, hc182, hc207]
        apply hk216
        refine AWp.ret ?_
        apply nr61
        simp only [Option.some.injEq, Prod.mk.injEq] at hm230
        obtain ⟨rfl, rfl⟩ := hm230
        simp [retQ, E201, lo0, hc30, hc68, hc182, hc207]
      clear hm70
      simp [E51, lo0, hc30, hc68, hc182]
      apply gb181
      refine AWp.sr [] fun K231 hk232 => ?_
      simp [E51, lo0, hc30, hc68, hc182]
      apply hk232
      refine AWp.condK fun A233 B234 ga235 gb236 => ?_
      rcases ite_some hm184 with ⟨hc237, hm238⟩ | ⟨hc237, hm239⟩
      · clear hm184
        simp [E51, lo0, hc30, hc68, hc182, hc237]
        apply ga235
        refine AWp.seqK fun K240 hk241 => ?_
        refine AWp.regionD [] false mixed (by decide +kernel) (by decide +kernel) ?_
        obtain ⟨x242, hx243, hm244⟩ := bind1_some hm238
        clear hm238
        try dsimp only at hm244
        obtain ⟨x245, d246, hx247, hm248⟩ := bind2_some hm244
        clear hm244
        try dsimp only at hm248
        simp [E51, lo0, hx243, hc30, hc68, hc182, hc237]
        refine CallAtD.fn (ih (by simp [lo0]) hx247) (by simp) ?_
        obtain ⟨x249, hx250, hm251⟩ := bind1_some hm248
        clear hm248
        try dsimp only at hm251
        obtain ⟨x252, d253, hx254, hm255⟩ := bind2_some hm251
        clear hm251
        try dsimp only at hm255
        simp [E51, lo0, hx243, hx250, hc30, hc68, hc182, hc237]
        refine CallAtD.fn (ih (by simp [lo0]) hx254) (by simp) ?_
        obtain ⟨x256, hx257, hm258⟩ := bind1_some hm255
        clear hm255
        try dsimp only at hm258
        simp [E51, lo0, hx243, hx250, hc30, hc68, hc182, hc237]
        refine CallAtD.fn (r_ref02_N T hx257) (by simp) ?_
        simp [E51, lo0, hx243, hx250, hc30, hc68, hc182, hc237]
        apply hk241
        refine AWp.ret ?_
        apply nr61
        simp only [Option.some.injEq, Prod.mk.injEq] at hm258
        obtain ⟨rfl, rfl⟩ := hm258
        simp [retQ, E51, lo0, hx243, hx250, hc30, hc68, hc182, hc237]
      clear hm184
      simp [E51, lo0, hc30, hc68, hc182, hc237]
      apply gb236
      refine AWp.sr [] fun K259 hk260 => ?_
      simp [E51, lo0, hc30, hc68, hc182, hc237]
      apply hk260
      refine AWp.condK fun A261 B262 ga263 gb264 => ?_
      rcases ite_some hm239 with ⟨hc265, hm266⟩ | ⟨hc265, hm267⟩
      rotate_left
      · clear hm239
        simp [E51, lo0, hc30, hc68, hc182, hc237, hc265]
        apply gb264
        refine AWp.skip ?_
        apply nn58
        apply hk54
        refine AWp.sr [] fun K268 hk269 => ?_
        obtain ⟨x270, hx271, hm272⟩ := bind1_some hm267
        clear hm267
        try dsimp only at hm272
        simp [E51, lo0, hc30, hc68, hc182, hc237, hc265]
        refine CallAt.fn (r_ref02_N T hx271) ?_
        simp [E51, lo0, hc30, hc68, hc182, hc237, hc265]
        apply hk269
        refine AWp.ret ?_
        simp only [Option.some.injEq, Prod.mk.injEq] at hm272
        obtain ⟨rfl, rfl⟩ := hm272
        simp [retQ, E51, lo0, hc30, hc68, hc182, hc237, hc265]
      clear hm239
      simp [E51, lo0, hc30, hc68, hc182, hc237, hc265]
      apply ga263
      refine AWp.seqK fun K273 hk274 => ?_
      refine AWp.regionD [] false mixed (by decide +kernel) (by decide +kernel) ?_
      obtain ⟨x275, hx276, hm277⟩ := bind1_some hm266
      clear hm266
      try dsimp only at hm277
      obtain ⟨x278, hx279, hm280⟩ := bind1_some hm277
      clear hm277
      try dsimp only at hm280
      simp [E51, lo0, hx276, hc30, hc68, hc182, hc237, hc265]
      refine CallAtD.fn (r_mk_longer T hx279) (by simp) ?_
      obtain ⟨x281, hx282, hm283⟩ := bind1_some hm280
      clear hm280
      try dsimp only at hm283
      obtain ⟨x284, d285, hx286, hm287⟩ := bind2_some hm283
      clear hm283
      try dsimp only at hm287
      simp [E51, lo0, hx276, hx282, hc30, hc68, hc182, hc237, hc265]
      refine CallAtD.fn (ih (by simp [lo0]) hx286) (by simp) ?_
      obtain ⟨x288, hx289, hm290⟩ := bind1_some hm287
      clear hm287
      try dsimp only at hm290
      simp [E51, lo0, hx276, hx282, hc30, hc68, hc182, hc237, hc265]
      refine CallAtD.fn (r_ref02_T T hx289) (by simp) ?_
      simp [E51, lo0, hx276, hx282, hc30, hc68, hc182, hc237, hc265]
      apply hk274
      refine AWp.ret ?_
      apply nr61
      simp only [Option.some.injEq, Prod.mk.injEq] at hm290
      obtain ⟨rfl, rfl⟩ := hm290
      simp [retQ, E51, lo0, hx276, hx282, hc30, hc68, hc182, hc237, hc265]
    refine AWp.sr [] fun K291 hk292 => ?_
    simp [E24, lo0, hc30]
    apply hk292
    refine AWp.condK fun A293 B294 ga295 gb296 => ?_
    rcases ite_some hm47 with ⟨hc297, hm298⟩ | ⟨hc297, hm299⟩
    rotate_left
    · clear hm47
      simp [E24, lo0, hc30, hc297]
      apply gb296
      refine AWp.skip ?_
      refine hk50 _ _ ⟨v14, g6_24, g8_24, ?_, ⟨?_, ?_, ?_, ?_, ?_, ?_, ?_, ?_, ?_⟩, hm299⟩ <;> first | rfl | simp [E24, lo0, hc30, hc297]
    clear hm47
    simp [E24, lo0, hc30, hc297]
    apply ga295
    refine AWp.sr [] fun K300 hk301 => ?_
    obtain ⟨x302, d303, hx304, hm305⟩ := bind2_some hm298
    clear hm298
    try dsimp only at hm305
    simp [E24, lo0, hc30, hc297]
    refine CallAt.fn (r_mk_Deck_Next T (by simp [lo0]) hx304) ?_
    simp [E24, lo0, hc30, hc297]
    apply hk301
    refine AWp.blockK fun Q306 nn307 ne308 nx309 nr310 => ?_
    refine AWp.sr [] fun K311 hk312 => ?_
    simp [E24, lo0, hc30, hc297]
    apply hk312
    refine AWp.condK fun A313 B314 ga315 gb316 => ?_
    rcases ite_some hm305 with ⟨hc317, hm318⟩ | ⟨hc317, hm319⟩
    · clear hm305
      simp [E24, lo0, hc30, hc297, hc317]
      apply ga315
      refine AWp.sr [] fun K320 hk321 => ?_
      obtain ⟨x322, d323, hx324, hm325⟩ := bind2_some hm318
      clear hm318
      try dsimp only at hm325
      simp [E24, lo0, hc30, hc297, hc317]
      refine CallAt.fn (r_mk_Type T (by simp [lo0]) hx324) ?_
      simp [E24, lo0, hc30, hc297, hc317]
      apply hk321
      refine AWp.seqK fun K326 hk327 => ?_
      refine AWp.regionD [] false mixed (by decide +kernel) (by decide +kernel) ?_
      obtain ⟨x328, hx329, hm330⟩ := bind1_some hm325
      clear hm325
      try dsimp only at hm330
      simp [E24, lo0, hc30, hc297, hc317]
      refine CallAtD.fn (r_mk_longer T hx329) (by simp) ?_
      obtain ⟨x331, d332, hx333, hm334⟩ := bind2_some hm330
      clear hm330
      try dsimp only at hm334
      simp [E24, lo0, hc30, hc297, hc317]
      refine CallAtD.fn (ih (by simp [lo0]) hx333) (by simp) ?_
      obtain ⟨x335, hx336, hm337⟩ := bind1_some hm334
      clear hm334
      try dsimp only at hm337
      simp [E24, lo0, hc30, hc297, hc317]
      refine CallAtD.fn (r_ref02_T T hx336) (by simp) ?_
      obtain ⟨x338, d339, hx340, hm341⟩ := bind2_some hm337
      clear hm337
      try dsimp only at hm341
      simp [E24, lo0, hc30, hc297, hc317]
      refine CallAtD.fn (ih (by simp [lo0]) hx340) (by simp) ?_
      obtain ⟨x342, hx343, hm344⟩ := bind1_some hm341
      clear hm341
      try dsimp only at hm344
      simp [E24, lo0, hc30, hc297, hc317]
      refine CallAtD.fn (r_ref02_N T hx343) (by simp) ?_
      simp [E24, lo0, hc30, hc297, hc317]
      apply hk327
      refine AWp.ret ?_
      apply nr310
      simp only [Option.some.injEq, Prod.mk.injEq] at hm344
      obtain ⟨rfl, rfl⟩ := hm344
      simp [retQ, E24, lo0, hc30, hc297, hc317]
    clear hm305
    simp [E24, lo0, hc30, hc297, hc317]
    apply gb316
    refine AWp.sr [] fun K345 hk346 => ?_
    simp [E24, lo0, hc30, hc297, hc317]
    apply hk346
    refine AWp.condK fun A347 B348 ga349 gb350 => ?_
    rcases ite_some hm319 with ⟨hc351, hm352⟩ | ⟨hc351, hm353⟩
    · clear hm319
      simp [E24, lo0, hc30, hc297, hc317, hc351]
      apply ga349
      refine AWp.sr [] fun K354 hk355 => ?_
      obtain ⟨x356, d357, hx358, hm359⟩ := bind2_some hm352
      clear hm352
      try dsimp only at hm359
      simp [E24, lo0, hc30, hc297, hc317, hc351]
      refine CallAt.fn (r_mk_Type T (by simp [lo0]) hx358) ?_
      simp [E24, lo0, hc30, hc297, hc317, hc351]
      apply hk355
      refine AWp.seqK fun K360 hk361 => ?_
      refine AWp.regionD [] false mixed (by decide +kernel) (by decide +kernel) ?_
      obtain ⟨x362, d363, hx364, hm365⟩ := bind2_some hm359
      clear hm359
      try dsimp only at hm365
      simp [E24, lo0, hc30, hc297, hc317, hc351]
      refine CallAtD.fn (ih (by simp [lo0]) hx364) (by simp) ?_
      obtain ⟨x366, d367, hx368, hm369⟩ := bind2_some hm365
      clear hm365
      try dsimp only at hm369
      simp [E24, lo0, hc30, hc297, hc317, hc351]
      refine CallAtD.fn (ih (by simp [lo0]) hx368) (by simp) ?_
      obtain ⟨x370, hx371, hm372⟩ := bind1_some hm369
      clear hm369
      try dsimp only at hm372
      simp [E24, lo0, hc30, hc297, hc317, hc351]
      refine CallAtD.fn (r_ref02_N T hx371) (by simp) ?_
      obtain ⟨x373, hx374, hm375⟩ := bind1_some hm372
      clear hm372
      try dsimp only at hm375
      simp [E24, lo0, hc30, hc297, hc317, hc351]
      refine CallAtD.fn (r_ref02_N T hx374) (by simp) ?_
      simp [E24, lo0, hc30, hc297, hc317, hc351]
      apply hk361
      refine AWp.ret ?_
      apply nr310
      simp only [Option.some.injEq, Prod.mk.injEq] at hm375
      obtain ⟨rfl, rfl⟩ := hm375
      simp [retQ, E24, lo0, hc30, hc297, hc317, hc351]
    clear hm319
    simp [E24, lo0, hc30, hc297, hc317, hc351]
    apply gb350
    refine AWp.sr [] fun K376 hk377 => ?_
    simp [E24, lo0, hc30, hc297, hc317, hc351]
    apply hk377
    refine AWp.condK fun A378 B379 ga380 gb381 => ?_
    rcases ite_some hm353 with ⟨hc382, hm383⟩ | ⟨hc382, hm384⟩
    · clear hm353
      simp [E24, lo0, hc30, hc297, hc317, hc351, hc382]
      apply ga380
      refine AWp.seqK fun K385 hk386 => ?_
      refine AWp.regionD [] false mixed (by decide +kernel) (by decide +kernel) ?_
      obtain ⟨x387, hx388, hm389⟩ := bind1_some hm383
      clear hm383
      try dsimp only at hm389
      simp [E24, lo0, hc30, hc297, hc317, hc351, hc382]
      refine CallAtD.fn (r_ref01_Nat T hx388) (by simp) ?_
      obtain ⟨x390, hx391, hm392⟩ := bind1_some hm389
      clear hm389
      try dsimp only at hm392
      simp [E24, lo0, hc30, hc297, hc317, hc351, hc382]
      refine CallAtD.fn (r_ref01_Nat T hx391) (by simp) ?_
      obtain ⟨x393, hx394, hm395⟩ := bind1_some hm392
      clear hm392
      try dsimp only at hm395
      simp [E24, lo0, hc30, hc297, hc317, hc351, hc382]
      refine CallAtD.fn (r_mk_longer T hx394) (by simp) ?_
      obtain ⟨x396, d397, hx398, hm399⟩ := bind2_some hm395
      clear hm395
      try dsimp only at hm399
      simp [E24, lo0, hc30, hc297, hc317, hc351, hc382]
      refine CallAtD.fn (ih (by simp [lo0]) hx398) (by simp) ?_
      obtain ⟨x400, hx401, hm402⟩ := bind1_some hm399
      clear hm399
      try dsimp only at hm402
      simp [E24, lo0, hc30, hc297, hc317, hc351, hc382]
      refine CallAtD.fn (r_ref02_T T hx401) (by simp) ?_
      obtain ⟨x403, hx404, hm405⟩ := bind1_some hm402
      clear hm402
      try dsimp only at hm405
      simp [E24, lo0, hc30, hc297, hc317, hc351, hc382]
      refine CallAtD.fn (r_ref02_T T hx404) (by simp) ?_
      simp [E24, lo0, hc30, hc297, hc317, hc351, hc382]
      apply hk386
      refine AWp.seqK fun K406 hk407 => ?_
      refine AWp.regionD [] false mixed (by decide +kernel) (by decide +kernel) ?_
      obtain ⟨x408, d409, hx410, hm411⟩ := bind2_some hm405
      clear hm405
      try dsimp only at hm411
      simp [E24, lo0, hc30, hc297, hc317, hc351, hc382]
      refine CallAtD.fn (ih (by simp [lo0]) hx410) (by simp) ?_
      obtain ⟨x412, d413, hx414, hm415⟩ := bind2_some hm411
      clear hm411
      try dsimp only at hm415
      simp [E24, lo0, hc30, hc297, hc317, hc351, hc382]
      refine CallAtD.fn (r_mk_Deck_Next T (by simp [lo0]) hx414) (by simp) ?_
      obtain ⟨x416, hx417, hm418⟩ := bind1_some hm415
      clear hm415
      try dsimp only at hm418
      simp [E24, lo0, hc30, hc297, hc317, hc351, hc382]
      refine CallAtD.fn (r_mk_Num T hx417) (by simp) ?_
      obtain ⟨x419, hx420, hm421⟩ := bind1_some hm418
      clear hm418
      try dsimp only at hm421
      simp [E24, lo0, hc30, hc297, hc317, hc351, hc382]
      refine CallAtD.fn (r_ref02_T T hx420) (by simp) ?_
      simp [E24, lo0, hc30, hc297, hc317, hc351, hc382]
      apply hk407
      refine AWp.ret ?_
      apply nr310
      simp only [Option.some.injEq, Prod.mk.injEq] at hm421
      obtain ⟨rfl, rfl⟩ := hm421
      simp [retQ, E24, lo0, hc30, hc297, hc317, hc351, hc382]
    clear hm353
    simp [E24, lo0, hc30, hc297, hc317, hc351, hc382]
    apply gb381
    refine AWp.sr [] fun K422 hk423 => ?_
    simp [E24, lo0, hc30, hc297, hc317, hc351, hc382]
    apply hk423
    refine AWp.condK fun A424 B425 ga426 gb427 => ?_
    rcases ite_some hm384 with ⟨hc428, hm429⟩ | ⟨hc428, hm430⟩
    · clear hm384
      simp [E24, lo0, hc30, hc297, hc317, hc351, hc382, hc428]
      apply ga426
      refine AWp.seqK fun K431 hk432 => ?_
      refine AWp.regionD [] false mixed (by decide +kernel) (by decide +kernel) ?_
      obtain ⟨x433, hx434, hm435⟩ := bind1_some hm429
      clear hm429
      try dsimp only at hm435
      simp [E24, lo0, hc30, hc297, hc317, hc351, hc382, hc428]
      refine CallAtD.fn (r_ref01_Nat T hx434) (by simp) ?_
      obtain ⟨x436, hx437, hm438⟩ := bind1_some hm435
      clear hm435
      try dsimp only at hm438
      simp [E24, lo0, hc30, hc297, hc317, hc351, hc382, hc428]
      refine CallAtD.fn (r_ref01_List T hx437) (by simp) ?_
      obtain ⟨x439, hx440, hm441⟩ := bind1_some hm438
      clear hm438
      try dsimp only at hm441
      simp [E24, lo0, hc30, hc297, hc317, hc351, hc382, hc428]
      refine CallAtD.fn (r_ref01_Nat T hx440) (by simp) ?_
      obtain ⟨x442, hx443, hm444⟩ := bind1_some hm441
      clear hm441
      try dsimp only at hm444
      simp [E24, lo0, hc30, hc297, hc317, hc351, hc382, hc428]
      refine CallAtD.fn (r_ref01_List T hx443) (by simp) ?_
      obtain ⟨x445, hx446, hm447⟩ := bind1_some hm444
      clear hm444
      try dsimp only at hm447
      simp [E24, lo0, hc30, hc297, hc317, hc351, hc382, hc428]
      refine CallAtD.fn (r_mk_longer T hx446) (by simp) ?_
      obtain ⟨x448, d449, hx450, hm451⟩ := bind2_some hm447
      clear hm447
      try dsimp only at hm451
      simp [E24, lo0, hc30, hc297, hc317, hc351, hc382, hc428]
      refine CallAtD.fn (ih (by simp [lo0]) hx450) (by simp) ?_
      obtain ⟨x452, hx453, hm454⟩ := bind1_some hm451
      clear hm451
      try dsimp only at hm454
      simp [E24, lo0, hc30, hc297, hc317, hc351, hc382, hc428]
      refine CallAtD.fn (r_ref02_T T hx453) (by simp) ?_
      obtain ⟨x455, hx456, hm457⟩ := bind1_some hm454
      clear hm454
      try dsimp only at hm457
      simp [E24, lo0, hc30, hc297, hc317, hc351, hc382, hc428]
      refine CallAtD.fn (r_ref02_T T hx456) (by simp) ?_
      obtain ⟨x458, hx459, hm460⟩ := bind1_some hm457
      clear hm457
      try dsimp only at hm460
      simp [E24, lo0, hc30, hc297, hc317, hc351, hc382, hc428]
      refine CallAtD.fn (r_ref02_T T hx459) (by simp) ?_
      simp [E24, lo0, hc30, hc297, hc317, hc351, hc382, hc428]
      apply hk432
      refine AWp.seqK fun K461 hk462 => ?_
      refine AWp.regionD [] false mixed (by decide +kernel) (by decide +kernel) ?_
      obtain ⟨x463, d464, hx465, hm466⟩ := bind2_some hm460
      clear hm460
      try dsimp only at hm466
      simp [E24, lo0, hc30, hc297, hc317, hc351, hc382, hc428]
      refine CallAtD.fn (ih (by simp [lo0]) hx465) (by simp) ?_
      obtain ⟨x467, hx468, hm469⟩ := bind1_some hm466
      clear hm466
      try dsimp only at hm469
      simp [E24, lo0, hc30, hc297, hc317, hc351, hc382, hc428]
      refine CallAtD.fn (r_ref01_List T hx468) (by simp) ?_
      obtain ⟨x470, d471, hx472, hm473⟩ := bind2_some hm469
      clear hm469
      try dsimp only at hm473
      simp [E24, lo0, hc30, hc297, hc317, hc351, hc382, hc428]
      refine CallAtD.fn (ih (by simp [lo0]) hx472) (by simp) ?_
      obtain ⟨x474, hx475, hm476⟩ := bind1_some hm473
      clear hm473
      try dsimp only at hm476
      simp [E24, lo0, hc30, hc297, hc317, hc351, hc382, hc428]
      refine CallAtD.fn (r_ref02_T T hx475) (by simp) ?_
      simp [E24, lo0, hc30, hc297, hc317, hc351, hc382, hc428]
      apply hk462
      refine AWp.ret ?_
      apply nr310
      simp only [Option.some.injEq, Prod.mk.injEq] at hm476
      obtain ⟨rfl, rfl⟩ := hm476
      simp [retQ, E24, lo0, hc30, hc297, hc317, hc351, hc382, hc428]
    clear hm384
    simp [E24, lo0, hc30, hc297, hc317, hc351, hc382, hc428]
    apply gb427
    refine AWp.sr [] fun K477 hk478 => ?_
    simp [E24, lo0, hc30, hc297, hc317, hc351, hc382, hc428]
    apply hk478
    refine AWp.condK fun A479 B480 ga481 gb482 => ?_
    rcases ite_some hm430 with ⟨hc483, hm484⟩ | ⟨hc483, hm485⟩
    · clear hm430
      simp [E24, lo0, hc30, hc297, hc317, hc351, hc382, hc428, hc483]
      apply ga481
      refine AWp.sr [] fun K486 hk487 => ?_
      obtain ⟨x488, d489, hx490, hm491⟩ := bind2_some hm484
      clear hm484
      try dsimp only at hm491
      simp [E24, lo0, hc30, hc297, hc317, hc351, hc382, hc428, hc483]
      refine CallAt.fn (r_mk_Type T (by simp [lo0]) hx490) ?_
      simp [E24, lo0, hc30, hc297, hc317, hc351, hc382, hc428, hc483]
      apply hk487
      refine AWp.seqK fun K492 hk493 => ?_
      refine AWp.regionD [] false mixed (by decide +kernel) (by decide +kernel) ?_
      obtain ⟨x494, d495, hx496, hm497⟩ := bind2_some hm491
      clear hm491
      try dsimp only at hm497
      simp [E24, lo0, hc30, hc297, hc317, hc351, hc382, hc428, hc483]
      refine CallAtD.fn (ih (by simp [lo0]) hx496) (by simp) ?_
      obtain ⟨x498, d499, hx500, hm501⟩ := bind2_some hm497
      clear hm497
      try dsimp only at hm501
      simp [E24, lo0, hc30, hc297, hc317, hc351, hc382, hc428, hc483]
      refine CallAtD.fn (ih (by simp [lo0]) hx500) (by simp) ?_
      obtain ⟨x502, hx503, hm504⟩ := bind1_some hm501
      clear hm501
      try dsimp only at hm504
      simp [E24, lo0, hc30, hc297, hc317, hc351, hc382, hc428, hc483]
      refine CallAtD.fn (r_ref02_N T hx503) (by simp) ?_
      obtain ⟨x505, hx506, hm507⟩ := bind1_some hm504
      clear hm504
      try dsimp only at hm507
      simp [E24, lo0, hc30, hc297, hc317, hc351, hc382, hc428, hc483]
      refine CallAtD.fn (r_ref02_N T hx506) (by simp) ?_
      simp [E24, lo0, hc30, hc297, hc317, hc351, hc382, hc428, hc483]
      apply hk493
      refine AWp.ret ?_
      apply nr310
      simp only [Option.some.injEq, Prod.mk.injEq] at hm507
      obtain ⟨rfl, rfl⟩ := hm507
      simp [retQ, E24, lo0, hc30, hc297, hc317, hc351, hc382, hc428, hc483]
    clear hm430
    simp [E24, lo0, hc30, hc297, hc317, hc351, hc382, hc428, hc483]
    apply gb482
    refine AWp.sr [] fun K508 hk509 => ?_
    simp [E24, lo0, hc30, hc297, hc317, hc351, hc382, hc428, hc483]
    apply hk509
    refine AWp.condK fun A510 B511 ga512 gb513 => ?_
    rcases ite_some hm485 with ⟨hc514, hm515⟩ | ⟨hc514, hm516⟩
    rotate_left
    · clear hm485
      simp [E24, lo0, hc30, hc297, hc317, hc351, hc382, hc428, hc483, hc514]
      apply gb513
      refine AWp.skip ?_
      apply nn307
      refine hk50 _ _ ⟨d303, g6_24, g8_24, ?_, ⟨?_, ?_, ?_, ?_, ?_, ?_, ?_, ?_, ?_⟩, hm516⟩ <;> first | rfl | simp [E24, lo0, hc30, hc297, hc317, hc351, hc382, hc428, hc483, hc514]
    clear hm485
    simp [E24, lo0, hc30, hc297, hc317, hc351, hc382, hc428, hc483, hc514]
    apply ga512
    refine AWp.sr [] fun K517 hk518 => ?_
    simp [E24, lo0, hc30, hc297, hc317, hc351, hc382, hc428, hc483, hc514]
    apply hk518
    obtain ⟨hok519, hm520⟩ := chk_some hm515
    clear hm515
    obtain ⟨F521, hF522, hm523⟩ := joinB_some hm520
    clear hm520
    try dsimp only at hm523
    obtain ⟨out524, hl525, hmB526⟩ := bind1_some hm523
    clear hm523
    refine AWp.blockK fun Q527 nn528 ne529 nx530 nr531 => ?_
    refine AWp.loopF (fun n532 fr h => ∃ (i533 : Nat) (j534 : Int) (g6_535 : Nat) (g8_535 : Nat), hset H o0 [AV.slice .frz (List.map (fun n => AV.sc (Value.int .i64 n)) d303.l), AV.sc (.int .i64 d303.atF)] = h ∧ (fr.env 0 = AV.gptr o0 0 ∧ fr.env 1 = AV.slice .frz (List.map Ty.av a1) ∧ fr.env 3 = AV.sc (.int .i64 a3) ∧ fr.env 6 = AV.lptr 6 g6_535 0 ∧ fr.env 8 = AV.lptr 8 g8_535 0 ∧ fr.env 176 = AV.sc (.int .i64 (llen a1)) ∧ fr.env 177 = AV.sc (.int .i64 j534) ∧ fr.gen 6 = g6_535 ∧ fr.box 6 = some [AV.sc (.int .i64 a2.kind), AV.slice .frz (List.map Ty.av a2.args)] ∧ fr.gen 8 = g8_535 ∧ fr.box 8 = some [AV.sc (.int .i64 0), AV.sc (.int .i64 0), AV.sc (.int .i64 0), AV.slice .full [], AV.slice .full []]) ∧ j534 = (i533 : Int) ∧ i533 + n532 = List.length a1 ∧ forR F521 (List.drop i533 a1) i533 () = some out524) (List.length a1) ?_ ?_
    · refine ⟨0, 0, g6_24, g8_24, ?_, ⟨?_, ?_, ?_, ?_, ?_, ?_, ?_, ?_, ?_, ?_, ?_⟩, rfl, (by simp), hl525⟩ <;> first | rfl | simp [E24, lo0, hc30, hc297, hc317, hc351, hc382, hc428, hc483, hc514]
    rintro n532 fr535 h535 ⟨i533, j534, g6_535, g8_535, rfl, E535, hj536, hi537, hl525⟩ K538 hK539
    rcases n532 with _ | n532
    · have hlt540 := ilt_notJ (l := a1) hj536 (by omega)
      refine AWp.sr [] fun K541 hk542 => ?_
      simp [E535, lo0, hlt540, hc30, hc297, hc317, hc351, hc382, hc428, hc483, hc514]
      apply hk542
      refine AWp.seqK fun K543 hk544 => ?_
      refine AWp.condK fun A545 B546 ga547 gb548 => ?_
      simp [E535, lo0, hlt540, hc30, hc297, hc317, hc351, hc382, hc428, hc483, hc514]
      apply gb548
      refine AWp.exit ?_
      apply ne529
      rw [List.drop_eq_nil_of_le (by omega), forR_nil] at hl525
      obtain rfl := Option.some.inj hl525
      rw [sumK_inl] at hmB526
      try dsimp only at hmB526
      apply nn307
      refine hk50 _ _ ⟨d303, g6_535, g8_535, ?_, ⟨?_, ?_, ?_, ?_, ?_, ?_, ?_, ?_, ?_⟩, hmB526⟩ <;> first | rfl | simp [E535, lo0, hlt540, hc30, hc297, hc317, hc351, hc382, hc428, hc483, hc514]
    have hlt540 := ilt_ofJ (l := a1) hj536 (by omega)
    obtain ⟨x549, hdn532, hg550⟩ := drop_ltJ (l := a1) hj536 (by omega)
    rw [hdn532, forR_cons] at hl525
    obtain ⟨c551, hb552, hk553⟩ := bind1_some hl525
    clear hl525
    rw [hF522, ← hj536] at hb552
    try dsimp only at hb552
    refine AWp.sr [] fun K554 hk555 => ?_
    simp [E535, lo0, hlt540, hg550, hc30, hc297, hc317, hc351, hc382, hc428, hc483, hc514]
    apply hk555
    refine AWp.seqK fun K556 hk557 => ?_
    refine AWp.condK fun A558 B559 ga560 gb561 => ?_
    simp [E535, lo0, hlt540, hg550, hc30, hc297, hc317, hc351, hc382, hc428, hc483, hc514]
    apply ga560
    refine AWp.skip ?_
    apply hk557
    refine AWp.seqK fun K562 hk563 => ?_
    refine AWp.blockK fun Q564 nn565 ne566 nx567 nr568 => ?_
    refine AWp.sr [] fun K569 hk570 => ?_
    simp [E535, lo0, hlt540, hg550, hc30, hc297, hc317, hc351, hc382, hc428, hc483, hc514]
    apply hk570
    refine AWp.sr [] fun K571 hk572 => ?_
    obtain ⟨x573, hx574, hm575⟩ := bind1_some hb552
    clear hb552
    try dsimp only at hm575
    simp [E535, lo0, hlt540, hg550, hx574, hc30, hc297, hc317, hc351, hc382, hc428, hc483, hc514]
    apply hk572
    obtain ⟨j576, hj577, hm578⟩ := joinB_some hm575
    clear hm575
    refine AWp.seqP (fun fr h => ∃ (v579 : Bool) (g6_591 : Nat) (g8_591 : Nat) (g16_591 : Nat), hset H o0 [AV.slice .frz (List.map (fun n => AV.sc (Value.int .i64 n)) d303.l), AV.sc (.int .i64 d303.atF)] = h ∧ (fr.env 0 = AV.gptr o0 0 ∧ fr.env 1 = AV.slice .frz (List.map Ty.av a1) ∧ fr.env 3 = AV.sc (.int .i64 a3) ∧ fr.env 6 = AV.lptr 6 g6_591 0 ∧ fr.env 8 = AV.lptr 8 g8_591 0 ∧ fr.env 15 = AV.sc (.int .i64 j534) ∧ fr.env 16 = AV.lptr 16 g16_591 0 ∧ fr.env 176 = AV.sc (.int .i64 (llen a1)) ∧ fr.env 177 = AV.sc (.int .i64 j534) ∧ fr.env 198 = AV.sc (.bool v579) ∧ fr.gen 6 = g6_591 ∧ fr.box 6 = some [AV.sc (.int .i64 a2.kind), AV.slice .frz (List.map Ty.av a2.args)] ∧ fr.gen 8 = g8_591 ∧ fr.box 8 = some [AV.sc (.int .i64 0), AV.sc (.int .i64 0), AV.sc (.int .i64 0), AV.slice .full [], AV.slice .full []] ∧ fr.gen 16 = g16_591 ∧ fr.box 16 = some [AV.sc (.int .i64 x573.kind), AV.slice .frz (List.map Ty.av x573.args)]) ∧ j576 v579 = some c551) (fun K580 hk581 => ?_) ?_
    · refine AWp.regionD [] false mixed (by decide +kernel) (by decide +kernel) ?_
      rcases ite_some hm578 with ⟨hc582, hm583⟩ | ⟨hc582, hm584⟩
      rotate_left
      · clear hm578
        simp [E535, lo0, hlt540, hg550, hx574, hc30, hc297, hc317, hc351, hc382, hc428, hc483, hc514, hc582]
        refine hk581 _ _ ⟨false, g6_535, g8_535, (fr535.gen 16 + 1), ?_, ⟨?_, ?_, ?_, ?_, ?_, ?_, ?_, ?_, ?_, ?_, ?_, ?_, ?_, ?_, ?_, ?_⟩, hm584⟩ <;> first | rfl | simp [E535, lo0, hlt540, hg550, hx574, hc30, hc297, hc317, hc351, hc382, hc428, hc483, hc514, hc582]
      clear hm578
      obtain ⟨x585, hx586, hm587⟩ := bind1_some hm583
      clear hm583
      try dsimp only at hm587
      obtain ⟨x588, hx589, hm590⟩ := bind1_some hm587
      clear hm587
      try dsimp only at hm590
      simp [E535, lo0, hlt540, hg550, hx574, hx586, hc30, hc297, hc317, hc351, hc382, hc428, hc483, hc514, hc582]
      refine CallAtD.fn (r_ref01_Same T hx589) (by simp) ?_
      simp [E535, lo0, hlt540, hg550, hx574, hx586, hc30, hc297, hc317, hc351, hc382, hc428, hc483, hc514, hc582]
      refine hk581 _ _ ⟨x588, g6_535, g8_535, (fr535.gen 16 + 1), ?_, ⟨?_, ?_, ?_, ?_, ?_, ?_, ?_, ?_, ?_, ?_, ?_, ?_, ?_, ?_, ?_, ?_⟩, hm590⟩ <;> first | rfl | simp [E535, lo0, hlt540, hg550, hx574, hx586, hc30, hc297, hc317, hc351, hc382, hc428, hc483, hc514, hc582]
    clear hm578
    rintro fr591 h591 ⟨v579, g6_591, g8_591, g16_591, rfl, E591, hm592⟩
    subst hj577
    refine AWp.condK fun A593 B594 ga595 gb596 => ?_
    rcases ite_some hm592 with ⟨hc597, hm598⟩ | ⟨hc597, hm599⟩
    rotate_left
    · clear hm592
      simp [E591, lo0, hlt540, hg550, hx574, hc30, hc297, hc317, hc351, hc382, hc428, hc483, hc514, hc597]
      apply gb596
      refine AWp.skip ?_
      apply nn565
      apply hk563
      refine AWp.region [] (by decide +kernel) ?_
      simp [E591, lo0, hlt540, hg550, hx574, hc30, hc297, hc317, hc351, hc382, hc428, hc483, hc514, hc597]
      obtain rfl := Option.some.inj hm599
      rw [ctlK_next] at hk553
      refine hK539 _ _ n532 (Nat.lt_succ_self _) ⟨(i533 + 1), (iadd .i64 j534 1), g6_591, g8_591, ?_, ⟨?_, ?_, ?_, ?_, ?_, ?_, ?_, ?_, ?_, ?_, ?_⟩, (iadd_idxJ hj536 (by omega) hok519), (by omega), hk553⟩ <;> first | rfl | simp [E591, lo0, hlt540, hg550, hx574, hc30, hc297, hc317, hc351, hc382, hc428, hc483, hc514, hc597]
    clear hm592
    simp [E591, lo0, hlt540, hg550, hx574, hc30, hc297, hc317, hc351, hc382, hc428, hc483, hc514, hc597]
    apply ga595
    refine AWp.seqK fun K600 hk601 => ?_
    refine AWp.regionD [] false mixed (by decide +kernel) (by decide +kernel) ?_
    obtain ⟨x602, hx603, hm604⟩ := bind1_some hm598
    clear hm598
    try dsimp only at hm604
    simp [E591, lo0, hlt540, hg550, hx574, hc30, hc297, hc317, hc351, hc382, hc428, hc483, hc514, hc597]
    refine CallAtD.fn (r_ref02_Var T hx603) (by simp) ?_
    obtain ⟨x605, hx606, hm607⟩ := bind1_some hm604
    clear hm604
    try dsimp only at hm607
    obtain ⟨x608, d609, hx610, hm611⟩ := bind2_some hm607
    clear hm607
    try dsimp only at hm611
    simp [E591, lo0, hlt540, hg550, hx574, hx606, hc30, hc297, hc317, hc351, hc382, hc428, hc483, hc514, hc597]
    refine CallAtD.fn (ih (by simp [lo0]) hx610) (by simp) ?_
    obtain ⟨x612, hx613, hm614⟩ := bind1_some hm611
    clear hm611
    try dsimp only at hm614
    simp [E591, lo0, hlt540, hg550, hx574, hx606, hc30, hc297, hc317, hc351, hc382, hc428, hc483, hc514, hc597]
    refine CallAtD.fn (r_ref02_N T hx613) (by simp) ?_
    simp [E591, lo0, hlt540, hg550, hx574, hx606, hc30, hc297, hc317, hc351, hc382, hc428, hc483, hc514, hc597]
    apply hk601
    refine AWp.ret ?_
    apply nr568
    apply nr531
    apply nr310
    obtain rfl := Option.some.inj hm614
    rw [ctlK_ret] at hk553
    obtain rfl := Option.some.inj hk553
    rw [sumK_inr] at hmB526
    try dsimp only at hmB526
    simp only [Option.some.injEq, Prod.mk.injEq] at hmB526
    obtain ⟨rfl, rfl⟩ := hmB526
    simp [retQ, E591, lo0, hlt540, hg550, hx574, hx606, hc30, hc297, hc317, hc351, hc382, hc428, hc483, hc514, hc597]
theorem r_mk_Term (T : Tabs) {H : Heap} {a0 : Smk_Deck} {a1 : (List Ty)} {a2 : Ty} {a3 : Int} {r0 : Tm} {do0 : Smk_Deck} {o0 : Nat} (ho0 : H[o0]? = some [AV.slice .frz (List.map (fun n => AV.sc (Value.int .i64 n)) a0.l), AV.sc (.int .i64 a0.atF)]) {n : Nat} (hm : mk_Term n a0 a1 a2 a3 = some (r0, do0)) : ACall Tryd.prog T 15 [AV.gptr o0 0, AV.slice .frz (List.map Ty.av a1), Ty.av a2, AV.sc (.int .i64 a3)] H (Tm.av r0) (hset H o0 [AV.slice .frz (List.map (fun n => AV.sc (Value.int .i64 n)) do0.l), AV.sc (.int .i64 do0.atF)]) := (rg_mk_Term T n) ho0 hm

end Go.Proofs.YtnabbjnhemmkhaaDoor
