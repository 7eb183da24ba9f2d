/- The program's functions do what the models say. -/
import Derived.Test.YtdihelfnjememaaDoorCR04
import Derived.Test.YtdihelfnjememaaDoorCM
set_option maxRecDepth 20000
set_option maxHeartbeats 4000000
set_option linter.unusedSimpArgs false
set_option linter.unusedVariables false
namespace Go.Proofs.YtdihelfnjememaaDoor
open Go Go.Abs Go.Mdl

theorem enters40 : entersB Tryd.prog 40 = true := by kernel_rfl

theorem r_ref07_Q (T : Tabs) {H : Heap} {a0 : Int} {a1 : Ty} {a2 : Fm} {r0 : Fm} (hm : ref07_Q a0 a1 a2 = some r0) : ACall Tryd.prog T 40 [AV.sc (.int .i64 a0), Ty.av a1, Fm.av a2] H (Fm.av r0) H := by
  rw [ref07_Q] at hm
  refine ACallP.intro (fn := Tryd.f40) Tryd.func40 rfl enters40 (Nat.le_of_ble_eq_true rfl) ?_
  refine AWp.sr [] fun K1 hk2 => ?_
  simp
  apply hk2
  refine AWp.seqK fun K3 hk4 => ?_
  refine AWp.regionD [] false mixed (by decide +kernel) (by decide +kernel) ?_
  obtain ⟨x5, hx6, hm7⟩ := bind1_some hm
  clear hm
  try dsimp only at hm7
  simp
  refine CallAtD.fn (r_ref01_Copy T hx6) (by simp) ?_
  obtain ⟨x8, hx9, hm10⟩ := bind1_some hm7
  clear hm7
  try dsimp only at hm10
  simp
  refine CallAtD.fn (r_ref07_Copy T hx9) (by simp) ?_
  simp
  apply hk4
  refine AWp.ret ?_
  have hf11 : AV.agg [AV.sc (.int .i64 a0), AV.sc (.int .i64 x5.kind), AV.slice .frz (List.map Ty.av x5.args), AV.slice .frz [], AV.slice .frz [Fm.av x8]] = Fm.av (Fm.mk a0 x5 [] [x8]) := by rw [Fm.av_mk]; rfl
  have hf12 : AV.agg [AV.sc (.int .i64 a0), AV.sc (.int .i64 x5.kind), AV.slice .frz (List.map Ty.av x5.args), AV.slice .frz [], AV.slice .frz [Fm.av x8]] = Fm.av (Fm.mk a0 x5 [] [x8]) := by rw [Fm.av_mk]; rfl
  obtain rfl := Option.some.inj hm10
  simp [retQ, hf11, hf12]

theorem enters62 : entersB Tryd.prog 62 = true := by kernel_rfl

theorem r_mk_vars (T : Tabs) {H : Heap} {a0 : (List Ty)} {a1 : Ty} {r0 : (List Int)} (hm : mk_vars a0 a1 = some r0) : ACall Tryd.prog T 62 [AV.slice .frz (List.map Ty.av a0), Ty.av a1] H (AV.slice .frz (List.map (fun n => AV.sc (Value.int .i64 n)) r0)) H := by
  rw [mk_vars] at hm
  refine ACallP.intro (fn := Tryd.f62) Tryd.func62 rfl enters62 (Nat.le_of_ble_eq_true rfl) ?_
  refine AWp.sr [] fun K1 hk2 => ?_
  simp
  apply hk2
  refine AWp.sr [] fun K3 hk4 => ?_
  simp
  apply hk4
  refine AWp.seqK fun K5 hk6 => ?_
  refine AWp.sr [] fun K7 hk8 => ?_
  simp
  apply hk8
  obtain ⟨hok9, hm10⟩ := chk_some hm
  clear hm
  obtain ⟨F11, hF12, hm13⟩ := joinB_some hm10
  clear hm10
  try dsimp only at hm13
  obtain ⟨out14, hl15, hmB16⟩ := bind1_some hm13
  clear hm13
  refine AWp.blockK fun Q17 nn18 ne19 nx20 nr21 => ?_
  refine AWp.loopF (fun n22 fr h => ∃ (i23 : Nat) (j24 : Int) (v25 : (List Int)) (tg0_26 : Tag) (g3_26 : Nat), H = h ∧ (fr.env 0 = AV.slice .frz (List.map Ty.av a0) ∧ fr.env 3 = AV.lptr 3 g3_26 0 ∧ fr.env 5 = AV.slice tg0_26 (List.map (fun n => AV.sc (Value.int .i64 n)) v25) ∧ fr.env 8 = AV.sc (.int .i64 (llen a0)) ∧ fr.env 9 = AV.sc (.int .i64 j24) ∧ fr.gen 3 = g3_26 ∧ fr.box 3 = some [AV.sc (.int .i64 a1.kind), AV.slice .frz (List.map Ty.av a1.args)]) ∧ OwnT fr.tab fr.tgen [25] tg0_26 (List.length v25) ∧ j24 = (i23 : Int) ∧ i23 + n22 = List.length a0 ∧ forR F11 (List.drop i23 a0) i23 v25 = some out14) (List.length a0) ?_ ?_
  · refine ⟨0, 0, [], .full, 1, ?_, ⟨?_, ?_, ?_, ?_, ?_, ?_, ?_⟩, OwnT.full, rfl, (by simp), hl15⟩ <;> first | rfl | simp
  rintro n22 fr26 h26 ⟨i23, j24, v25, tg0_26, g3_26, rfl, E26, o0_26, hj27, hi28, hl15⟩ K29 hK30
  rcases n22 with _ | n22
  · have hlt31 := ilt_notJ (l := a0) hj27 (by omega)
    refine AWp.sr [] fun K32 hk33 => ?_
    simp [E26, hlt31]
    apply hk33
    refine AWp.seqK fun K34 hk35 => ?_
    refine AWp.condK fun A36 B37 ga38 gb39 => ?_
    simp [E26, hlt31]
    apply gb39
    refine AWp.exit ?_
    apply ne19
    rw [List.drop_eq_nil_of_le (by omega), forR_nil] at hl15
    obtain rfl := Option.some.inj hl15
    rw [sumK_inl] at hmB16
    try dsimp only at hmB16
    apply hk6
    refine AWp.sr [] fun K40 hk41 => ?_
    simp [E26, hlt31]
    apply hk41
    refine AWp.ret ?_
    obtain rfl := Option.some.inj hmB16
    simp [retQ, E26, hlt31]
  have hlt31 := ilt_ofJ (l := a0) hj27 (by omega)
  obtain ⟨x42, hdn22, hg43⟩ := drop_ltJ (l := a0) hj27 (by omega)
  rw [hdn22, forR_cons] at hl15
  obtain ⟨c44, hb45, hk46⟩ := bind1_some hl15
  clear hl15
  rw [hF12, ← hj27] at hb45
  try dsimp only at hb45
  refine AWp.sr [] fun K47 hk48 => ?_
  simp [E26, hlt31, hg43]
  apply hk48
  refine AWp.seqK fun K49 hk50 => ?_
  refine AWp.condK fun A51 B52 ga53 gb54 => ?_
  simp [E26, hlt31, hg43]
  apply ga53
  refine AWp.skip ?_
  apply hk50
  obtain ⟨j55, hj56, hm57⟩ := joinB_some hb45
  clear hb45
  refine AWp.seqP (fun fr h => ∃ (v58 : (List Int)) (tg0_61 : Tag) (g3_61 : Nat), H = h ∧ (fr.env 0 = AV.slice .frz (List.map Ty.av a0) ∧ fr.env 3 = AV.lptr 3 g3_61 0 ∧ fr.env 5 = AV.slice tg0_61 (List.map (fun n => AV.sc (Value.int .i64 n)) v58) ∧ fr.env 8 = AV.sc (.int .i64 (llen a0)) ∧ fr.env 9 = AV.sc (.int .i64 j24) ∧ fr.gen 3 = g3_61 ∧ fr.box 3 = some [AV.sc (.int .i64 a1.kind), AV.slice .frz (List.map Ty.av a1.args)]) ∧ OwnT fr.tab fr.tgen [25] tg0_61 (List.length v58) ∧ j55 v58 = some c44) (fun K59 hk60 => ?_) ?_
  rotate_left
  · clear hm57
    rintro fr61 h61 ⟨v58, tg0_61, g3_61, rfl, E61, o0_61, hm62⟩
    subst hj56
    refine AWp.region [] (by decide +kernel) ?_
    simp [E61, hlt31, hg43]
    obtain rfl := Option.some.inj hm62
    rw [ctlK_next] at hk46
    refine hK30 _ _ n22 (Nat.lt_succ_self _) ⟨(i23 + 1), (iadd .i64 j24 1), v58, tg0_61, g3_61, ?_, ⟨?_, ?_, ?_, ?_, ?_, ?_, ?_⟩, (OwnT.mono (D := [25]) o0_61 (by decide)), (iadd_idxJ hj27 (by omega) hok9), (by omega), hk46⟩ <;> first | rfl | simp [E61, hlt31, hg43]
  refine AWp.blockK fun Q63 nn64 ne65 nx66 nr67 => ?_
  refine AWp.sr [] fun K68 hk69 => ?_
  simp [E26, hlt31, hg43]
  apply hk69
  refine AWp.seqK fun K70 hk71 => ?_
  refine AWp.regionD [] false mixed (by decide +kernel) (by decide +kernel) ?_
  obtain ⟨x72, hx73, hm74⟩ := bind1_some hm57
  clear hm57
  try dsimp only at hm74
  obtain ⟨x75, hx76, hm77⟩ := bind1_some hm74
  clear hm74
  try dsimp only at hm77
  simp [E26, hlt31, hg43, hx73]
  refine CallAtD.fn (r_ref01_Same T hx76) (by simp) ?_
  simp [E26, hlt31, hg43, hx73]
  apply hk71
  refine AWp.condK fun A78 B79 ga80 gb81 => ?_
  rcases ite_some hm77 with ⟨hc82, hm83⟩ | ⟨hc82, hm84⟩
  rotate_left
  · clear hm77
    simp [E26, hlt31, hg43, hx73, hc82]
    apply gb81
    refine AWp.skip ?_
    apply nn64
    refine hk60 _ _ ⟨v25, tg0_26, g3_26, ?_, ⟨?_, ?_, ?_, ?_, ?_, ?_, ?_⟩, (OwnT.mono (D := [25]) o0_26 (by decide)), hm84⟩ <;> first | rfl | simp [E26, hlt31, hg43, hx73, hc82]
  clear hm77
  simp [E26, hlt31, hg43, hx73, hc82]
  apply ga80
  refine AWp.region [] (by decide +kernel) ?_
  obtain ⟨ha446, hm85⟩ := chk_some hm83
  clear hm83
  simp [E26, hlt31, hg43, hx73, hc82]
  refine AppAt.own (f := (fun n => AV.sc (Value.int .i64 n))) v25 [j24] o0_26 ap22 (by intro x; simp) ha446 (by first | rfl | simp) (by first | rfl | simp) ?_
  simp [E26, hlt31, hg43, hx73, hc82]
  apply nn64
  refine hk60 _ _ ⟨(lapp v25 [j24]), (.loc 25 (fr26.tgen 25 + 1)), g3_26, ?_, ⟨?_, ?_, ?_, ?_, ?_, ?_, ?_⟩, (OwnT.mono (D := [25]) (OwnT.new (D := [25]) (d := 25) (by decide)) (by decide)), hm85⟩ <;> first | rfl | simp [E26, hlt31, hg43, hx73, hc82]

theorem enters63 : entersB Tryd.prog 63 = true := by kernel_rfl

theorem r_ref02_Var (T : Tabs) {H : Heap} {a0 : Int} {r0 : Tm} (hm : ref02_Var a0 = some r0) : ACall Tryd.prog T 63 [AV.sc (.int .i64 a0)] H (Tm.av r0) H := by
  rw [ref02_Var] at hm
  refine ACallP.intro (fn := Tryd.f63) Tryd.func63 rfl enters63 (Nat.le_of_ble_eq_true rfl) ?_
  refine AWp.sr [] fun K1 hk2 => ?_
  simp
  apply hk2
  refine AWp.sr [] fun K3 hk4 => ?_
  simp
  apply hk4
  refine AWp.ret ?_
  obtain rfl := Option.some.inj hm
  simp [retQ]

theorem enters65 : entersB Tryd.prog 65 = true := by kernel_rfl

theorem r_ref02_T (T : Tabs) {H : Heap} {a0 : Int} {a1 : Ty} {a2 : (List Tm)} {r0 : Tm} (hm : ref02_T a0 a1 a2 = some r0) : ACall Tryd.prog T 65 [AV.sc (.int .i64 a0), Ty.av a1, AV.slice .frz (List.map Tm.av a2)] H (Tm.av r0) H := by
  rw [ref02_T] at hm
  refine ACallP.intro (fn := Tryd.f65) Tryd.func65 rfl enters65 (Nat.le_of_ble_eq_true rfl) ?_
  refine AWp.sr [] fun K1 hk2 => ?_
  simp
  apply hk2
  refine AWp.sr [] fun K3 hk4 => ?_
  obtain ⟨x5, hx6, hm7⟩ := bind1_some hm
  clear hm
  try dsimp only at hm7
  simp
  refine CallAt.fn (r_ref02_N T hx6) ?_
  simp
  apply hk4
  refine AWp.sr [] fun K8 hk9 => ?_
  obtain ⟨x10, hx11, hm12⟩ := bind1_some hm7
  clear hm7
  try dsimp only at hm12
  simp
  refine CallAt.fn (r_ref01_Copy T hx11) ?_
  simp
  apply hk9
  refine AWp.sr [] fun K13 hk14 => ?_
  simp
  apply hk14
  refine AWp.ret ?_
  obtain rfl := Option.some.inj hm12
  simp [retQ]

theorem enters104 : entersB Tryd.prog 104 = true := by kernel_rfl

theorem r_ref05_numeral (T : Tabs) {H : Heap} {a0 : Int} {r0 : Tm} (hm : ref05_numeral a0 = some r0) : ACall Tryd.prog T 104 [AV.sc (.int .i64 a0)] H (Tm.av r0) H := by
  rw [ref05_numeral] at hm
  refine ACallP.intro (fn := Tryd.f104) Tryd.func104 rfl enters104 (Nat.le_of_ble_eq_true rfl) ?_
  refine AWp.sr [] fun K1 hk2 => ?_
  simp
  apply hk2
  refine AWp.sr [] fun K3 hk4 => ?_
  obtain ⟨x5, hx6, hm7⟩ := bind1_some hm
  clear hm
  try dsimp only at hm7
  simp
  refine CallAt.fn (r_ref02_N T hx6) ?_
  simp
  apply hk4
  refine AWp.seqK fun K8 hk9 => ?_
  obtain ⟨F10, hF11, hm12⟩ := joinB_some hm7
  clear hm7
  try dsimp only at hm12
  obtain ⟨out13, hl14, hmB15⟩ := bind1_some hm12
  clear hm12
  refine AWp.blockK fun Q16 nn17 ne18 nx19 nr20 => ?_
  refine AWp.loopF (fun n21 fr h => ∃ (v22 : Int) (v23 : Int) (v24 : Int) (v25 : Int) (v26 : (List Ty)) (v27 : (List Tm)) (tg0_28 : Tag) (tg1_28 : Tag) (g2_28 : Nat) (g3_28 : Nat), H = h ∧ (fr.env 0 = AV.sc (.int .i64 v22) ∧ fr.env 2 = AV.lptr 2 g2_28 0 ∧ fr.env 3 = AV.lptr 3 g3_28 0 ∧ fr.gen 2 = g2_28 ∧ fr.box 2 = some [AV.sc (.int .i64 0), AV.sc (.int .i64 0), AV.sc (.int .i64 0), AV.slice .full [], AV.slice .full []] ∧ fr.gen 3 = g3_28 ∧ fr.box 3 = some [AV.sc (.int .i64 v23), AV.sc (.int .i64 v24), AV.sc (.int .i64 v25), AV.slice tg0_28 (List.map Ty.av v26), AV.slice tg1_28 (List.map Tm.av v27)]) ∧ loopN F10 n21 (v22, v23, v24, v25, v26, v27) = some out13) FU ?_ ?_
  · refine ⟨a0, x5.kind, x5.index, x5.typeF.kind, x5.typeF.args, x5.args, .frz, .frz, 1, 1, ?_, ⟨?_, ?_, ?_, ?_, ?_, ?_, ?_⟩, hl14⟩ <;> first | rfl | simp
  rintro n21 fr28 h28 ⟨v22, v23, v24, v25, v26, v27, tg0_28, tg1_28, g2_28, g3_28, rfl, E28, hl14⟩ K29 hK30
  rcases n21 with _ | n21
  · rw [loopN_zero] at hl14
    cases hl14
  rw [loopN_succ] at hl14
  obtain ⟨c31, hb32, hk33⟩ := bind1_some hl14
  clear hl14
  rw [hF11] at hb32
  try dsimp only at hb32
  rw [un6_mk] at hb32
  try dsimp only at hb32
  refine AWp.seqK fun K34 hk35 => ?_
  refine AWp.sr [] fun K36 hk37 => ?_
  simp [E28]
  apply hk37
  refine AWp.condK fun A38 B39 ga40 gb41 => ?_
  rcases ite_some hb32 with ⟨hc42, hm43⟩ | ⟨hc42, hm44⟩
  rotate_left
  · clear hb32
    simp [E28, hc42]
    apply gb41
    refine AWp.exit ?_
    apply ne18
    obtain rfl := Option.some.inj hm44
    rw [ctlK_brk] at hk33
    obtain rfl := Option.some.inj hk33
    rw [sumK_inl, un6_mk] at hmB15
    try dsimp only at hmB15
    apply hk9
    refine AWp.sr [] fun K45 hk46 => ?_
    simp [E28, hc42]
    apply hk46
    refine AWp.ret ?_
    obtain rfl := Option.some.inj hmB15
    simp [retQ, E28, hc42]
  clear hb32
  simp [E28, hc42]
  apply ga40
  refine AWp.skip ?_
  apply hk35
  refine AWp.seqK fun K47 hk48 => ?_
  refine AWp.blockK fun Q49 nn50 ne51 nx52 nr53 => ?_
  refine AWp.region [] (by decide +kernel) ?_
  simp [E28, hc42]
  apply nn50
  apply hk48
  refine AWp.region [] (by decide +kernel) ?_
  simp [E28, hc42]
  obtain rfl := Option.some.inj hm43
  rw [ctlK_next] at hk33
  refine hK30 _ _ n21 (Nat.lt_succ_self _) ⟨(isub .i64 v22 1), 5, 0, 0, [], [(Tm.mk v23 v24 (Ty.mk v25 v26) v27)], .full, .full, g2_28, g3_28, ?_, ⟨?_, ?_, ?_, ?_, ?_, ?_, ?_⟩, hk33⟩ <;> first | rfl | simp [E28, hc42]

theorem enters91 : entersB Tryd.prog 91 = true := by kernel_rfl

theorem r_ref05_Number (T : Tabs) {H : Heap} {a0 : Int} {r0 : Tm} {r1 : Int} (hm : ref05_Number a0 = some (r0, r1)) : ACall Tryd.prog T 91 [AV.sc (.int .i64 a0)] H (AV.tuple [Tm.av r0, AV.sc (.int .i64 r1)]) H := by
  rw [ref05_Number] at hm
  refine ACallP.intro (fn := Tryd.f91) Tryd.func91 rfl enters91 (Nat.le_of_ble_eq_true rfl) ?_
  refine AWp.sr [] fun K1 hk2 => ?_
  simp
  apply hk2
  refine AWp.seqK fun K3 hk4 => ?_
  refine AWp.sr [] fun K5 hk6 => ?_
  simp
  apply hk6
  refine AWp.condK fun A7 B8 ga9 gb10 => ?_
  rcases ite_some hm with ⟨hc11, hm12⟩ | ⟨hc11, hm13⟩
  · clear hm
    simp [hc11]
    apply ga9
    refine AWp.sr [] fun K14 hk15 => ?_
    simp [hc11]
    apply hk15
    refine AWp.ret ?_
    simp only [Option.some.injEq, Prod.mk.injEq] at hm12
    obtain ⟨rfl, rfl⟩ := hm12
    simp [retQ, hc11]
  clear hm
  simp [hc11]
  apply gb10
  refine AWp.skip ?_
  apply hk4
  refine AWp.seqK fun K16 hk17 => ?_
  refine AWp.sr [] fun K18 hk19 => ?_
  simp [hc11]
  apply hk19
  refine AWp.condK fun A20 B21 ga22 gb23 => ?_
  rcases ite_some hm13 with ⟨hc24, hm25⟩ | ⟨hc24, hm26⟩
  · clear hm13
    simp [hc11, hc24]
    apply ga22
    refine AWp.sr [] fun K27 hk28 => ?_
    simp [hc11, hc24]
    apply hk28
    refine AWp.ret ?_
    simp only [Option.some.injEq, Prod.mk.injEq] at hm25
    obtain ⟨rfl, rfl⟩ := hm25
    simp [retQ, hc11, hc24]
  clear hm13
  simp [hc11, hc24]
  apply gb23
  refine AWp.skip ?_
  apply hk17
  refine AWp.sr [] fun K29 hk30 => ?_
  obtain ⟨x31, hx32, hm33⟩ := bind1_some hm26
  clear hm26
  try dsimp only at hm33
  simp [hc11, hc24]
  refine CallAt.fn (r_ref05_numeral T hx32) ?_
  simp [hc11, hc24]
  apply hk30
  refine AWp.ret ?_
  simp only [Option.some.injEq, Prod.mk.injEq] at hm33
  obtain ⟨rfl, rfl⟩ := hm33
  simp [retQ, hc11, hc24]

theorem enters66 : entersB Tryd.prog 66 = true := by kernel_rfl

theorem r_mk_Num (T : Tabs) {H : Heap} {a0 : Int} {r0 : Tm} (hm : mk_Num a0 = some r0) : ACall Tryd.prog T 66 [AV.sc (.int .i64 a0)] H (Tm.av r0) H := by
  rw [mk_Num] at hm
  refine ACallP.intro (fn := Tryd.f66) Tryd.func66 rfl enters66 (Nat.le_of_ble_eq_true rfl) ?_
  refine AWp.sr [] fun K1 hk2 => ?_
  simp
  apply hk2
  refine AWp.sr [] fun K3 hk4 => ?_
  obtain ⟨x5, x6, hx7, hm8⟩ := bind2_some hm
  clear hm
  try dsimp only at hm8
  simp
  refine CallAt.fn (r_ref05_Number T hx7) ?_
  simp
  apply hk4
  refine AWp.sr [] fun K9 hk10 => ?_
  simp
  apply hk10
  refine AWp.ret ?_
  obtain rfl := Option.some.inj hm8
  simp [retQ]

theorem enters92 : entersB Tryd.prog 92 = true := by kernel_rfl

theorem r_ref05_lam (T : Tabs) {H : Heap} {a0 : Tm} {r0 : Tm} (hm : ref05_lam a0 = some r0) : ACall Tryd.prog T 92 [Tm.av a0] H (Tm.av r0) H := by
  rw [ref05_lam] at hm
  refine ACallP.intro (fn := Tryd.f92) Tryd.func92 rfl enters92 (Nat.le_of_ble_eq_true rfl) ?_
  refine AWp.sr [] fun K1 hk2 => ?_
  simp
  apply hk2
  refine AWp.seqK fun K3 hk4 => ?_
  refine AWp.regionD [] false mixed (by decide +kernel) (by decide +kernel) ?_
  obtain ⟨x5, hx6, hm7⟩ := bind1_some hm
  clear hm
  try dsimp only at hm7
  simp
  refine CallAtD.fn (r_ref01_Nat T hx6) (by simp) ?_
  obtain ⟨x8, hx9, hm10⟩ := bind1_some hm7
  clear hm7
  try dsimp only at hm10
  simp
  refine CallAtD.fn (r_ref02_T T hx9) (by simp) ?_
  simp
  apply hk4
  refine AWp.ret ?_
  obtain rfl := Option.some.inj hm10
  simp [retQ]

theorem enters93 : entersB Tryd.prog 93 = true := by kernel_rfl

theorem r_ref05_rec (T : Tabs) {H : Heap} {a0 : Tm} {a1 : Tm} {a2 : Tm} {r0 : Tm} (hm : ref05_rec a0 a1 a2 = some r0) : ACall Tryd.prog T 93 [Tm.av a0, Tm.av a1, Tm.av a2] H (Tm.av r0) H := by
  rw [ref05_rec] at hm
  refine ACallP.intro (fn := Tryd.f93) Tryd.func93 rfl enters93 (Nat.le_of_ble_eq_true rfl) ?_
  refine AWp.sr [] fun K1 hk2 => ?_
  simp
  apply hk2
  refine AWp.seqK fun K3 hk4 => ?_
  refine AWp.regionD [] false mixed (by decide +kernel) (by decide +kernel) ?_
  obtain ⟨x5, hx6, hm7⟩ := bind1_some hm
  clear hm
  try dsimp only at hm7
  simp
  refine CallAtD.fn (r_ref01_Nat T hx6) (by simp) ?_
  obtain ⟨x8, hx9, hm10⟩ := bind1_some hm7
  clear hm7
  try dsimp only at hm10
  simp
  refine CallAtD.fn (r_ref02_T T hx9) (by simp) ?_
  simp
  apply hk4
  refine AWp.ret ?_
  obtain rfl := Option.some.inj hm10
  simp [retQ]

theorem enters69 : entersB Tryd.prog 69 = true := by kernel_rfl

theorem r_ref05_Plus (T : Tabs) {H : Heap}  {r0 : Tm} (hm : ref05_Plus = some r0) : ACall Tryd.prog T 69 [] H (Tm.av r0) H := by
  rw [ref05_Plus] at hm
  refine ACallP.intro (fn := Tryd.f69) Tryd.func69 rfl enters69 (Nat.le_of_ble_eq_true rfl) ?_
  refine AWp.sr [] fun K1 hk2 => ?_
  simp
  apply hk2
  refine AWp.sr [] fun K3 hk4 => ?_
  obtain ⟨x5, hx6, hm7⟩ := bind1_some hm
  clear hm
  try dsimp only at hm7
  simp
  refine CallAt.fn (r_ref02_Var T hx6) ?_
  obtain ⟨x8, hx9, hm10⟩ := bind1_some hm7
  clear hm7
  try dsimp only at hm10
  simp
  refine CallAt.fn (r_ref02_Var T hx9) ?_
  obtain ⟨x11, hx12, hm13⟩ := bind1_some hm10
  clear hm10
  try dsimp only at hm13
  simp
  refine CallAt.fn (r_ref02_N T hx12) ?_
  obtain ⟨x14, hx15, hm16⟩ := bind1_some hm13
  clear hm13
  try dsimp only at hm16
  simp
  refine CallAt.fn (r_ref05_lam T hx15) ?_
  obtain ⟨x17, hx18, hm19⟩ := bind1_some hm16
  clear hm16
  try dsimp only at hm19
  simp
  refine CallAt.fn (r_ref05_lam T hx18) ?_
  obtain ⟨x20, hx21, hm22⟩ := bind1_some hm19
  clear hm19
  try dsimp only at hm22
  simp
  refine CallAt.fn (r_ref02_Var T hx21) ?_
  obtain ⟨x23, hx24, hm25⟩ := bind1_some hm22
  clear hm22
  try dsimp only at hm25
  simp
  refine CallAt.fn (r_ref05_rec T hx24) ?_
  obtain ⟨x26, hx27, hm28⟩ := bind1_some hm25
  clear hm25
  try dsimp only at hm28
  simp
  refine CallAt.fn (r_ref05_lam T hx27) ?_
  obtain ⟨x29, hx30, hm31⟩ := bind1_some hm28
  clear hm28
  try dsimp only at hm31
  simp
  refine CallAt.fn (r_ref05_lam T hx30) ?_
  simp
  apply hk4
  refine AWp.ret ?_
  obtain rfl := Option.some.inj hm31
  simp [retQ]

theorem enters68 : entersB Tryd.prog 68 = true := by kernel_rfl

theorem r_mk_App (T : Tabs) {H : Heap} {a0 : Tm} {a1 : (List Tm)} {r0 : Tm} (hm : mk_App a0 a1 = some r0) : ACall Tryd.prog T 68 [Tm.av a0, AV.slice .frz (List.map Tm.av a1)] H (Tm.av r0) H := by
  rw [mk_App] at hm
  refine ACallP.intro (fn := Tryd.f68) Tryd.func68 rfl enters68 (Nat.le_of_ble_eq_true rfl) ?_
  refine AWp.sr [] fun K1 hk2 => ?_
  simp
  apply hk2
  refine AWp.seqK fun K3 hk4 => ?_
  refine AWp.sr [] fun K5 hk6 => ?_
  simp
  apply hk6
  obtain ⟨hok7, hm8⟩ := chk_some hm
  clear hm
  obtain ⟨F9, hF10, hm11⟩ := joinB_some hm8
  clear hm8
  try dsimp only at hm11
  obtain ⟨out12, hl13, hmB14⟩ := bind1_some hm11
  clear hm11
  refine AWp.blockK fun Q15 nn16 ne17 nx18 nr19 => ?_
  refine AWp.loopF (fun n20 fr h => ∃ (i21 : Nat) (j22 : Int) (v23 : Int) (v24 : Int) (v25 : Int) (v26 : (List Ty)) (v27 : (List Tm)) (g2_28 : Nat) (g4_28 : Nat), H = h ∧ (fr.env 2 = AV.lptr 2 g2_28 0 ∧ fr.env 4 = AV.lptr 4 g4_28 0 ∧ fr.env 7 = AV.slice .frz (List.map Tm.av a1) ∧ fr.env 8 = AV.sc (.int .i64 (llen a1)) ∧ fr.env 9 = AV.sc (.int .i64 j22) ∧ fr.gen 2 = g2_28 ∧ fr.box 2 = some [AV.sc (.int .i64 v23), AV.sc (.int .i64 v24), AV.sc (.int .i64 v25), AV.slice .frz (List.map Ty.av v26), AV.slice .frz (List.map Tm.av v27)] ∧ fr.gen 4 = g4_28 ∧ fr.box 4 = some [AV.sc (.int .i64 0), AV.sc (.int .i64 0), AV.sc (.int .i64 0), AV.slice .full [], AV.slice .full []]) ∧ j22 = (i21 : Int) ∧ i21 + n20 = List.length a1 ∧ forR F9 (List.drop i21 a1) i21 (v23, v24, v25, v26, v27) = some out12) (List.length a1) ?_ ?_
  · refine ⟨0, 0, a0.kind, a0.index, a0.typeF.kind, a0.typeF.args, a0.args, 1, 1, ?_, ⟨?_, ?_, ?_, ?_, ?_, ?_, ?_, ?_, ?_⟩, rfl, (by simp), hl13⟩ <;> first | rfl | simp
  rintro n20 fr28 h28 ⟨i21, j22, v23, v24, v25, v26, v27, g2_28, g4_28, rfl, E28, hj29, hi30, hl13⟩ K31 hK32
  rcases n20 with _ | n20
  · have hlt33 := ilt_notJ (l := a1) hj29 (by omega)
    refine AWp.sr [] fun K34 hk35 => ?_
    simp [E28, hlt33]
    apply hk35
    refine AWp.seqK fun K36 hk37 => ?_
    refine AWp.condK fun A38 B39 ga40 gb41 => ?_
    simp [E28, hlt33]
    apply gb41
    refine AWp.exit ?_
    apply ne17
    rw [List.drop_eq_nil_of_le (by omega), forR_nil] at hl13
    obtain rfl := Option.some.inj hl13
    rw [sumK_inl, un5_mk] at hmB14
    try dsimp only at hmB14
    apply hk4
    refine AWp.sr [] fun K42 hk43 => ?_
    simp [E28, hlt33]
    apply hk43
    refine AWp.ret ?_
    obtain rfl := Option.some.inj hmB14
    simp [retQ, E28, hlt33]
  have hlt33 := ilt_ofJ (l := a1) hj29 (by omega)
  obtain ⟨x44, hdn20, hg45⟩ := drop_ltJ (l := a1) hj29 (by omega)
  rw [hdn20, forR_cons] at hl13
  obtain ⟨c46, hb47, hk48⟩ := bind1_some hl13
  clear hl13
  rw [hF10, ← hj29] at hb47
  try dsimp only at hb47
  rw [un5_mk] at hb47
  try dsimp only at hb47
  refine AWp.sr [] fun K49 hk50 => ?_
  simp [E28, hlt33, hg45]
  apply hk50
  refine AWp.seqK fun K51 hk52 => ?_
  refine AWp.condK fun A53 B54 ga55 gb56 => ?_
  simp [E28, hlt33, hg45]
  apply ga55
  refine AWp.skip ?_
  apply hk52
  refine AWp.seqK fun K57 hk58 => ?_
  refine AWp.blockK fun Q59 nn60 ne61 nx62 nr63 => ?_
  refine AWp.sr [] fun K64 hk65 => ?_
  simp [E28, hlt33, hg45]
  apply hk65
  refine AWp.region [] (by decide +kernel) ?_
  obtain ⟨x66, hx67, hm68⟩ := bind1_some hb47
  clear hb47
  try dsimp only at hm68
  simp [E28, hlt33, hg45]
  refine CallAt.fn (r_ref02_N T hx67) ?_
  simp [E28, hlt33, hg45]
  apply nn60
  apply hk58
  refine AWp.region [] (by decide +kernel) ?_
  simp [E28, hlt33, hg45]
  obtain rfl := Option.some.inj hm68
  rw [ctlK_next] at hk48
  refine hK32 _ _ n20 (Nat.lt_succ_self _) ⟨(i21 + 1), (iadd .i64 j22 1), x66.kind, x66.index, x66.typeF.kind, x66.typeF.args, x66.args, g2_28, g4_28, ?_, ⟨?_, ?_, ?_, ?_, ?_, ?_, ?_, ?_, ?_⟩, (iadd_idxJ hj29 (by omega) hok7), (by omega), hk48⟩ <;> first | rfl | simp [E28, hlt33, hg45]

theorem enters94 : entersB Tryd.prog 94 = true := by kernel_rfl

theorem r_ref05_Pred (T : Tabs) {H : Heap}  {r0 : Tm} (hm : ref05_Pred = some r0) : ACall Tryd.prog T 94 [] H (Tm.av r0) H := by
  rw [ref05_Pred] at hm
  refine ACallP.intro (fn := Tryd.f94) Tryd.func94 rfl enters94 (Nat.le_of_ble_eq_true rfl) ?_
  refine AWp.sr [] fun K1 hk2 => ?_
  simp
  apply hk2
  refine AWp.sr [] fun K3 hk4 => ?_
  obtain ⟨x5, hx6, hm7⟩ := bind1_some hm
  clear hm
  try dsimp only at hm7
  simp
  refine CallAt.fn (r_ref02_N T hx6) ?_
  obtain ⟨x8, hx9, hm10⟩ := bind1_some hm7
  clear hm7
  try dsimp only at hm10
  simp
  refine CallAt.fn (r_ref02_Var T hx9) ?_
  obtain ⟨x11, hx12, hm13⟩ := bind1_some hm10
  clear hm10
  try dsimp only at hm13
  simp
  refine CallAt.fn (r_ref05_lam T hx12) ?_
  obtain ⟨x14, hx15, hm16⟩ := bind1_some hm13
  clear hm13
  try dsimp only at hm16
  simp
  refine CallAt.fn (r_ref05_lam T hx15) ?_
  obtain ⟨x17, hx18, hm19⟩ := bind1_some hm16
  clear hm16
  try dsimp only at hm19
  simp
  refine CallAt.fn (r_ref02_Var T hx18) ?_
  obtain ⟨x20, hx21, hm22⟩ := bind1_some hm19
  clear hm19
  try dsimp only at hm22
  simp
  refine CallAt.fn (r_ref05_rec T hx21) ?_
  obtain ⟨x23, hx24, hm25⟩ := bind1_some hm22
  clear hm22
  try dsimp only at hm25
  simp
  refine CallAt.fn (r_ref05_lam T hx24) ?_
  simp
  apply hk4
  refine AWp.ret ?_
  obtain rfl := Option.some.inj hm25
  simp [retQ]

end Go.Proofs.YtdihelfnjememaaDoor
