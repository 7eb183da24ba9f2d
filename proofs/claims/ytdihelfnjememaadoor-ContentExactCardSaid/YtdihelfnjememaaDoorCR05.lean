/- The program's functions do what the models say. -/
import Derived.Test.YtdihelfnjememaaDoorCR04
import Derived.Test.YtdihelfnjememaaDoorCM
set_option linter.unusedSimpArgs false
set_option linter.unusedVariables false
namespace Go.Proofs.YtdihelfnjememaaDoor
open Go Go.Abs Go.Mdl

theorem enters40 : entersB Tryd.prog 40 = true := by kernel_rfl
set_option maxRecDepth 20000 in
set_option maxHeartbeats 4000000 in
theorem r_ref07_Q (T : Tabs) {H : Heap} {a0 : Int} {a1 : Ty} {a2 : Fm} {r0 : Fm} (hm : ref07_Q a0 a1 a2 = some r0) : ACall Tryd.prog T 40 [AV.sc (.int .i64 a0), Ty.av a1, Fm.av a2] H (Fm.av r0) H := by
  rw [ref07_Q] at hm
  refine ACallP.intro (fn := Tryd.f40) Tryd.func40 rfl enters40 (Nat.le_of_ble_eq_true rfl) ?_
  refine AWp.seqK fun K1 hk2 => ?_
  refine AWp.region [] (by decide +kernel) ?_
  simp
  refine hk2 _ _ ?_
  refine AWp.seqK fun K9 hk10 => ?_
  refine AWp.regionD [] false mixed (by decide +kernel) (by decide +kernel) ?_
  obtain ⟨x11, hx12, hm13⟩ := bind1_some hm
  clear hm
  try dsimp only at hm13
  simp
  refine CallAtD.fn (r_ref01_Copy T hx12) (by simp) ?_
  obtain ⟨x14, hx15, hm16⟩ := bind1_some hm13
  clear hm13
  try dsimp only at hm16
  simp
  refine CallAtD.fn (r_ref07_Copy T hx15) (by simp) ?_
  simp
  refine hk10 _ _ ?_
  refine AWp.ret ?_
  try simp only [thenQ_ret]
  have hf17 : AV.agg [AV.sc (.int .i64 a0), AV.sc (.int .i64 x11.kind), AV.slice .frz (List.map Ty.av x11.args), AV.slice .frz [], AV.slice .frz [Fm.av x14]] = Fm.av (Fm.mk a0 x11 [] [x14]) := by rw [Fm.av_mk]; rfl
  have hf18 : AV.agg [AV.sc (.int .i64 a0), AV.sc (.int .i64 x11.kind), AV.slice .frz (List.map Ty.av x11.args), AV.slice .frz [], AV.slice .frz [Fm.av x14]] = Fm.av (Fm.mk a0 x11 [] [x14]) := by rw [Fm.av_mk]; rfl
  obtain rfl := Option.some.inj hm16
  simp [retQ, hf17, hf18]

theorem enters62 : entersB Tryd.prog 62 = true := by kernel_rfl
set_option maxRecDepth 20000 in
set_option maxHeartbeats 4000000 in
theorem r_mk_vars (T : Tabs) {H : Heap} {a0 : (List Ty)} {a1 : Ty} {r0 : (List Int)} (hm : mk_vars a0 a1 = some r0) : ACall Tryd.prog T 62 [AV.slice .frz (List.map Ty.av a0), Ty.av a1] H (AV.slice .frz (List.map (fun n => AV.sc (Value.int .i64 n)) r0)) H := by
  rw [mk_vars] at hm
  refine ACallP.intro (fn := Tryd.f62) Tryd.func62 rfl enters62 (Nat.le_of_ble_eq_true rfl) ?_
  refine AWp.seqK fun K1 hk2 => ?_
  refine AWp.region [] (by decide +kernel) ?_
  simp
  refine hk2 _ _ ?_
  refine AWp.seqK fun K3 hk4 => ?_
  refine AWp.region [] (by decide +kernel) ?_
  simp
  refine hk4 _ _ ?_
  refine AWp.seqK fun K175 hk176 => ?_
  refine AWp.seqK fun K177 hk178 => ?_
  refine AWp.region [] (by decide +kernel) ?_
  simp
  refine hk178 _ _ ?_
  obtain ⟨hok365, hm462⟩ := chk_some hm
  clear hm
  obtain ⟨F347, hF348, hm463⟩ := joinB_some hm462
  clear hm462
  try dsimp only at hm463
  obtain ⟨out349, hl350, hmB351⟩ := bind1_some hm463
  clear hm463
  refine AWp.blockK fun Q356 nn357 ne358 nx359 nr360 => ?_
  refine AWp.loopF (fun n355 fr h => ∃ (i180 : Nat) (j179 : Int) (v346 : (List Int)) (tg0_345 : Tag) (g3_345 : Nat), H = h ∧ fr.env 0 = AV.slice .frz (List.map Ty.av a0) ∧ fr.env 3 = AV.lptr 3 g3_345 0 ∧ fr.env 5 = AV.slice tg0_345 (List.map (fun n => AV.sc (Value.int .i64 n)) v346) ∧ fr.env 8 = AV.sc (.int .i64 (llen a0)) ∧ fr.env 9 = AV.sc (.int .i64 j179) ∧ fr.gen 3 = g3_345 ∧ fr.box 3 = some [AV.sc (.int .i64 a1.kind), AV.slice .frz (List.map Ty.av a1.args)] ∧ OwnT fr.tab fr.tgen [25] tg0_345 (List.length v346) ∧ j179 = (i180 : Int) ∧ i180 + n355 = List.length a0 ∧ forR F347 (List.drop i180 a0) i180 v346 = some out349) (List.length a0) ?_ ?_
  · refine ⟨0, 0, [], .full, 1, ?_, ?_, ?_, ?_, ?_, ?_, ?_, ?_, OwnT.full, rfl, (by simp), hl350⟩ <;> first | rfl | simp
  · rintro n355 fr345 h345 ⟨i180, j179, v346, tg0_345, g3_345, rfl, e0_345, e3_345, e5_345, e8_345, e9_345, g3e_345, b3_345, o0_345, hj363, hi364, hl350⟩ K362 hK361
    rcases n355 with _ | n355
    · have hlt366 := ilt_notJ (l := a0) hj363 (by omega)
      refine AWp.seqK fun K448 hk449 => ?_
      refine AWp.region [] (by decide +kernel) ?_
      simp [e0_345, e3_345, e5_345, e8_345, e9_345, g3e_345, b3_345, hlt366]
      refine hk449 _ _ ?_
      refine AWp.seqK fun K454 hk455 => ?_
      refine AWp.condK rfl fun A456 B457 ga458 gb459 => ?_
      simp [e0_345, e3_345, e5_345, e8_345, e9_345, g3e_345, b3_345, hlt366]
      refine gb459 _ _ ?_
      refine AWp.exit ?_
      try simp only [thenQ_exit]
      refine ne358 _ _ ?_
      try simp only [thenQ_normal]
      rw [List.drop_eq_nil_of_le (by omega), forR_nil] at hl350
      obtain rfl := Option.some.inj hl350
      rw [sumK_inl] at hmB351
      try dsimp only at hmB351
      refine hk176 _ _ ?_
      refine AWp.seqK fun K460 hk461 => ?_
      refine AWp.region [] (by decide +kernel) ?_
      simp [e0_345, e3_345, e5_345, e8_345, e9_345, g3e_345, b3_345, hlt366]
      refine hk461 _ _ ?_
      refine AWp.ret ?_
      try simp only [thenQ_ret]
      obtain rfl := Option.some.inj hmB351
      simp [retQ, e0_345, e3_345, e5_345, e8_345, e9_345, g3e_345, b3_345, hlt366]
    · have hlt366 := ilt_ofJ (l := a0) hj363 (by omega)
      obtain ⟨x181, hdn355, hg367⟩ := drop_ltJ (l := a0) hj363 (by omega)
      rw [hdn355, forR_cons] at hl350
      obtain ⟨c352, hb354, hk353⟩ := bind1_some hl350
      clear hl350
      rw [hF348, ← hj363] at hb354
      try dsimp only at hb354
      refine AWp.seqK fun K368 hk369 => ?_
      refine AWp.region [] (by decide +kernel) ?_
      simp [e0_345, e3_345, e5_345, e8_345, e9_345, g3e_345, b3_345, hlt366, hg367]
      refine hk369 _ _ ?_
      refine AWp.seqK fun K374 hk375 => ?_
      refine AWp.condK rfl fun A376 B377 ga378 gb379 => ?_
      simp [e0_345, e3_345, e5_345, e8_345, e9_345, g3e_345, b3_345, hlt366, hg367]
      refine ga378 _ _ ?_
      refine AWp.skip ?_
      try simp only [thenQ_normal]
      refine hk375 _ _ ?_
      obtain ⟨j414, hj415, hm416⟩ := joinB_some hb354
      clear hb354
      refine AWp.seqP (fun fr h => ∃ (v413 : (List Int)) (tg0_412 : Tag) (g3_412 : Nat), H = h ∧ fr.env 0 = AV.slice .frz (List.map Ty.av a0) ∧ fr.env 3 = AV.lptr 3 g3_412 0 ∧ fr.env 5 = AV.slice tg0_412 (List.map (fun n => AV.sc (Value.int .i64 n)) v413) ∧ fr.env 8 = AV.sc (.int .i64 (llen a0)) ∧ fr.env 9 = AV.sc (.int .i64 j179) ∧ fr.gen 3 = g3_412 ∧ fr.box 3 = some [AV.sc (.int .i64 a1.kind), AV.slice .frz (List.map Ty.av a1.args)] ∧ OwnT fr.tab fr.tgen [25] tg0_412 (List.length v413) ∧ j414 v413 = some c352) (fun K410 hk411 => ?_) ?_
      · refine AWp.blockK fun Q418 nn419 ne420 nx421 nr422 => ?_
        refine AWp.seqK fun K423 hk424 => ?_
        refine AWp.region [] (by decide +kernel) ?_
        simp [e0_345, e3_345, e5_345, e8_345, e9_345, g3e_345, b3_345, hlt366, hg367]
        refine hk424 _ _ ?_
        refine AWp.seqK fun K431 hk432 => ?_
        refine AWp.regionD [] false mixed (by decide +kernel) (by decide +kernel) ?_
        obtain ⟨x433, hx434, hm435⟩ := bind1_some hm416
        clear hm416
        try dsimp only at hm435
        obtain ⟨x436, hx437, hm438⟩ := bind1_some hm435
        clear hm435
        try dsimp only at hm438
        simp [e0_345, e3_345, e5_345, e8_345, e9_345, g3e_345, b3_345, hlt366, hg367, hx434]
        refine CallAtD.fn (r_ref01_Same T hx437) (by simp) ?_
        simp [e0_345, e3_345, e5_345, e8_345, e9_345, g3e_345, b3_345, hlt366, hg367, hx434]
        refine hk432 _ _ ?_
        refine AWp.condK rfl fun A439 B440 ga441 gb442 => ?_
        rcases ite_some hm438 with ⟨hc443, hm444⟩ | ⟨hc443, hm445⟩
        · clear hm438
          simp [e0_345, e3_345, e5_345, e8_345, e9_345, g3e_345, b3_345, hlt366, hg367, hx434, hc443]
          refine ga441 _ _ ?_
          refine AWp.region [] (by decide +kernel) ?_
          obtain ⟨ha446, hm447⟩ := chk_some hm444
          clear hm444
          simp [e0_345, e3_345, e5_345, e8_345, e9_345, g3e_345, b3_345, hlt366, hg367, hx434, hc443]
          refine AppAt.own (f := (fun n => AV.sc (Value.int .i64 n))) v346 [j179] o0_345 ap22 (by intro x; simp) ha446 (by first | rfl | simp) (by first | rfl | simp) ?_
          simp [e0_345, e3_345, e5_345, e8_345, e9_345, g3e_345, b3_345, hlt366, hg367, hx434, hc443]
          refine nn419 _ _ ?_
          try simp only [thenQ_normal]
          refine hk411 _ _ ⟨(lapp v346 [j179]), (.loc 25 (fr345.tgen 25 + 1)), g3_345, ?_, ?_, ?_, ?_, ?_, ?_, ?_, ?_, (OwnT.mono (D := [25]) (OwnT.new (D := [25]) (d := 25) (by decide)) (by decide)), hm447⟩ <;> first | rfl | simp [e0_345, e3_345, e5_345, e8_345, e9_345, g3e_345, b3_345, hlt366, hg367, hx434, hc443]
        · clear hm438
          simp [e0_345, e3_345, e5_345, e8_345, e9_345, g3e_345, b3_345, hlt366, hg367, hx434, hc443]
          refine gb442 _ _ ?_
          refine AWp.skip ?_
          try simp only [thenQ_normal]
          refine nn419 _ _ ?_
          try simp only [thenQ_normal]
          refine hk411 _ _ ⟨v346, tg0_345, g3_345, ?_, ?_, ?_, ?_, ?_, ?_, ?_, ?_, (OwnT.mono (D := [25]) o0_345 (by decide)), hm445⟩ <;> first | rfl | simp [e0_345, e3_345, e5_345, e8_345, e9_345, g3e_345, b3_345, hlt366, hg367, hx434, hc443]
      · clear hm416
        rintro fr412 h412 ⟨v413, tg0_412, g3_412, rfl, e0_412, e3_412, e5_412, e8_412, e9_412, g3e_412, b3_412, o0_412, hm417⟩
        subst hj415
        refine AWp.region [] (by decide +kernel) ?_
        simp [e0_412, e3_412, e5_412, e8_412, e9_412, g3e_412, b3_412, hlt366, hg367]
        obtain rfl := Option.some.inj hm417
        rw [ctlK_next] at hk353
        refine hK361 _ _ n355 (Nat.lt_succ_self _) ⟨(i180 + 1), (iadd .i64 j179 1), v413, tg0_412, g3_412, ?_, ?_, ?_, ?_, ?_, ?_, ?_, ?_, (OwnT.mono (D := [25]) o0_412 (by decide)), (iadd_idxJ hj363 (by omega) hok365), (by omega), hk353⟩ <;> first | rfl | simp [e0_412, e3_412, e5_412, e8_412, e9_412, g3e_412, b3_412, hlt366, hg367]

theorem enters63 : entersB Tryd.prog 63 = true := by kernel_rfl
set_option maxRecDepth 20000 in
set_option maxHeartbeats 4000000 in
theorem r_ref02_Var (T : Tabs) {H : Heap} {a0 : Int} {r0 : Tm} (hm : ref02_Var a0 = some r0) : ACall Tryd.prog T 63 [AV.sc (.int .i64 a0)] H (Tm.av r0) H := by
  rw [ref02_Var] at hm
  refine ACallP.intro (fn := Tryd.f63) Tryd.func63 rfl enters63 (Nat.le_of_ble_eq_true rfl) ?_
  refine AWp.seqK fun K1 hk2 => ?_
  refine AWp.region [] (by decide +kernel) ?_
  simp
  refine hk2 _ _ ?_
  refine AWp.seqK fun K3 hk4 => ?_
  refine AWp.region [] (by decide +kernel) ?_
  simp
  refine hk4 _ _ ?_
  refine AWp.ret ?_
  try simp only [thenQ_ret]
  obtain rfl := Option.some.inj hm
  simp [retQ]

theorem enters65 : entersB Tryd.prog 65 = true := by kernel_rfl
set_option maxRecDepth 20000 in
set_option maxHeartbeats 4000000 in
theorem r_ref02_T (T : Tabs) {H : Heap} {a0 : Int} {a1 : Ty} {a2 : (List Tm)} {r0 : Tm} (hm : ref02_T a0 a1 a2 = some r0) : ACall Tryd.prog T 65 [AV.sc (.int .i64 a0), Ty.av a1, AV.slice .frz (List.map Tm.av a2)] H (Tm.av r0) H := by
  rw [ref02_T] at hm
  refine ACallP.intro (fn := Tryd.f65) Tryd.func65 rfl enters65 (Nat.le_of_ble_eq_true rfl) ?_
  refine AWp.seqK fun K1 hk2 => ?_
  refine AWp.region [] (by decide +kernel) ?_
  simp
  refine hk2 _ _ ?_
  refine AWp.seqK fun K6 hk7 => ?_
  refine AWp.region [] (by decide +kernel) ?_
  obtain ⟨x8, hx9, hm10⟩ := bind1_some hm
  clear hm
  try dsimp only at hm10
  simp
  refine CallAt.fn (r_ref02_N T hx9) ?_
  simp
  refine hk7 _ _ ?_
  refine AWp.seqK fun K14 hk15 => ?_
  refine AWp.region [] (by decide +kernel) ?_
  obtain ⟨x16, hx17, hm18⟩ := bind1_some hm10
  clear hm10
  try dsimp only at hm18
  simp
  refine CallAt.fn (r_ref01_Copy T hx17) ?_
  simp
  refine hk15 _ _ ?_
  refine AWp.seqK fun K19 hk20 => ?_
  refine AWp.region [] (by decide +kernel) ?_
  simp
  refine hk20 _ _ ?_
  refine AWp.ret ?_
  try simp only [thenQ_ret]
  obtain rfl := Option.some.inj hm18
  simp [retQ]

theorem enters104 : entersB Tryd.prog 104 = true := by kernel_rfl
set_option maxRecDepth 20000 in
set_option maxHeartbeats 4000000 in
theorem r_ref05_numeral (T : Tabs) {H : Heap} {a0 : Int} {r0 : Tm} (hm : ref05_numeral a0 = some r0) : ACall Tryd.prog T 104 [AV.sc (.int .i64 a0)] H (Tm.av r0) H := by
  rw [ref05_numeral] at hm
  refine ACallP.intro (fn := Tryd.f104) Tryd.func104 rfl enters104 (Nat.le_of_ble_eq_true rfl) ?_
  refine AWp.seqK fun K1 hk2 => ?_
  refine AWp.region [] (by decide +kernel) ?_
  simp
  refine hk2 _ _ ?_
  refine AWp.seqK fun K6 hk7 => ?_
  refine AWp.region [] (by decide +kernel) ?_
  obtain ⟨x8, hx9, hm10⟩ := bind1_some hm
  clear hm
  try dsimp only at hm10
  simp
  refine CallAt.fn (r_ref02_N T hx9) ?_
  simp
  refine hk7 _ _ ?_
  refine AWp.seqK fun K90 hk91 => ?_
  obtain ⟨F171, hF172, hm223⟩ := joinB_some hm10
  clear hm10
  try dsimp only at hm223
  obtain ⟨out173, hl174, hmB175⟩ := bind1_some hm223
  clear hm223
  refine AWp.blockK fun Q180 nn181 ne182 nx183 nr184 => ?_
  refine AWp.loopF (fun n179 fr h => ∃ (v165 : Int) (v166 : Int) (v167 : Int) (v168 : Int) (v169 : (List Ty)) (v170 : (List Tm)) (tg0_164 : Tag) (tg1_164 : Tag) (g2_164 : Nat) (g3_164 : Nat), H = h ∧ fr.env 0 = AV.sc (.int .i64 v165) ∧ fr.env 2 = AV.lptr 2 g2_164 0 ∧ fr.env 3 = AV.lptr 3 g3_164 0 ∧ fr.gen 2 = g2_164 ∧ fr.box 2 = some [AV.sc (.int .i64 0), AV.sc (.int .i64 0), AV.sc (.int .i64 0), AV.slice .full [], AV.slice .full []] ∧ fr.gen 3 = g3_164 ∧ fr.box 3 = some [AV.sc (.int .i64 v166), AV.sc (.int .i64 v167), AV.sc (.int .i64 v168), AV.slice tg0_164 (List.map Ty.av v169), AV.slice tg1_164 (List.map Tm.av v170)] ∧ loopN F171 n179 (v165, v166, v167, v168, v169, v170) = some out173) FU ?_ ?_
  · refine ⟨a0, x8.kind, x8.index, x8.typeF.kind, x8.typeF.args, x8.args, .frz, .frz, 1, 1, ?_, ?_, ?_, ?_, ?_, ?_, ?_, ?_, hl174⟩ <;> first | rfl | simp
  · rintro n179 fr164 h164 ⟨v165, v166, v167, v168, v169, v170, tg0_164, tg1_164, g2_164, g3_164, rfl, e0_164, e2_164, e3_164, g2e_164, b2_164, g3e_164, b3_164, hl174⟩ K186 hK185
    rcases n179 with _ | n179
    · rw [loopN_zero] at hl174
      cases hl174
    · rw [loopN_succ] at hl174
      obtain ⟨c176, hb178, hk177⟩ := bind1_some hl174
      clear hl174
      rw [hF172] at hb178
      try dsimp only at hb178
      rw [un6_mk] at hb178
      try dsimp only at hb178
      refine AWp.seqK fun K198 hk199 => ?_
      refine AWp.seqK fun K200 hk201 => ?_
      refine AWp.region [] (by decide +kernel) ?_
      simp [e0_164, e2_164, e3_164, g2e_164, b2_164, g3e_164, b3_164]
      refine hk201 _ _ ?_
      refine AWp.condK rfl fun A202 B203 ga204 gb205 => ?_
      rcases ite_some hb178 with ⟨hc206, hm207⟩ | ⟨hc206, hm208⟩
      · clear hb178
        simp [e0_164, e2_164, e3_164, g2e_164, b2_164, g3e_164, b3_164, hc206]
        refine ga204 _ _ ?_
        refine AWp.skip ?_
        try simp only [thenQ_normal]
        refine hk199 _ _ ?_
        refine AWp.seqK fun K214 hk215 => ?_
        refine AWp.blockK fun Q216 nn217 ne218 nx219 nr220 => ?_
        refine AWp.region [] (by decide +kernel) ?_
        simp [e0_164, e2_164, e3_164, g2e_164, b2_164, g3e_164, b3_164, hc206]
        refine nn217 _ _ ?_
        try simp only [thenQ_normal]
        refine hk215 _ _ ?_
        refine AWp.region [] (by decide +kernel) ?_
        simp [e0_164, e2_164, e3_164, g2e_164, b2_164, g3e_164, b3_164, hc206]
        obtain rfl := Option.some.inj hm207
        rw [ctlK_next] at hk177
        refine hK185 _ _ n179 (Nat.lt_succ_self _) ⟨(isub .i64 v165 1), 5, 0, 0, [], [(Tm.mk v166 v167 (Ty.mk v168 v169) v170)], .full, .full, g2_164, g3_164, ?_, ?_, ?_, ?_, ?_, ?_, ?_, ?_, hk177⟩ <;> first | rfl | simp [e0_164, e2_164, e3_164, g2e_164, b2_164, g3e_164, b3_164, hc206]
      · clear hb178
        simp [e0_164, e2_164, e3_164, g2e_164, b2_164, g3e_164, b3_164, hc206]
        refine gb205 _ _ ?_
        refine AWp.exit ?_
        try simp only [thenQ_exit]
        refine ne182 _ _ ?_
        try simp only [thenQ_normal]
        obtain rfl := Option.some.inj hm208
        rw [ctlK_brk] at hk177
        obtain rfl := Option.some.inj hk177
        rw [sumK_inl, un6_mk] at hmB175
        try dsimp only at hmB175
        refine hk91 _ _ ?_
        refine AWp.seqK fun K221 hk222 => ?_
        refine AWp.region [] (by decide +kernel) ?_
        simp [e0_164, e2_164, e3_164, g2e_164, b2_164, g3e_164, b3_164, hc206]
        refine hk222 _ _ ?_
        refine AWp.ret ?_
        try simp only [thenQ_ret]
        obtain rfl := Option.some.inj hmB175
        simp [retQ, e0_164, e2_164, e3_164, g2e_164, b2_164, g3e_164, b3_164, hc206]

theorem enters91 : entersB Tryd.prog 91 = true := by kernel_rfl
set_option maxRecDepth 20000 in
set_option maxHeartbeats 4000000 in
theorem r_ref05_Number (T : Tabs) {H : Heap} {a0 : Int} {r0 : Tm} {r1 : Int} (hm : ref05_Number a0 = some (r0, r1)) : ACall Tryd.prog T 91 [AV.sc (.int .i64 a0)] H (AV.tuple [Tm.av r0, AV.sc (.int .i64 r1)]) H := by
  rw [ref05_Number] at hm
  refine ACallP.intro (fn := Tryd.f91) Tryd.func91 rfl enters91 (Nat.le_of_ble_eq_true rfl) ?_
  refine AWp.seqK fun K1 hk2 => ?_
  refine AWp.region [] (by decide +kernel) ?_
  simp
  refine hk2 _ _ ?_
  refine AWp.seqK fun K14 hk15 => ?_
  refine AWp.seqK fun K16 hk17 => ?_
  refine AWp.region [] (by decide +kernel) ?_
  simp
  refine hk17 _ _ ?_
  refine AWp.condK rfl fun A18 B19 ga20 gb21 => ?_
  rcases ite_some hm with ⟨hc22, hm23⟩ | ⟨hc22, hm24⟩
  · clear hm
    simp [hc22]
    refine ga20 _ _ ?_
    refine AWp.seqK fun K25 hk26 => ?_
    refine AWp.region [] (by decide +kernel) ?_
    simp [hc22]
    refine hk26 _ _ ?_
    refine AWp.ret ?_
    try simp only [thenQ_ret]
    simp only [Option.some.injEq, Prod.mk.injEq] at hm23
    obtain ⟨rfl, rfl⟩ := hm23
    simp [retQ, hc22]
  · clear hm
    simp [hc22]
    refine gb21 _ _ ?_
    refine AWp.skip ?_
    try simp only [thenQ_normal]
    refine hk15 _ _ ?_
    refine AWp.seqK fun K38 hk39 => ?_
    refine AWp.seqK fun K40 hk41 => ?_
    refine AWp.region [] (by decide +kernel) ?_
    simp [hc22]
    refine hk41 _ _ ?_
    refine AWp.condK rfl fun A42 B43 ga44 gb45 => ?_
    rcases ite_some hm24 with ⟨hc46, hm47⟩ | ⟨hc46, hm48⟩
    · clear hm24
      simp [hc22, hc46]
      refine ga44 _ _ ?_
      refine AWp.seqK fun K49 hk50 => ?_
      refine AWp.region [] (by decide +kernel) ?_
      simp [hc22, hc46]
      refine hk50 _ _ ?_
      refine AWp.ret ?_
      try simp only [thenQ_ret]
      simp only [Option.some.injEq, Prod.mk.injEq] at hm47
      obtain ⟨rfl, rfl⟩ := hm47
      simp [retQ, hc22, hc46]
    · clear hm24
      simp [hc22, hc46]
      refine gb45 _ _ ?_
      refine AWp.skip ?_
      try simp only [thenQ_normal]
      refine hk39 _ _ ?_
      refine AWp.seqK fun K54 hk55 => ?_
      refine AWp.region [] (by decide +kernel) ?_
      obtain ⟨x56, hx57, hm58⟩ := bind1_some hm48
      clear hm48
      try dsimp only at hm58
      simp [hc22, hc46]
      refine CallAt.fn (r_ref05_numeral T hx57) ?_
      simp [hc22, hc46]
      refine hk55 _ _ ?_
      refine AWp.ret ?_
      try simp only [thenQ_ret]
      simp only [Option.some.injEq, Prod.mk.injEq] at hm58
      obtain ⟨rfl, rfl⟩ := hm58
      simp [retQ, hc22, hc46]

theorem enters66 : entersB Tryd.prog 66 = true := by kernel_rfl
set_option maxRecDepth 20000 in
set_option maxHeartbeats 4000000 in
theorem r_mk_Num (T : Tabs) {H : Heap} {a0 : Int} {r0 : Tm} (hm : mk_Num a0 = some r0) : ACall Tryd.prog T 66 [AV.sc (.int .i64 a0)] H (Tm.av r0) H := by
  rw [mk_Num] at hm
  refine ACallP.intro (fn := Tryd.f66) Tryd.func66 rfl enters66 (Nat.le_of_ble_eq_true rfl) ?_
  refine AWp.seqK fun K1 hk2 => ?_
  refine AWp.region [] (by decide +kernel) ?_
  simp
  refine hk2 _ _ ?_
  refine AWp.seqK fun K7 hk8 => ?_
  refine AWp.region [] (by decide +kernel) ?_
  obtain ⟨x9, x10, hx11, hm12⟩ := bind2_some hm
  clear hm
  try dsimp only at hm12
  simp
  refine CallAt.fn (r_ref05_Number T hx11) ?_
  simp
  refine hk8 _ _ ?_
  refine AWp.seqK fun K13 hk14 => ?_
  refine AWp.region [] (by decide +kernel) ?_
  simp
  refine hk14 _ _ ?_
  refine AWp.ret ?_
  try simp only [thenQ_ret]
  obtain rfl := Option.some.inj hm12
  simp [retQ]

theorem enters92 : entersB Tryd.prog 92 = true := by kernel_rfl
set_option maxRecDepth 20000 in
set_option maxHeartbeats 4000000 in
theorem r_ref05_lam (T : Tabs) {H : Heap} {a0 : Tm} {r0 : Tm} (hm : ref05_lam a0 = some r0) : ACall Tryd.prog T 92 [Tm.av a0] H (Tm.av r0) H := by
  rw [ref05_lam] at hm
  refine ACallP.intro (fn := Tryd.f92) Tryd.func92 rfl enters92 (Nat.le_of_ble_eq_true rfl) ?_
  refine AWp.seqK fun K1 hk2 => ?_
  refine AWp.region [] (by decide +kernel) ?_
  simp
  refine hk2 _ _ ?_
  refine AWp.seqK fun K9 hk10 => ?_
  refine AWp.regionD [] false mixed (by decide +kernel) (by decide +kernel) ?_
  obtain ⟨x11, hx12, hm13⟩ := bind1_some hm
  clear hm
  try dsimp only at hm13
  simp
  refine CallAtD.fn (r_ref01_Nat T hx12) (by simp) ?_
  obtain ⟨x14, hx15, hm16⟩ := bind1_some hm13
  clear hm13
  try dsimp only at hm16
  simp
  refine CallAtD.fn (r_ref02_T T hx15) (by simp) ?_
  simp
  refine hk10 _ _ ?_
  refine AWp.ret ?_
  try simp only [thenQ_ret]
  obtain rfl := Option.some.inj hm16
  simp [retQ]

theorem enters93 : entersB Tryd.prog 93 = true := by kernel_rfl
set_option maxRecDepth 20000 in
set_option maxHeartbeats 4000000 in
theorem r_ref05_rec (T : Tabs) {H : Heap} {a0 : Tm} {a1 : Tm} {a2 : Tm} {r0 : Tm} (hm : ref05_rec a0 a1 a2 = some r0) : ACall Tryd.prog T 93 [Tm.av a0, Tm.av a1, Tm.av a2] H (Tm.av r0) H := by
  rw [ref05_rec] at hm
  refine ACallP.intro (fn := Tryd.f93) Tryd.func93 rfl enters93 (Nat.le_of_ble_eq_true rfl) ?_
  refine AWp.seqK fun K1 hk2 => ?_
  refine AWp.region [] (by decide +kernel) ?_
  simp
  refine hk2 _ _ ?_
  refine AWp.seqK fun K9 hk10 => ?_
  refine AWp.regionD [] false mixed (by decide +kernel) (by decide +kernel) ?_
  obtain ⟨x11, hx12, hm13⟩ := bind1_some hm
  clear hm
  try dsimp only at hm13
  simp
  refine CallAtD.fn (r_ref01_Nat T hx12) (by simp) ?_
  obtain ⟨x14, hx15, hm16⟩ := bind1_some hm13
  clear hm13
  try dsimp only at hm16
  simp
  refine CallAtD.fn (r_ref02_T T hx15) (by simp) ?_
  simp
  refine hk10 _ _ ?_
  refine AWp.ret ?_
  try simp only [thenQ_ret]
  obtain rfl := Option.some.inj hm16
  simp [retQ]

theorem enters69 : entersB Tryd.prog 69 = true := by kernel_rfl
set_option maxRecDepth 20000 in
set_option maxHeartbeats 4000000 in
theorem r_ref05_Plus (T : Tabs) {H : Heap}  {r0 : Tm} (hm : ref05_Plus = some r0) : ACall Tryd.prog T 69 [] H (Tm.av r0) H := by
  rw [ref05_Plus] at hm
  refine ACallP.intro (fn := Tryd.f69) Tryd.func69 rfl enters69 (Nat.le_of_ble_eq_true rfl) ?_
  refine AWp.seqK fun K1 hk2 => ?_
  refine AWp.region [] (by decide +kernel) ?_
  simp
  refine hk2 _ _ ?_
  refine AWp.seqK fun K30 hk31 => ?_
  refine AWp.region [] (by decide +kernel) ?_
  obtain ⟨x32, hx33, hm34⟩ := bind1_some hm
  clear hm
  try dsimp only at hm34
  simp
  refine CallAt.fn (r_ref02_Var T hx33) ?_
  obtain ⟨x35, hx36, hm37⟩ := bind1_some hm34
  clear hm34
  try dsimp only at hm37
  simp
  refine CallAt.fn (r_ref02_Var T hx36) ?_
  obtain ⟨x38, hx39, hm40⟩ := bind1_some hm37
  clear hm37
  try dsimp only at hm40
  simp
  refine CallAt.fn (r_ref02_N T hx39) ?_
  obtain ⟨x41, hx42, hm43⟩ := bind1_some hm40
  clear hm40
  try dsimp only at hm43
  simp
  refine CallAt.fn (r_ref05_lam T hx42) ?_
  obtain ⟨x44, hx45, hm46⟩ := bind1_some hm43
  clear hm43
  try dsimp only at hm46
  simp
  refine CallAt.fn (r_ref05_lam T hx45) ?_
  obtain ⟨x47, hx48, hm49⟩ := bind1_some hm46
  clear hm46
  try dsimp only at hm49
  simp
  refine CallAt.fn (r_ref02_Var T hx48) ?_
  obtain ⟨x50, hx51, hm52⟩ := bind1_some hm49
  clear hm49
  try dsimp only at hm52
  simp
  refine CallAt.fn (r_ref05_rec T hx51) ?_
  obtain ⟨x53, hx54, hm55⟩ := bind1_some hm52
  clear hm52
  try dsimp only at hm55
  simp
  refine CallAt.fn (r_ref05_lam T hx54) ?_
  obtain ⟨x56, hx57, hm58⟩ := bind1_some hm55
  clear hm55
  try dsimp only at hm58
  simp
  refine CallAt.fn (r_ref05_lam T hx57) ?_
  simp
  refine hk31 _ _ ?_
  refine AWp.ret ?_
  try simp only [thenQ_ret]
  obtain rfl := Option.some.inj hm58
  simp [retQ]

theorem enters68 : entersB Tryd.prog 68 = true := by kernel_rfl
set_option maxRecDepth 20000 in
set_option maxHeartbeats 4000000 in
theorem r_mk_App (T : Tabs) {H : Heap} {a0 : Tm} {a1 : (List Tm)} {r0 : Tm} (hm : mk_App a0 a1 = some r0) : ACall Tryd.prog T 68 [Tm.av a0, AV.slice .frz (List.map Tm.av a1)] H (Tm.av r0) H := by
  rw [mk_App] at hm
  refine ACallP.intro (fn := Tryd.f68) Tryd.func68 rfl enters68 (Nat.le_of_ble_eq_true rfl) ?_
  refine AWp.seqK fun K1 hk2 => ?_
  refine AWp.region [] (by decide +kernel) ?_
  simp
  refine hk2 _ _ ?_
  refine AWp.seqK fun K89 hk90 => ?_
  refine AWp.seqK fun K91 hk92 => ?_
  refine AWp.region [] (by decide +kernel) ?_
  simp
  refine hk92 _ _ ?_
  obtain ⟨hok195, hm246⟩ := chk_some hm
  clear hm
  obtain ⟨F177, hF178, hm247⟩ := joinB_some hm246
  clear hm246
  try dsimp only at hm247
  obtain ⟨out179, hl180, hmB181⟩ := bind1_some hm247
  clear hm247
  refine AWp.blockK fun Q186 nn187 ne188 nx189 nr190 => ?_
  refine AWp.loopF (fun n185 fr h => ∃ (i94 : Nat) (j93 : Int) (v172 : Int) (v173 : Int) (v174 : Int) (v175 : (List Ty)) (v176 : (List Tm)) (g2_171 : Nat) (g4_171 : Nat), H = h ∧ fr.env 2 = AV.lptr 2 g2_171 0 ∧ fr.env 4 = AV.lptr 4 g4_171 0 ∧ fr.env 7 = AV.slice .frz (List.map Tm.av a1) ∧ fr.env 8 = AV.sc (.int .i64 (llen a1)) ∧ fr.env 9 = AV.sc (.int .i64 j93) ∧ fr.gen 2 = g2_171 ∧ fr.box 2 = some [AV.sc (.int .i64 v172), AV.sc (.int .i64 v173), AV.sc (.int .i64 v174), AV.slice .frz (List.map Ty.av v175), AV.slice .frz (List.map Tm.av v176)] ∧ fr.gen 4 = g4_171 ∧ fr.box 4 = some [AV.sc (.int .i64 0), AV.sc (.int .i64 0), AV.sc (.int .i64 0), AV.slice .full [], AV.slice .full []] ∧ j93 = (i94 : Int) ∧ i94 + n185 = List.length a1 ∧ forR F177 (List.drop i94 a1) i94 (v172, v173, v174, v175, v176) = some out179) (List.length a1) ?_ ?_
  · refine ⟨0, 0, a0.kind, a0.index, a0.typeF.kind, a0.typeF.args, a0.args, 1, 1, ?_, ?_, ?_, ?_, ?_, ?_, ?_, ?_, ?_, ?_, rfl, (by simp), hl180⟩ <;> first | rfl | simp
  · rintro n185 fr171 h171 ⟨i94, j93, v172, v173, v174, v175, v176, g2_171, g4_171, rfl, e2_171, e4_171, e7_171, e8_171, e9_171, g2e_171, b2_171, g4e_171, b4_171, hj193, hi194, hl180⟩ K192 hK191
    rcases n185 with _ | n185
    · have hlt196 := ilt_notJ (l := a1) hj193 (by omega)
      refine AWp.seqK fun K232 hk233 => ?_
      refine AWp.region [] (by decide +kernel) ?_
      simp [e2_171, e4_171, e7_171, e8_171, e9_171, g2e_171, b2_171, g4e_171, b4_171, hlt196]
      refine hk233 _ _ ?_
      refine AWp.seqK fun K238 hk239 => ?_
      refine AWp.condK rfl fun A240 B241 ga242 gb243 => ?_
      simp [e2_171, e4_171, e7_171, e8_171, e9_171, g2e_171, b2_171, g4e_171, b4_171, hlt196]
      refine gb243 _ _ ?_
      refine AWp.exit ?_
      try simp only [thenQ_exit]
      refine ne188 _ _ ?_
      try simp only [thenQ_normal]
      rw [List.drop_eq_nil_of_le (by omega), forR_nil] at hl180
      obtain rfl := Option.some.inj hl180
      rw [sumK_inl, un5_mk] at hmB181
      try dsimp only at hmB181
      refine hk90 _ _ ?_
      refine AWp.seqK fun K244 hk245 => ?_
      refine AWp.region [] (by decide +kernel) ?_
      simp [e2_171, e4_171, e7_171, e8_171, e9_171, g2e_171, b2_171, g4e_171, b4_171, hlt196]
      refine hk245 _ _ ?_
      refine AWp.ret ?_
      try simp only [thenQ_ret]
      obtain rfl := Option.some.inj hmB181
      simp [retQ, e2_171, e4_171, e7_171, e8_171, e9_171, g2e_171, b2_171, g4e_171, b4_171, hlt196]
    · have hlt196 := ilt_ofJ (l := a1) hj193 (by omega)
      obtain ⟨x95, hdn185, hg197⟩ := drop_ltJ (l := a1) hj193 (by omega)
      rw [hdn185, forR_cons] at hl180
      obtain ⟨c182, hb184, hk183⟩ := bind1_some hl180
      clear hl180
      rw [hF178, ← hj193] at hb184
      try dsimp only at hb184
      rw [un5_mk] at hb184
      try dsimp only at hb184
      refine AWp.seqK fun K198 hk199 => ?_
      refine AWp.region [] (by decide +kernel) ?_
      simp [e2_171, e4_171, e7_171, e8_171, e9_171, g2e_171, b2_171, g4e_171, b4_171, hlt196, hg197]
      refine hk199 _ _ ?_
      refine AWp.seqK fun K204 hk205 => ?_
      refine AWp.condK rfl fun A206 B207 ga208 gb209 => ?_
      simp [e2_171, e4_171, e7_171, e8_171, e9_171, g2e_171, b2_171, g4e_171, b4_171, hlt196, hg197]
      refine ga208 _ _ ?_
      refine AWp.skip ?_
      try simp only [thenQ_normal]
      refine hk205 _ _ ?_
      refine AWp.seqK fun K220 hk221 => ?_
      refine AWp.blockK fun Q222 nn223 ne224 nx225 nr226 => ?_
      refine AWp.seqK fun K227 hk228 => ?_
      refine AWp.region [] (by decide +kernel) ?_
      simp [e2_171, e4_171, e7_171, e8_171, e9_171, g2e_171, b2_171, g4e_171, b4_171, hlt196, hg197]
      refine hk228 _ _ ?_
      refine AWp.region [] (by decide +kernel) ?_
      obtain ⟨x229, hx230, hm231⟩ := bind1_some hb184
      clear hb184
      try dsimp only at hm231
      simp [e2_171, e4_171, e7_171, e8_171, e9_171, g2e_171, b2_171, g4e_171, b4_171, hlt196, hg197]
      refine CallAt.fn (r_ref02_N T hx230) ?_
      simp [e2_171, e4_171, e7_171, e8_171, e9_171, g2e_171, b2_171, g4e_171, b4_171, hlt196, hg197]
      refine nn223 _ _ ?_
      try simp only [thenQ_normal]
      refine hk221 _ _ ?_
      refine AWp.region [] (by decide +kernel) ?_
      simp [e2_171, e4_171, e7_171, e8_171, e9_171, g2e_171, b2_171, g4e_171, b4_171, hlt196, hg197]
      obtain rfl := Option.some.inj hm231
      rw [ctlK_next] at hk183
      refine hK191 _ _ n185 (Nat.lt_succ_self _) ⟨(i94 + 1), (iadd .i64 j93 1), x229.kind, x229.index, x229.typeF.kind, x229.typeF.args, x229.args, g2_171, g4_171, ?_, ?_, ?_, ?_, ?_, ?_, ?_, ?_, ?_, ?_, (iadd_idxJ hj193 (by omega) hok195), (by omega), hk183⟩ <;> first | rfl | simp [e2_171, e4_171, e7_171, e8_171, e9_171, g2e_171, b2_171, g4e_171, b4_171, hlt196, hg197]

theorem enters94 : entersB Tryd.prog 94 = true := by kernel_rfl
set_option maxRecDepth 20000 in
set_option maxHeartbeats 4000000 in
theorem r_ref05_Pred (T : Tabs) {H : Heap}  {r0 : Tm} (hm : ref05_Pred = some r0) : ACall Tryd.prog T 94 [] H (Tm.av r0) H := by
  rw [ref05_Pred] at hm
  refine ACallP.intro (fn := Tryd.f94) Tryd.func94 rfl enters94 (Nat.le_of_ble_eq_true rfl) ?_
  refine AWp.seqK fun K1 hk2 => ?_
  refine AWp.region [] (by decide +kernel) ?_
  simp
  refine hk2 _ _ ?_
  refine AWp.seqK fun K24 hk25 => ?_
  refine AWp.region [] (by decide +kernel) ?_
  obtain ⟨x26, hx27, hm28⟩ := bind1_some hm
  clear hm
  try dsimp only at hm28
  simp
  refine CallAt.fn (r_ref02_N T hx27) ?_
  obtain ⟨x29, hx30, hm31⟩ := bind1_some hm28
  clear hm28
  try dsimp only at hm31
  simp
  refine CallAt.fn (r_ref02_Var T hx30) ?_
  obtain ⟨x32, hx33, hm34⟩ := bind1_some hm31
  clear hm31
  try dsimp only at hm34
  simp
  refine CallAt.fn (r_ref05_lam T hx33) ?_
  obtain ⟨x35, hx36, hm37⟩ := bind1_some hm34
  clear hm34
  try dsimp only at hm37
  simp
  refine CallAt.fn (r_ref05_lam T hx36) ?_
  obtain ⟨x38, hx39, hm40⟩ := bind1_some hm37
  clear hm37
  try dsimp only at hm40
  simp
  refine CallAt.fn (r_ref02_Var T hx39) ?_
  obtain ⟨x41, hx42, hm43⟩ := bind1_some hm40
  clear hm40
  try dsimp only at hm43
  simp
  refine CallAt.fn (r_ref05_rec T hx42) ?_
  obtain ⟨x44, hx45, hm46⟩ := bind1_some hm43
  clear hm43
  try dsimp only at hm46
  simp
  refine CallAt.fn (r_ref05_lam T hx45) ?_
  simp
  refine hk25 _ _ ?_
  refine AWp.ret ?_
  try simp only [thenQ_ret]
  obtain rfl := Option.some.inj hm46
  simp [retQ]

end Go.Proofs.YtdihelfnjememaaDoor
