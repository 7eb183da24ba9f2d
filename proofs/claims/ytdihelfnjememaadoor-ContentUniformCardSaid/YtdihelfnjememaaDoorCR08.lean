/- The program's functions do what the models say. -/
import Derived.Test.YtdihelfnjememaaDoorCR07
import Derived.Test.YtdihelfnjememaaDoorCM
set_option maxRecDepth 20000
set_option maxHeartbeats 4000000
set_option linter.unusedSimpArgs false
set_option linter.unusedVariables false
namespace Go.Proofs.YtdihelfnjememaaDoor
open Go Go.Abs Go.Mdl

theorem enters49 : entersB Tryd.prog 49 = true := by kernel_rfl

theorem r_ref01_Context (T : Tabs) {H : Heap} {a0 : (List Ty)} {r0 : Int} (hm : ref01_Context a0 = some r0) : ACall Tryd.prog T 49 [AV.slice .frz (List.map Ty.av a0)] H (AV.sc (.int .i64 r0)) H := by
  rw [ref01_Context] at hm
  refine ACallP.intro (fn := Tryd.f49) Tryd.func49 rfl enters49 (Nat.le_of_ble_eq_true rfl) ?_
  refine AWp.sr [] fun K1 hk2 => ?_
  simp
  apply hk2
  refine AWp.seqK fun K3 hk4 => ?_
  refine AWp.sr [] fun K5 hk6 => ?_
  simp
  apply hk6
  refine AWp.condK fun A7 B8 ga9 gb10 => ?_
  rcases ite_some hm with ⟨hc11, hm12⟩ | ⟨hc11, hm13⟩
  · clear hm
    simp [hc11]
    apply ga9
    refine AWp.sr [] fun K14 hk15 => ?_
    simp [hc11]
    apply hk15
    refine AWp.ret ?_
    obtain rfl := Option.some.inj hm12
    simp [retQ, hc11]
  clear hm
  simp [hc11]
  apply gb10
  refine AWp.skip ?_
  apply hk4
  refine AWp.seqK fun K16 hk17 => ?_
  refine AWp.sr [] fun K18 hk19 => ?_
  simp [hc11]
  apply hk19
  obtain ⟨hok20, hm21⟩ := chk_some hm13
  clear hm13
  obtain ⟨F22, hF23, hm24⟩ := joinB_some hm21
  clear hm21
  try dsimp only at hm24
  obtain ⟨out25, hl26, hmB27⟩ := bind1_some hm24
  clear hm24
  refine AWp.blockK fun Q28 nn29 ne30 nx31 nr32 => ?_
  refine AWp.loopF (fun n33 fr h => ∃ (i34 : Nat) (j35 : Int), H = h ∧ (fr.env 9 = AV.slice .frz (List.map Ty.av a0) ∧ fr.env 10 = AV.sc (.int .i64 (llen a0)) ∧ fr.env 11 = AV.sc (.int .i64 j35)) ∧ j35 = (i34 : Int) ∧ i34 + n33 = List.length a0 ∧ forR F22 (List.drop i34 a0) i34 () = some out25) (List.length a0) ?_ ?_
  · refine ⟨0, 0, ?_, ⟨?_, ?_, ?_⟩, rfl, (by simp), hl26⟩ <;> first | rfl | simp [hc11]
  rintro n33 fr36 h36 ⟨i34, j35, rfl, E36, hj37, hi38, hl26⟩ K39 hK40
  rcases n33 with _ | n33
  · have hlt41 := ilt_notJ (l := a0) hj37 (by omega)
    refine AWp.sr [] fun K42 hk43 => ?_
    simp [E36, hlt41, hc11]
    apply hk43
    refine AWp.seqK fun K44 hk45 => ?_
    refine AWp.condK fun A46 B47 ga48 gb49 => ?_
    simp [E36, hlt41, hc11]
    apply gb49
    refine AWp.exit ?_
    apply ne30
    rw [List.drop_eq_nil_of_le (by omega), forR_nil] at hl26
    obtain rfl := Option.some.inj hl26
    rw [sumK_inl] at hmB27
    try dsimp only at hmB27
    apply hk17
    refine AWp.sr [] fun K50 hk51 => ?_
    simp [E36, hlt41, hc11]
    apply hk51
    refine AWp.ret ?_
    obtain rfl := Option.some.inj hmB27
    simp [retQ, E36, hlt41, hc11]
  have hlt41 := ilt_ofJ (l := a0) hj37 (by omega)
  obtain ⟨x52, hdn33, hg53⟩ := drop_ltJ (l := a0) hj37 (by omega)
  rw [hdn33, forR_cons] at hl26
  obtain ⟨c54, hb55, hk56⟩ := bind1_some hl26
  clear hl26
  rw [hF23, ← hj37] at hb55
  try dsimp only at hb55
  refine AWp.sr [] fun K57 hk58 => ?_
  simp [E36, hlt41, hg53, hc11]
  apply hk58
  refine AWp.seqK fun K59 hk60 => ?_
  refine AWp.condK fun A61 B62 ga63 gb64 => ?_
  simp [E36, hlt41, hg53, hc11]
  apply ga63
  refine AWp.skip ?_
  apply hk60
  refine AWp.seqK fun K65 hk66 => ?_
  refine AWp.blockK fun Q67 nn68 ne69 nx70 nr71 => ?_
  refine AWp.sr [] fun K72 hk73 => ?_
  simp [E36, hlt41, hg53, hc11]
  apply hk73
  refine AWp.sr [] fun K74 hk75 => ?_
  obtain ⟨x76, hx77, hm78⟩ := bind1_some hb55
  clear hb55
  try dsimp only at hm78
  simp [E36, hlt41, hg53, hc11]
  refine CallAt.fn (r_ref01_Check T hx77) ?_
  simp [E36, hlt41, hg53, hc11]
  apply hk75
  refine AWp.sr [] fun K79 hk80 => ?_
  simp [E36, hlt41, hg53, hc11]
  apply hk80
  refine AWp.condK fun A81 B82 ga83 gb84 => ?_
  rcases ite_some hm78 with ⟨hc85, hm86⟩ | ⟨hc85, hm87⟩
  · clear hm78
    simp [E36, hlt41, hg53, hc11, hc85]
    apply ga83
    refine AWp.sr [] fun K88 hk89 => ?_
    simp [E36, hlt41, hg53, hc11, hc85]
    apply hk89
    refine AWp.ret ?_
    apply nr71
    apply nr32
    obtain rfl := Option.some.inj hm86
    rw [ctlK_ret] at hk56
    obtain rfl := Option.some.inj hk56
    rw [sumK_inr] at hmB27
    try dsimp only at hmB27
    obtain rfl := Option.some.inj hmB27
    simp [retQ, E36, hlt41, hg53, hc11, hc85]
  clear hm78
  simp [E36, hlt41, hg53, hc11, hc85]
  apply gb84
  refine AWp.skip ?_
  apply nn68
  apply hk66
  refine AWp.region [] (by decide +kernel) ?_
  simp [E36, hlt41, hg53, hc11, hc85]
  obtain rfl := Option.some.inj hm87
  rw [ctlK_next] at hk56
  refine hK40 _ _ n33 (Nat.lt_succ_self _) ⟨(i34 + 1), (iadd .i64 j35 1), ?_, ⟨?_, ?_, ?_⟩, (iadd_idxJ hj37 (by omega) hok20), (by omega), hk56⟩ <;> first | rfl | simp [E36, hlt41, hg53, hc11, hc85]

theorem enters20 : entersB Tryd.prog 20 = true := by kernel_rfl

theorem r_ref23_Context (T : Tabs) {H : Heap} {a0 : Sq} {r0 : (List Ty)} {r1 : Int} (hm : ref23_Context a0 = some (r0, r1)) : ACall Tryd.prog T 20 [Sq.av a0] H (AV.tuple [AV.slice .frz (List.map Ty.av r0), AV.sc (.int .i64 r1)]) H := by
  rw [ref23_Context] at hm
  refine ACallP.intro (fn := Tryd.f20) Tryd.func20 rfl enters20 (Nat.le_of_ble_eq_true rfl) ?_
  refine AWp.sr [] fun K1 hk2 => ?_
  simp
  apply hk2
  refine AWp.seqK fun K3 hk4 => ?_
  refine AWp.sr [] fun K5 hk6 => ?_
  obtain ⟨x7, hx8, hm9⟩ := bind1_some hm
  clear hm
  try dsimp only at hm9
  simp
  refine CallAt.fn (r_ref01_Context T hx8) ?_
  simp
  apply hk6
  refine AWp.sr [] fun K10 hk11 => ?_
  simp
  apply hk11
  refine AWp.condK fun A12 B13 ga14 gb15 => ?_
  rcases ite_some hm9 with ⟨hc16, hm17⟩ | ⟨hc16, hm18⟩
  · clear hm9
    simp [hc16]
    apply ga14
    refine AWp.sr [] fun K19 hk20 => ?_
    simp [hc16]
    apply hk20
    refine AWp.ret ?_
    simp only [Option.some.injEq, Prod.mk.injEq] at hm17
    obtain ⟨rfl, rfl⟩ := hm17
    simp [retQ, hc16]
  clear hm9
  simp [hc16]
  apply gb15
  refine AWp.skip ?_
  apply hk4
  refine AWp.seqK fun K21 hk22 => ?_
  refine AWp.sr [] fun K23 hk24 => ?_
  simp [hc16]
  apply hk24
  refine AWp.condK fun A25 B26 ga27 gb28 => ?_
  rcases ite_some hm18 with ⟨hc29, hm30⟩ | ⟨hc29, hm31⟩
  · clear hm18
    simp [hc16, hc29]
    apply ga27
    refine AWp.sr [] fun K32 hk33 => ?_
    simp [hc16, hc29]
    apply hk33
    refine AWp.ret ?_
    simp only [Option.some.injEq, Prod.mk.injEq] at hm30
    obtain ⟨rfl, rfl⟩ := hm30
    simp [retQ, hc16, hc29]
  clear hm18
  simp [hc16, hc29]
  apply gb28
  refine AWp.skip ?_
  apply hk22
  refine AWp.sr [] fun K34 hk35 => ?_
  obtain ⟨ha71, hm36⟩ := chk_some hm31
  clear hm31
  simp [hc16, hc29]
  refine AppAt.own (f := Ty.av) [] a0.types (OwnT.full (D := [])) ap23 (by intro x; simp) ha71 (by first | rfl | simp) (by first | rfl | simp) ?_
  simp [hc16, hc29]
  apply hk35
  refine AWp.seqK fun K37 hk38 => ?_
  refine AWp.sr [] fun K39 hk40 => ?_
  simp [hc16, hc29]
  apply hk40
  obtain ⟨F41, hF42, hm43⟩ := joinB_some hm36
  clear hm36
  try dsimp only at hm43
  obtain ⟨out44, hl45, hmB46⟩ := bind1_some hm43
  clear hm43
  refine AWp.blockK fun Q47 nn48 ne49 nx50 nr51 => ?_
  refine AWp.loopF (fun n52 fr h => ∃ (v53 : (List Ty)) (v54 : Int) (tg0_55 : Tag) (g1_55 : Nat), H = h ∧ (fr.env 1 = AV.lptr 1 g1_55 0 ∧ fr.env 5 = AV.slice tg0_55 (List.map Ty.av v53) ∧ fr.env 6 = AV.sc (.int .i64 v54) ∧ fr.gen 1 = g1_55 ∧ fr.box 1 = some [AV.slice .frz (List.map Ty.av a0.types), AV.slice .frz (List.map Fm.av a0.hyps)]) ∧ OwnT fr.tab fr.tgen [21, 50] tg0_55 (List.length v53) ∧ loopN F41 n52 (v53, v54) = some out44) FU ?_ ?_
  · refine ⟨(lapp [] a0.types), 0, (.loc 21 1), 1, ?_, ⟨?_, ?_, ?_, ?_, ?_⟩, (OwnT.mono (D := [21]) (OwnT.new (D := [21]) (d := 21) (by decide)) (by decide)), hl45⟩ <;> first | rfl | simp [hc16, hc29]
  rintro n52 fr55 h55 ⟨v53, v54, tg0_55, g1_55, rfl, E55, o0_55, hl45⟩ K56 hK57
  rcases n52 with _ | n52
  · rw [loopN_zero] at hl45
    cases hl45
  rw [loopN_succ] at hl45
  obtain ⟨c58, hb59, hk60⟩ := bind1_some hl45
  clear hl45
  rw [hF42] at hb59
  try dsimp only at hb59
  rw [un2_mk] at hb59
  try dsimp only at hb59
  refine AWp.seqK fun K61 hk62 => ?_
  refine AWp.sr [] fun K63 hk64 => ?_
  simp [E55, hc16, hc29]
  apply hk64
  refine AWp.condK fun A65 B66 ga67 gb68 => ?_
  rcases ite_some hb59 with ⟨hc69, hm70⟩ | ⟨hc69, hm71⟩
  rotate_left
  · clear hb59
    simp [E55, hc16, hc29, hc69]
    apply gb68
    refine AWp.exit ?_
    apply ne49
    obtain rfl := Option.some.inj hm71
    rw [ctlK_brk] at hk60
    obtain rfl := Option.some.inj hk60
    rw [sumK_inl, un2_mk] at hmB46
    try dsimp only at hmB46
    apply hk38
    refine AWp.sr [] fun K72 hk73 => ?_
    simp [E55, hc16, hc29, hc69]
    apply hk73
    refine AWp.ret ?_
    simp only [Option.some.injEq, Prod.mk.injEq] at hmB46
    obtain ⟨rfl, rfl⟩ := hmB46
    simp [retQ, E55, hc16, hc29, hc69]
  clear hb59
  simp [E55, hc16, hc29, hc69]
  apply ga67
  refine AWp.skip ?_
  apply hk62
  obtain ⟨j74, hj75, hm76⟩ := joinB_some hm70
  clear hm70
  refine AWp.seqP (fun fr h => ∃ (v77 : (List Ty)) (tg0_80 : Tag) (g1_80 : Nat), H = h ∧ (fr.env 1 = AV.lptr 1 g1_80 0 ∧ fr.env 5 = AV.slice tg0_80 (List.map Ty.av v77) ∧ fr.env 6 = AV.sc (.int .i64 v54) ∧ fr.gen 1 = g1_80 ∧ fr.box 1 = some [AV.slice .frz (List.map Ty.av a0.types), AV.slice .frz (List.map Fm.av a0.hyps)]) ∧ OwnT fr.tab fr.tgen [21, 50] tg0_80 (List.length v77) ∧ j74 v77 = some c58) (fun K78 hk79 => ?_) ?_
  rotate_left
  · clear hm76
    rintro fr80 h80 ⟨v77, tg0_80, g1_80, rfl, E80, o0_80, hm81⟩
    subst hj75
    refine AWp.region [] (by decide +kernel) ?_
    simp [E80, hc16, hc29, hc69]
    obtain rfl := Option.some.inj hm81
    rw [ctlK_next] at hk60
    refine hK57 _ _ n52 (Nat.lt_succ_self _) ⟨v77, (iadd .i64 v54 1), tg0_80, g1_80, ?_, ⟨?_, ?_, ?_, ?_, ?_⟩, (OwnT.mono (D := [21, 50]) o0_80 (by decide)), hk60⟩ <;> first | rfl | simp [E80, hc16, hc29, hc69]
  refine AWp.blockK fun Q82 nn83 ne84 nx85 nr86 => ?_
  refine AWp.sr [] fun K87 hk88 => ?_
  obtain ⟨x89, hx90, hm91⟩ := bind1_some hm76
  clear hm76
  try dsimp only at hm91
  obtain ⟨x92, x93, hx94, hm95⟩ := bind2_some hm91
  clear hm91
  try dsimp only at hm95
  simp [E55, hx90, hc16, hc29, hc69]
  refine CallAt.fn (r_ref23_Type T hx94) ?_
  simp [E55, hx90, hc16, hc29, hc69]
  apply hk88
  refine AWp.seqK fun K96 hk97 => ?_
  refine AWp.sr [] fun K98 hk99 => ?_
  simp [E55, hx90, hc16, hc29, hc69]
  apply hk99
  refine AWp.condK fun A100 B101 ga102 gb103 => ?_
  rcases ite_some hm95 with ⟨hc104, hm105⟩ | ⟨hc104, hm106⟩
  · clear hm95
    simp [E55, hx90, hc16, hc29, hc69, hc104]
    apply ga102
    refine AWp.sr [] fun K107 hk108 => ?_
    simp [E55, hx90, hc16, hc29, hc69, hc104]
    apply hk108
    refine AWp.ret ?_
    apply nr86
    apply nr51
    obtain rfl := Option.some.inj hm105
    rw [ctlK_ret] at hk60
    obtain rfl := Option.some.inj hk60
    rw [sumK_inr] at hmB46
    try dsimp only at hmB46
    simp only [Option.some.injEq, Prod.mk.injEq] at hmB46
    obtain ⟨rfl, rfl⟩ := hmB46
    simp [retQ, E55, hx90, hc16, hc29, hc69, hc104]
  clear hm95
  simp [E55, hx90, hc16, hc29, hc69, hc104]
  apply gb103
  refine AWp.skip ?_
  apply hk97
  refine AWp.sr [] fun K109 hk110 => ?_
  obtain ⟨x111, hx112, hm113⟩ := bind1_some hm106
  clear hm106
  try dsimp only at hm113
  simp [E55, hx90, hc16, hc29, hc69, hc104]
  refine CallAt.fn (r_ref23_Has T hx112) ?_
  simp [E55, hx90, hc16, hc29, hc69, hc104]
  apply hk110
  refine AWp.condK fun A114 B115 ga116 gb117 => ?_
  rcases ite_some hm113 with ⟨hc118, hm119⟩ | ⟨hc118, hm120⟩
  rotate_left
  · clear hm113
    simp [E55, hx90, hc16, hc29, hc69, hc104, hc118]
    apply gb117
    refine AWp.skip ?_
    apply nn83
    refine hk79 _ _ ⟨v53, tg0_55, g1_55, ?_, ⟨?_, ?_, ?_, ?_, ?_⟩, (OwnT.mono (D := [21, 50]) o0_55 (by decide)), hm120⟩ <;> first | rfl | simp [E55, hx90, hc16, hc29, hc69, hc104, hc118]
  clear hm113
  simp [E55, hx90, hc16, hc29, hc69, hc104, hc118]
  apply ga116
  refine AWp.region [] (by decide +kernel) ?_
  obtain ⟨ha869, hm121⟩ := chk_some hm119
  clear hm119
  simp [E55, hx90, hc16, hc29, hc69, hc104, hc118]
  refine AppAt.own (f := Ty.av) v53 [x92] o0_55 ap23 (by intro x; simp) ha869 (by first | rfl | simp) (by first | rfl | simp) ?_
  simp [E55, hx90, hc16, hc29, hc69, hc104, hc118]
  apply nn83
  refine hk79 _ _ ⟨(lapp v53 [x92]), (.loc 50 (fr55.tgen 50 + 1)), g1_55, ?_, ⟨?_, ?_, ?_, ?_, ?_⟩, (OwnT.mono (D := [50]) (OwnT.new (D := [50]) (d := 50) (by decide)) (by decide)), hm121⟩ <;> first | rfl | simp [E55, hx90, hc16, hc29, hc69, hc104, hc118]

theorem enters22 : entersB Tryd.prog 22 = true := by kernel_rfl

theorem r_ref23_Places (T : Tabs) {H : Heap} {a0 : Sq} {r0 : (List Int)} {r1 : Int} (hm : ref23_Places a0 = some (r0, r1)) : ACall Tryd.prog T 22 [Sq.av a0] H (AV.tuple [AV.slice .frz (List.map (fun n => AV.sc (Value.int .i64 n)) r0), AV.sc (.int .i64 r1)]) H := by
  rw [ref23_Places] at hm
  refine ACallP.intro (fn := Tryd.f22) Tryd.func22 rfl enters22 (Nat.le_of_ble_eq_true rfl) ?_
  refine AWp.sr [] fun K1 hk2 => ?_
  simp
  apply hk2
  refine AWp.seqK fun K3 hk4 => ?_
  refine AWp.sr [] fun K5 hk6 => ?_
  obtain ⟨x7, x8, hx9, hm10⟩ := bind2_some hm
  clear hm
  try dsimp only at hm10
  simp
  refine CallAt.fn (r_ref23_Context T hx9) ?_
  simp
  apply hk6
  refine AWp.sr [] fun K11 hk12 => ?_
  simp
  apply hk12
  refine AWp.condK fun A13 B14 ga15 gb16 => ?_
  rcases ite_some hm10 with ⟨hc17, hm18⟩ | ⟨hc17, hm19⟩
  · clear hm10
    simp [hc17]
    apply ga15
    refine AWp.sr [] fun K20 hk21 => ?_
    simp [hc17]
    apply hk21
    refine AWp.ret ?_
    simp only [Option.some.injEq, Prod.mk.injEq] at hm18
    obtain ⟨rfl, rfl⟩ := hm18
    simp [retQ, hc17]
  clear hm10
  simp [hc17]
  apply gb16
  refine AWp.skip ?_
  apply hk4
  refine AWp.sr [] fun K22 hk23 => ?_
  simp [hc17]
  apply hk23
  refine AWp.sr [] fun K24 hk25 => ?_
  simp [hc17]
  apply hk25
  refine AWp.seqK fun K26 hk27 => ?_
  refine AWp.sr [] fun K28 hk29 => ?_
  simp [hc17]
  apply hk29
  obtain ⟨F30, hF31, hm32⟩ := joinB_some hm19
  clear hm19
  try dsimp only at hm32
  obtain ⟨out33, hl34, hmB35⟩ := bind1_some hm32
  clear hm32
  refine AWp.blockK fun Q36 nn37 ne38 nx39 nr40 => ?_
  refine AWp.loopF (fun n41 fr h => ∃ (v42 : (List Int)) (v43 : Int) (v44 : Int) (tg0_45 : Tag) (g1_45 : Nat), H = h ∧ (fr.env 1 = AV.lptr 1 g1_45 0 ∧ fr.env 6 = AV.slice tg0_45 (List.map (fun n => AV.sc (Value.int .i64 n)) v42) ∧ fr.env 7 = AV.sc (.int .i64 v43) ∧ fr.env 8 = AV.sc (.int .i64 v44) ∧ fr.gen 1 = g1_45 ∧ fr.box 1 = some [AV.slice .frz (List.map Ty.av a0.types), AV.slice .frz (List.map Fm.av a0.hyps)]) ∧ OwnT fr.tab fr.tgen [36, 41] tg0_45 (List.length v42) ∧ loopN F30 n41 (v42, v43, v44) = some out33) FU ?_ ?_
  · refine ⟨[], (llen a0.types), 0, .full, 1, ?_, ⟨?_, ?_, ?_, ?_, ?_, ?_⟩, OwnT.full, hl34⟩ <;> first | rfl | simp [hc17]
  rintro n41 fr45 h45 ⟨v42, v43, v44, tg0_45, g1_45, rfl, E45, o0_45, hl34⟩ K46 hK47
  rcases n41 with _ | n41
  · rw [loopN_zero] at hl34
    cases hl34
  rw [loopN_succ] at hl34
  obtain ⟨c48, hb49, hk50⟩ := bind1_some hl34
  clear hl34
  rw [hF31] at hb49
  try dsimp only at hb49
  rw [un3_mk] at hb49
  try dsimp only at hb49
  refine AWp.seqK fun K51 hk52 => ?_
  refine AWp.sr [] fun K53 hk54 => ?_
  simp [E45, hc17]
  apply hk54
  refine AWp.condK fun A55 B56 ga57 gb58 => ?_
  rcases ite_some hb49 with ⟨hc59, hm60⟩ | ⟨hc59, hm61⟩
  rotate_left
  · clear hb49
    simp [E45, hc17, hc59]
    apply gb58
    refine AWp.exit ?_
    apply ne38
    obtain rfl := Option.some.inj hm61
    rw [ctlK_brk] at hk50
    obtain rfl := Option.some.inj hk50
    rw [sumK_inl, un3_mk] at hmB35
    try dsimp only at hmB35
    apply hk27
    refine AWp.sr [] fun K62 hk63 => ?_
    simp [E45, hc17, hc59]
    apply hk63
    refine AWp.ret ?_
    simp only [Option.some.injEq, Prod.mk.injEq] at hmB35
    obtain ⟨rfl, rfl⟩ := hmB35
    simp [retQ, E45, hc17, hc59]
  clear hb49
  simp [E45, hc17, hc59]
  apply ga57
  refine AWp.skip ?_
  apply hk52
  obtain ⟨j64, hj65, hm66⟩ := joinB_some hm60
  clear hm60
  refine AWp.seqP (fun fr h => ∃ (v67 : (List Int)) (v68 : Int) (tg0_71 : Tag) (g1_71 : Nat), H = h ∧ (fr.env 1 = AV.lptr 1 g1_71 0 ∧ fr.env 6 = AV.slice tg0_71 (List.map (fun n => AV.sc (Value.int .i64 n)) v67) ∧ fr.env 7 = AV.sc (.int .i64 v68) ∧ fr.env 8 = AV.sc (.int .i64 v44) ∧ fr.gen 1 = g1_71 ∧ fr.box 1 = some [AV.slice .frz (List.map Ty.av a0.types), AV.slice .frz (List.map Fm.av a0.hyps)]) ∧ OwnT fr.tab fr.tgen [36, 41] tg0_71 (List.length v67) ∧ j64 v67 v68 = some c48) (fun K69 hk70 => ?_) ?_
  rotate_left
  · clear hm66
    rintro fr71 h71 ⟨v67, v68, tg0_71, g1_71, rfl, E71, o0_71, hm72⟩
    subst hj65
    refine AWp.region [] (by decide +kernel) ?_
    simp [E71, hc17, hc59]
    obtain rfl := Option.some.inj hm72
    rw [ctlK_next] at hk50
    refine hK47 _ _ n41 (Nat.lt_succ_self _) ⟨v67, v68, (iadd .i64 v44 1), tg0_71, g1_71, ?_, ⟨?_, ?_, ?_, ?_, ?_, ?_⟩, (OwnT.mono (D := [36, 41]) o0_71 (by decide)), hk50⟩ <;> first | rfl | simp [E71, hc17, hc59]
  refine AWp.blockK fun Q73 nn74 ne75 nx76 nr77 => ?_
  refine AWp.sr [] fun K78 hk79 => ?_
  obtain ⟨x80, hx81, hm82⟩ := bind1_some hm66
  clear hm66
  try dsimp only at hm82
  obtain ⟨x83, hx84, hm85⟩ := bind1_some hm82
  clear hm82
  try dsimp only at hm85
  simp [E45, hx81, hc17, hc59]
  refine CallAt.fn (r_ref23_Has T hx84) ?_
  simp [E45, hx81, hc17, hc59]
  apply hk79
  refine AWp.condK fun A86 B87 ga88 gb89 => ?_
  rcases ite_some hm85 with ⟨hc90, hm91⟩ | ⟨hc90, hm92⟩
  rotate_left
  · clear hm85
    simp [E45, hx81, hc17, hc59, hc90]
    apply gb89
    refine AWp.region [] (by decide +kernel) ?_
    obtain ⟨ha576, hm93⟩ := chk_some hm92
    clear hm92
    simp [E45, hx81, hc17, hc59, hc90]
    refine AppAt.own (f := (fun n => AV.sc (Value.int .i64 n))) v42 [(-1)] o0_45 ap22 (by intro x; simp) ha576 (by first | rfl | simp) (by first | rfl | simp) ?_
    simp [E45, hx81, hc17, hc59, hc90]
    apply nn74
    refine hk70 _ _ ⟨(lapp v42 [(-1)]), v43, (.loc 41 (fr45.tgen 41 + 1)), g1_45, ?_, ⟨?_, ?_, ?_, ?_, ?_, ?_⟩, (OwnT.mono (D := [41]) (OwnT.new (D := [41]) (d := 41) (by decide)) (by decide)), hm93⟩ <;> first | rfl | simp [E45, hx81, hc17, hc59, hc90]
  clear hm85
  simp [E45, hx81, hc17, hc59, hc90]
  apply ga88
  refine AWp.sr [] fun K94 hk95 => ?_
  obtain ⟨ha574, hm96⟩ := chk_some hm91
  clear hm91
  simp [E45, hx81, hc17, hc59, hc90]
  refine AppAt.own (f := (fun n => AV.sc (Value.int .i64 n))) v42 [v43] o0_45 ap22 (by intro x; simp) ha574 (by first | rfl | simp) (by first | rfl | simp) ?_
  simp [E45, hx81, hc17, hc59, hc90]
  apply hk95
  refine AWp.region [] (by decide +kernel) ?_
  simp [E45, hx81, hc17, hc59, hc90]
  apply nn74
  refine hk70 _ _ ⟨(lapp v42 [v43]), (iadd .i64 v43 1), (.loc 36 (fr45.tgen 36 + 1)), g1_45, ?_, ⟨?_, ?_, ?_, ?_, ?_, ?_⟩, (OwnT.mono (D := [36]) (OwnT.new (D := [36]) (d := 36) (by decide)) (by decide)), hm96⟩ <;> first | rfl | simp [E45, hx81, hc17, hc59, hc90]

theorem enters23 : entersB Tryd.prog 23 = true := by kernel_rfl

theorem r_ref01_SameAll (T : Tabs) {H : Heap} {a0 : (List Ty)} {a1 : (List Ty)} {r0 : Bool} (hm : ref01_SameAll a0 a1 = some r0) : ACall Tryd.prog T 23 [AV.slice .frz (List.map Ty.av a0), AV.slice .frz (List.map Ty.av a1)] H (AV.sc (.bool r0)) H := by
  rw [ref01_SameAll] at hm
  refine ACallP.intro (fn := Tryd.f23) Tryd.func23 rfl enters23 (Nat.le_of_ble_eq_true rfl) ?_
  refine AWp.sr [] fun K1 hk2 => ?_
  simp
  apply hk2
  refine AWp.seqK fun K3 hk4 => ?_
  refine AWp.sr [] fun K5 hk6 => ?_
  simp
  apply hk6
  refine AWp.condK fun A7 B8 ga9 gb10 => ?_
  rcases ite_some hm with ⟨hc11, hm12⟩ | ⟨hc11, hm13⟩
  · clear hm
    simp [hc11]
    apply ga9
    refine AWp.sr [] fun K14 hk15 => ?_
    simp [hc11]
    apply hk15
    refine AWp.ret ?_
    obtain rfl := Option.some.inj hm12
    simp [retQ, hc11]
  clear hm
  simp [hc11]
  apply gb10
  refine AWp.skip ?_
  apply hk4
  refine AWp.seqK fun K16 hk17 => ?_
  refine AWp.sr [] fun K18 hk19 => ?_
  simp [hc11]
  apply hk19
  obtain ⟨hok20, hm21⟩ := chk_some hm13
  clear hm13
  obtain ⟨F22, hF23, hm24⟩ := joinB_some hm21
  clear hm21
  try dsimp only at hm24
  obtain ⟨out25, hl26, hmB27⟩ := bind1_some hm24
  clear hm24
  refine AWp.blockK fun Q28 nn29 ne30 nx31 nr32 => ?_
  refine AWp.loopF (fun n33 fr h => ∃ (i34 : Nat) (j35 : Int), H = h ∧ (fr.env 0 = AV.slice .frz (List.map Ty.av a0) ∧ fr.env 1 = AV.slice .frz (List.map Ty.av a1) ∧ fr.env 12 = AV.sc (.int .i64 (llen a0)) ∧ fr.env 13 = AV.sc (.int .i64 j35)) ∧ j35 = (i34 : Int) ∧ i34 + n33 = List.length a0 ∧ forR F22 (List.drop i34 a0) i34 () = some out25) (List.length a0) ?_ ?_
  · refine ⟨0, 0, ?_, ⟨?_, ?_, ?_, ?_⟩, rfl, (by simp), hl26⟩ <;> first | rfl | simp [hc11]
  rintro n33 fr36 h36 ⟨i34, j35, rfl, E36, hj37, hi38, hl26⟩ K39 hK40
  rcases n33 with _ | n33
  · have hlt41 := ilt_notJ (l := a0) hj37 (by omega)
    refine AWp.sr [] fun K42 hk43 => ?_
    simp [E36, hlt41, hc11]
    apply hk43
    refine AWp.seqK fun K44 hk45 => ?_
    refine AWp.condK fun A46 B47 ga48 gb49 => ?_
    simp [E36, hlt41, hc11]
    apply gb49
    refine AWp.exit ?_
    apply ne30
    rw [List.drop_eq_nil_of_le (by omega), forR_nil] at hl26
    obtain rfl := Option.some.inj hl26
    rw [sumK_inl] at hmB27
    try dsimp only at hmB27
    apply hk17
    refine AWp.sr [] fun K50 hk51 => ?_
    simp [E36, hlt41, hc11]
    apply hk51
    refine AWp.ret ?_
    obtain rfl := Option.some.inj hmB27
    simp [retQ, E36, hlt41, hc11]
  have hlt41 := ilt_ofJ (l := a0) hj37 (by omega)
  obtain ⟨x52, hdn33, hg53⟩ := drop_ltJ (l := a0) hj37 (by omega)
  rw [hdn33, forR_cons] at hl26
  obtain ⟨c54, hb55, hk56⟩ := bind1_some hl26
  clear hl26
  rw [hF23, ← hj37] at hb55
  try dsimp only at hb55
  refine AWp.sr [] fun K57 hk58 => ?_
  simp [E36, hlt41, hg53, hc11]
  apply hk58
  refine AWp.seqK fun K59 hk60 => ?_
  refine AWp.condK fun A61 B62 ga63 gb64 => ?_
  simp [E36, hlt41, hg53, hc11]
  apply ga63
  refine AWp.skip ?_
  apply hk60
  refine AWp.seqK fun K65 hk66 => ?_
  refine AWp.blockK fun Q67 nn68 ne69 nx70 nr71 => ?_
  refine AWp.sr [] fun K72 hk73 => ?_
  simp [E36, hlt41, hg53, hc11]
  apply hk73
  refine AWp.seqK fun K74 hk75 => ?_
  refine AWp.regionD [] false mixed (by decide +kernel) (by decide +kernel) ?_
  obtain ⟨x76, hx77, hm78⟩ := bind1_some hb55
  clear hb55
  try dsimp only at hm78
  obtain ⟨x79, hx80, hm81⟩ := bind1_some hm78
  clear hm78
  try dsimp only at hm81
  simp [E36, hlt41, hg53, hx77, hc11]
  refine CallAtD.fn (r_ref01_Same T hx80) (by simp) ?_
  simp [E36, hlt41, hg53, hx77, hc11]
  apply hk75
  refine AWp.condK fun A82 B83 ga84 gb85 => ?_
  rcases ite_some hm81 with ⟨hc86, hm87⟩ | ⟨hc86, hm88⟩
  rotate_left
  · clear hm81
    simp [E36, hlt41, hg53, hx77, hc11, hc86]
    apply ga84
    refine AWp.sr [] fun K89 hk90 => ?_
    simp [E36, hlt41, hg53, hx77, hc11, hc86]
    apply hk90
    refine AWp.ret ?_
    apply nr71
    apply nr32
    obtain rfl := Option.some.inj hm88
    rw [ctlK_ret] at hk56
    obtain rfl := Option.some.inj hk56
    rw [sumK_inr] at hmB27
    try dsimp only at hmB27
    obtain rfl := Option.some.inj hmB27
    simp [retQ, E36, hlt41, hg53, hx77, hc11, hc86]
  clear hm81
  simp [E36, hlt41, hg53, hx77, hc11, hc86]
  apply gb85
  refine AWp.skip ?_
  apply nn68
  apply hk66
  refine AWp.region [] (by decide +kernel) ?_
  simp [E36, hlt41, hg53, hx77, hc11, hc86]
  obtain rfl := Option.some.inj hm87
  rw [ctlK_next] at hk56
  refine hK40 _ _ n33 (Nat.lt_succ_self _) ⟨(i34 + 1), (iadd .i64 j35 1), ?_, ⟨?_, ?_, ?_, ?_⟩, (iadd_idxJ hj37 (by omega) hok20), (by omega), hk56⟩ <;> first | rfl | simp [E36, hlt41, hg53, hx77, hc11, hc86]

theorem enters24 : entersB Tryd.prog 24 = true := by kernel_rfl

theorem r_ref05_Ints (T : Tabs) {H : Heap} {a0 : (List Int)} {a1 : (List Int)} {r0 : Bool} (hm : ref05_Ints a0 a1 = some r0) : ACall Tryd.prog T 24 [AV.slice .frz (List.map (fun n => AV.sc (Value.int .i64 n)) a0), AV.slice .frz (List.map (fun n => AV.sc (Value.int .i64 n)) a1)] H (AV.sc (.bool r0)) H := by
  rw [ref05_Ints] at hm
  refine ACallP.intro (fn := Tryd.f24) Tryd.func24 rfl enters24 (Nat.le_of_ble_eq_true rfl) ?_
  refine AWp.sr [] fun K1 hk2 => ?_
  simp
  apply hk2
  refine AWp.seqK fun K3 hk4 => ?_
  refine AWp.sr [] fun K5 hk6 => ?_
  simp
  apply hk6
  refine AWp.condK fun A7 B8 ga9 gb10 => ?_
  rcases ite_some hm with ⟨hc11, hm12⟩ | ⟨hc11, hm13⟩
  · clear hm
    simp [hc11]
    apply ga9
    refine AWp.sr [] fun K14 hk15 => ?_
    simp [hc11]
    apply hk15
    refine AWp.ret ?_
    obtain rfl := Option.some.inj hm12
    simp [retQ, hc11]
  clear hm
  simp [hc11]
  apply gb10
  refine AWp.skip ?_
  apply hk4
  refine AWp.seqK fun K16 hk17 => ?_
  refine AWp.sr [] fun K18 hk19 => ?_
  simp [hc11]
  apply hk19
  obtain ⟨hok20, hm21⟩ := chk_some hm13
  clear hm13
  obtain ⟨F22, hF23, hm24⟩ := joinB_some hm21
  clear hm21
  try dsimp only at hm24
  obtain ⟨out25, hl26, hmB27⟩ := bind1_some hm24
  clear hm24
  refine AWp.blockK fun Q28 nn29 ne30 nx31 nr32 => ?_
  refine AWp.loopF (fun n33 fr h => ∃ (i34 : Nat) (j35 : Int), H = h ∧ (fr.env 0 = AV.slice .frz (List.map (fun n => AV.sc (Value.int .i64 n)) a0) ∧ fr.env 1 = AV.slice .frz (List.map (fun n => AV.sc (Value.int .i64 n)) a1) ∧ fr.env 12 = AV.sc (.int .i64 (llen a0)) ∧ fr.env 13 = AV.sc (.int .i64 j35)) ∧ j35 = (i34 : Int) ∧ i34 + n33 = List.length a0 ∧ forR F22 (List.drop i34 a0) i34 () = some out25) (List.length a0) ?_ ?_
  · refine ⟨0, 0, ?_, ⟨?_, ?_, ?_, ?_⟩, rfl, (by simp), hl26⟩ <;> first | rfl | simp [hc11]
  rintro n33 fr36 h36 ⟨i34, j35, rfl, E36, hj37, hi38, hl26⟩ K39 hK40
  rcases n33 with _ | n33
  · have hlt41 := ilt_notJ (l := a0) hj37 (by omega)
    refine AWp.sr [] fun K42 hk43 => ?_
    simp [E36, hlt41, hc11]
    apply hk43
    refine AWp.seqK fun K44 hk45 => ?_
    refine AWp.condK fun A46 B47 ga48 gb49 => ?_
    simp [E36, hlt41, hc11]
    apply gb49
    refine AWp.exit ?_
    apply ne30
    rw [List.drop_eq_nil_of_le (by omega), forR_nil] at hl26
    obtain rfl := Option.some.inj hl26
    rw [sumK_inl] at hmB27
    try dsimp only at hmB27
    apply hk17
    refine AWp.sr [] fun K50 hk51 => ?_
    simp [E36, hlt41, hc11]
    apply hk51
    refine AWp.ret ?_
    obtain rfl := Option.some.inj hmB27
    simp [retQ, E36, hlt41, hc11]
  have hlt41 := ilt_ofJ (l := a0) hj37 (by omega)
  obtain ⟨x52, hdn33, hg53⟩ := drop_ltJ (l := a0) hj37 (by omega)
  rw [hdn33, forR_cons] at hl26
  obtain ⟨c54, hb55, hk56⟩ := bind1_some hl26
  clear hl26
  rw [hF23, ← hj37] at hb55
  try dsimp only at hb55
  refine AWp.sr [] fun K57 hk58 => ?_
  simp [E36, hlt41, hg53, hc11]
  apply hk58
  refine AWp.seqK fun K59 hk60 => ?_
  refine AWp.condK fun A61 B62 ga63 gb64 => ?_
  simp [E36, hlt41, hg53, hc11]
  apply ga63
  refine AWp.skip ?_
  apply hk60
  refine AWp.seqK fun K65 hk66 => ?_
  refine AWp.blockK fun Q67 nn68 ne69 nx70 nr71 => ?_
  refine AWp.sr [] fun K72 hk73 => ?_
  simp [E36, hlt41, hg53, hc11]
  apply hk73
  refine AWp.seqK fun K74 hk75 => ?_
  refine AWp.regionD [] true mixed (by decide +kernel) (by decide +kernel) ?_
  obtain ⟨x76, hx77, hm78⟩ := bind1_some hb55
  clear hb55
  try dsimp only at hm78
  simp [E36, hlt41, hg53, hx77, hc11]
  apply hk75
  refine AWp.condK fun A79 B80 ga81 gb82 => ?_
  rcases ite_some hm78 with ⟨hc83, hm84⟩ | ⟨hc83, hm85⟩
  · clear hm78
    simp [E36, hlt41, hg53, hx77, hc11, hc83]
    apply ga81
    refine AWp.sr [] fun K86 hk87 => ?_
    simp [E36, hlt41, hg53, hx77, hc11, hc83]
    apply hk87
    refine AWp.ret ?_
    apply nr71
    apply nr32
    obtain rfl := Option.some.inj hm84
    rw [ctlK_ret] at hk56
    obtain rfl := Option.some.inj hk56
    rw [sumK_inr] at hmB27
    try dsimp only at hmB27
    obtain rfl := Option.some.inj hmB27
    simp [retQ, E36, hlt41, hg53, hx77, hc11, hc83]
  clear hm78
  simp [E36, hlt41, hg53, hx77, hc11, hc83]
  apply gb82
  refine AWp.skip ?_
  apply nn68
  apply hk66
  refine AWp.region [] (by decide +kernel) ?_
  simp [E36, hlt41, hg53, hx77, hc11, hc83]
  obtain rfl := Option.some.inj hm85
  rw [ctlK_next] at hk56
  refine hK40 _ _ n33 (Nat.lt_succ_self _) ⟨(i34 + 1), (iadd .i64 j35 1), ?_, ⟨?_, ?_, ?_, ?_⟩, (iadd_idxJ hj37 (by omega) hok20), (by omega), hk56⟩ <;> first | rfl | simp [E36, hlt41, hg53, hx77, hc11, hc83]

theorem enters3 : entersB Tryd.prog 3 = true := by kernel_rfl

theorem r_law23_ContentExact (T : Tabs) (hT : T 0 = some (AV.agg (List.map (fun n => AV.sc (Value.int .i64 n)) tree_arities))) {a0 : (List Int)} {a1 : Fm} {a2 : Sq} {r0 : Bool} (hm : law23_ContentExact a0 a1 a2 = some r0) : ACallP Tryd.prog T 3 [AV.slice .frz (List.map (fun n => AV.sc (Value.int .i64 n)) a0), Fm.av a1, Sq.av a2] [] (fun x _ => x = AV.sc (.bool r0)) := by
  rw [law23_ContentExact] at hm
  refine ACallP.intro (fn := Tryd.f3) Tryd.func3 rfl enters3 (Nat.le_of_ble_eq_true rfl) ?_
  refine AWp.sr [] fun K1 hk2 => ?_
  simp [hT]
  apply hk2
  refine AWp.seqK fun K3 hk4 => ?_
  obtain ⟨j5, hj6, hm7⟩ := joinB_some hm
  clear hm
  refine AWp.seqP (fun fr h => ∃ (v8 : Bool) (g4_41 : Nat) (g5_41 : Nat), ([] : Heap) = h ∧ (fr.env 0 = AV.slice .frz (List.map (fun n => AV.sc (Value.int .i64 n)) a0) ∧ fr.env 4 = AV.lptr 4 g4_41 0 ∧ fr.env 5 = AV.lptr 5 g5_41 0 ∧ fr.env 53 = AV.sc (.bool v8) ∧ fr.gen 4 = g4_41 ∧ fr.box 4 = some [AV.sc (.int .i64 a1.kind), AV.sc (.int .i64 a1.typeF.kind), AV.slice .frz (List.map Ty.av a1.typeF.args), AV.slice .frz (List.map Tm.av a1.terms), AV.slice .frz (List.map Fm.av a1.args)] ∧ fr.gen 5 = g5_41 ∧ fr.box 5 = some [AV.slice .frz (List.map Ty.av a2.types), AV.slice .frz (List.map Fm.av a2.hyps)]) ∧ j5 v8 = some r0) (fun K9 hk10 => ?_) ?_
  · refine AWp.regionD [] false mixed (by decide +kernel) (by decide +kernel) ?_
    obtain ⟨x11, hx12, hm13⟩ := bind1_some hm7
    clear hm7
    try dsimp only at hm13
    simp [hT]
    refine CallAtD.fn (r_law23_awake T hT hx12) (by simp) ?_
    rcases ite_some hm13 with ⟨hc14, hm15⟩ | ⟨hc14, hm16⟩
    rotate_left
    · clear hm13
      simp [hT, hc14]
      refine hk10 _ _ ⟨true, 1, 1, ?_, ⟨?_, ?_, ?_, ?_, ?_, ?_, ?_, ?_⟩, hm16⟩ <;> first | rfl | simp [hT, hc14]
    clear hm13
    obtain ⟨x17, hx18, hm19⟩ := bind1_some hm15
    clear hm15
    try dsimp only at hm19
    simp [hT, hc14]
    refine CallAtD.fn (r_mk_Few T hx18) (by simp) ?_
    rcases ite_some hm19 with ⟨hc20, hm21⟩ | ⟨hc20, hm22⟩
    rotate_left
    · clear hm19
      simp [hT, hc14, hc20]
      refine hk10 _ _ ⟨true, 1, 1, ?_, ⟨?_, ?_, ?_, ?_, ?_, ?_, ?_, ?_⟩, hm22⟩ <;> first | rfl | simp [hT, hc14, hc20]
    clear hm19
    obtain ⟨x23, hx24, hm25⟩ := bind1_some hm21
    clear hm21
    try dsimp only at hm25
    simp [hT, hc14, hc20]
    refine CallAtD.fn (r_play_Count T hx24) (by simp) ?_
    obtain ⟨x26, hx27, hm28⟩ := bind1_some hm25
    clear hm25
    try dsimp only at hm28
    simp [hT, hc14, hc20]
    refine CallAtD.fn (r_play_Sum_Formula T hx27) (by simp) ?_
    obtain ⟨x29, hx30, hm31⟩ := bind1_some hm28
    clear hm28
    try dsimp only at hm31
    simp [hT, hc14, hc20]
    refine CallAtD.fn (r_play_Sum_Sequent T hx30) (by simp) ?_
    obtain ⟨x32, hx33, hm34⟩ := bind1_some hm31
    clear hm31
    try dsimp only at hm34
    simp [hT, hc14, hc20]
    refine CallAtD.fn (r_play_Sum_Few T hx33) (by simp) ?_
    rcases ite_some hm34 with ⟨hc35, hm36⟩ | ⟨hc35, hm37⟩
    rotate_left
    · clear hm34
      simp [hT, hc14, hc20, hc35]
      refine hk10 _ _ ⟨true, 1, 1, ?_, ⟨?_, ?_, ?_, ?_, ?_, ?_, ?_, ?_⟩, hm37⟩ <;> first | rfl | simp [hT, hc14, hc20, hc35]
    clear hm34
    rcases ite_some hm36 with ⟨hc38, hm39⟩ | ⟨hc38, hm40⟩
    · clear hm36
      simp [hT, hc14, hc20, hc35, hc38]
      refine hk10 _ _ ⟨true, 1, 1, ?_, ⟨?_, ?_, ?_, ?_, ?_, ?_, ?_, ?_⟩, hm39⟩ <;> first | rfl | simp [hT, hc14, hc20, hc35, hc38]
    clear hm36
    simp [hT, hc14, hc20, hc35, hc38]
    refine hk10 _ _ ⟨(igt (llen a2.hyps) 30), 1, 1, ?_, ⟨?_, ?_, ?_, ?_, ?_, ?_, ?_, ?_⟩, hm40⟩ <;> first | rfl | simp [hT, hc14, hc20, hc35, hc38]
  clear hm7
  rintro fr41 h41 ⟨v8, g4_41, g5_41, rfl, E41, hm42⟩
  subst hj6
  refine AWp.condK fun A43 B44 ga45 gb46 => ?_
  rcases ite_some hm42 with ⟨hc47, hm48⟩ | ⟨hc47, hm49⟩
  · clear hm42
    simp [E41, hT, hc47]
    apply ga45
    refine AWp.sr [] fun K50 hk51 => ?_
    obtain ⟨x52, hx53, hm54⟩ := bind1_some hm48
    clear hm48
    try dsimp only at hm54
    simp [E41, hT, hc47]
    refine CallAt.fn (r_law23_awake T hT hx53) ?_
    simp [E41, hT, hc47]
    apply hk51
    refine AWp.ret ?_
    obtain rfl := Option.some.inj hm54
    simp [retQ, E41, hT, hc47]
  clear hm42
  simp [E41, hT, hc47]
  apply gb46
  refine AWp.skip ?_
  apply hk4
  refine AWp.sr [] fun K55 hk56 => ?_
  obtain ⟨x57, hx58, hm59⟩ := bind1_some hm49
  clear hm49
  try dsimp only at hm59
  simp [E41, hT, hc47]
  refine CallAt.fn (r_mk_New T hx58) ?_
  simp [E41, hT, hc47]
  apply hk56
  refine AWp.sr [] fun K60 hk61 => ?_
  obtain ⟨x62, d63, hx64, hm65⟩ := bind2_some hm59
  clear hm59
  try dsimp only at hm65
  simp [E41, hT, hc47]
  refine CallAt.fn (r_mk_Sequent T (by first | exact ho | decide) hx64) ?_
  simp [E41, hT, hc47]
  apply hk61
  refine AWp.seqK fun K66 hk67 => ?_
  refine AWp.seqK fun K68 hk69 => ?_
  refine AWp.regionD [] false mixed (by decide +kernel) (by decide +kernel) ?_
  obtain ⟨x70, d71, hx72, hm73⟩ := bind2_some hm65
  clear hm65
  try dsimp only at hm73
  simp [E41, hT, hc47]
  refine CallAtD.fn (r_mk_Formula T (by first | exact ho | decide) hx72) (by simp) ?_
  simp [E41, hT, hc47]
  apply hk69
  obtain ⟨L74, hL75, hm76⟩ := joinB_some hm73
  clear hm73
  try dsimp only at hm76
  obtain ⟨hok77, hm78⟩ := chk_some hm76
  clear hm76
  obtain ⟨F79, hF80, hm81⟩ := joinB_some hm78
  clear hm78
  try dsimp only at hm81
  obtain ⟨out82, hl83, hmB84⟩ := bind1_some hm81
  clear hm81
  refine AWp.blockK fun Q85 nn86 ne87 nx88 nr89 => ?_
  refine AWp.loopF (fun n90 fr h => ∃ (i91 : Nat) (j92 : Int) (g5_93 : Nat) (g8_93 : Nat), hset [[]] 0 [AV.slice .frz (List.map (fun n => AV.sc (Value.int .i64 n)) d71.l), AV.sc (.int .i64 d71.atF)] = h ∧ (fr.env 5 = AV.lptr 5 g5_93 0 ∧ fr.env 8 = AV.lptr 8 g8_93 0 ∧ fr.env 64 = AV.slice .full (List.map Fm.av L74) ∧ fr.env 65 = AV.sc (.int .i64 (llen L74)) ∧ fr.env 66 = AV.sc (.int .i64 j92) ∧ fr.gen 5 = g5_93 ∧ fr.box 5 = some [AV.slice .frz (List.map Ty.av a2.types), AV.slice .frz (List.map Fm.av a2.hyps)] ∧ fr.gen 8 = g8_93 ∧ fr.box 8 = some [AV.slice .frz (List.map Ty.av x62.types), AV.slice .frz (List.map Fm.av x62.hyps)]) ∧ j92 = (i91 : Int) ∧ i91 + n90 = List.length L74 ∧ forR F79 (List.drop i91 L74) i91 () = some out82) (List.length L74) ?_ ?_
  · refine ⟨0, 0, g5_41, (fr41.gen 8 + 1), ?_, ⟨?_, ?_, ?_, ?_, ?_, ?_, ?_, ?_, ?_⟩, rfl, (by simp), hl83⟩ <;> first | rfl | (rw [hL75]; rfl) | simp [E41, hT, hL75, llen, hc47, hL75]
  rintro n90 fr93 h93 ⟨i91, j92, g5_93, g8_93, rfl, E93, hj94, hi95, hl83⟩ K96 hK97
  rcases n90 with _ | n90
  rotate_left
  · have hlt98 := ilt_ofJ (l := L74) hj94 (by omega)
    obtain ⟨x99, hdn90, hg100⟩ := drop_ltJ (l := L74) hj94 (by omega)
    rw [hdn90, forR_cons] at hl83
    obtain ⟨c101, hb102, hk103⟩ := bind1_some hl83
    clear hl83
    rw [hF80, ← hj94] at hb102
    try dsimp only at hb102
    refine AWp.sr [] fun K104 hk105 => ?_
    simp [E93, hT, hlt98, hg100, hc47]
    apply hk105
    refine AWp.seqK fun K106 hk107 => ?_
    refine AWp.condK fun A108 B109 ga110 gb111 => ?_
    simp [E93, hT, hlt98, hg100, hc47]
    apply ga110
    refine AWp.skip ?_
    apply hk107
    refine AWp.seqK fun K112 hk113 => ?_
    refine AWp.blockK fun Q114 nn115 ne116 nx117 nr118 => ?_
    refine AWp.sr [] fun K119 hk120 => ?_
    simp [E93, hT, hlt98, hg100, hc47]
    apply hk120
    refine AWp.sr [] fun K121 hk122 => ?_
    obtain ⟨x123, x124, hx125, hm126⟩ := bind2_some hb102
    clear hb102
    try dsimp only at hm126
    simp [E93, hT, hlt98, hg100, hc47]
    refine CallAt.fn (r_content_Type T hT hx125) ?_
    simp [E93, hT, hlt98, hg100, hc47]
    apply hk122
    refine AWp.sr [] fun K127 hk128 => ?_
    obtain ⟨x129, x130, hx131, hm132⟩ := bind2_some hm126
    clear hm126
    try dsimp only at hm132
    simp [E93, hT, hlt98, hg100, hc47]
    refine CallAt.fn (r_ref23_Type T hx131) ?_
    simp [E93, hT, hlt98, hg100, hc47]
    apply hk128
    obtain ⟨j133, hj134, hm135⟩ := joinB_some hm132
    clear hm132
    refine AWp.seqP (fun fr h => ∃ (v136 : Bool) (g5_145 : Nat) (g8_145 : Nat), hset [[]] 0 [AV.slice .frz (List.map (fun n => AV.sc (Value.int .i64 n)) d71.l), AV.sc (.int .i64 d71.atF)] = h ∧ (fr.env 5 = AV.lptr 5 g5_145 0 ∧ fr.env 8 = AV.lptr 8 g8_145 0 ∧ fr.env 64 = AV.slice .full (List.map Fm.av L74) ∧ fr.env 65 = AV.sc (.int .i64 (llen L74)) ∧ fr.env 66 = AV.sc (.int .i64 j92) ∧ fr.env 88 = AV.sc (.bool v136) ∧ fr.gen 5 = g5_145 ∧ fr.box 5 = some [AV.slice .frz (List.map Ty.av a2.types), AV.slice .frz (List.map Fm.av a2.hyps)] ∧ fr.gen 8 = g8_145 ∧ fr.box 8 = some [AV.slice .frz (List.map Ty.av x62.types), AV.slice .frz (List.map Fm.av x62.hyps)]) ∧ j133 v136 = some c101) (fun K137 hk138 => ?_) ?_
    · refine AWp.region [] (by decide +kernel) ?_
      rcases ite_some hm135 with ⟨hc139, hm140⟩ | ⟨hc139, hm141⟩
      · clear hm135
        simp [E93, hT, hlt98, hg100, hc47, hc139]
        refine hk138 _ _ ⟨true, g5_93, g8_93, ?_, ⟨?_, ?_, ?_, ?_, ?_, ?_, ?_, ?_, ?_, ?_⟩, hm140⟩ <;> first | rfl | simp [E93, hT, hlt98, hg100, hc47, hc139]
      clear hm135
      obtain ⟨x142, hx143, hm144⟩ := bind1_some hm141
      clear hm141
      try dsimp only at hm144
      simp [E93, hT, hlt98, hg100, hc47, hc139]
      refine CallAt.fn (r_ref01_Same T hx143) ?_
      simp [E93, hT, hlt98, hg100, hc47, hc139]
      refine hk138 _ _ ⟨(bnot x142), g5_93, g8_93, ?_, ⟨?_, ?_, ?_, ?_, ?_, ?_, ?_, ?_, ?_, ?_⟩, hm144⟩ <;> first | rfl | simp [E93, hT, hlt98, hg100, hc47, hc139]
    clear hm135
    rintro fr145 h145 ⟨v136, g5_145, g8_145, rfl, E145, hm146⟩
    subst hj134
    refine AWp.condK fun A147 B148 ga149 gb150 => ?_
    rcases ite_some hm146 with ⟨hc151, hm152⟩ | ⟨hc151, hm153⟩
    · clear hm146
      simp [E145, hT, hlt98, hg100, hc47, hc151]
      apply ga149
      refine AWp.sr [] fun K154 hk155 => ?_
      simp [E145, hT, hlt98, hg100, hc47, hc151]
      apply hk155
      refine AWp.ret ?_
      apply nr118
      apply nr89
      obtain rfl := Option.some.inj hm152
      rw [ctlK_ret] at hk103
      obtain rfl := Option.some.inj hk103
      rw [sumK_inr] at hmB84
      try dsimp only at hmB84
      obtain rfl := Option.some.inj hmB84
      simp [retQ, E145, hT, hlt98, hg100, hc47, hc151]
    clear hm146
    simp [E145, hT, hlt98, hg100, hc47, hc151]
    apply gb150
    refine AWp.skip ?_
    apply nn115
    apply hk113
    refine AWp.region [] (by decide +kernel) ?_
    simp [E145, hT, hlt98, hg100, hc47, hc151]
    obtain rfl := Option.some.inj hm153
    rw [ctlK_next] at hk103
    refine hK97 _ _ n90 (Nat.lt_succ_self _) ⟨(i91 + 1), (iadd .i64 j92 1), g5_145, g8_145, ?_, ⟨?_, ?_, ?_, ?_, ?_, ?_, ?_, ?_, ?_⟩, (iadd_idxJ hj94 (by omega) hok77), (by omega), hk103⟩ <;> first | rfl | simp [E145, hT, hlt98, hg100, hc47, hc151]
  have hlt98 := ilt_notJ (l := L74) hj94 (by omega)
  refine AWp.sr [] fun K156 hk157 => ?_
  simp [E93, hT, hlt98, hc47]
  apply hk157
  refine AWp.seqK fun K158 hk159 => ?_
  refine AWp.condK fun A160 B161 ga162 gb163 => ?_
  simp [E93, hT, hlt98, hc47]
  apply gb163
  refine AWp.exit ?_
  apply ne87
  rw [List.drop_eq_nil_of_le (by omega), forR_nil] at hl83
  obtain rfl := Option.some.inj hl83
  rw [sumK_inl] at hmB84
  try dsimp only at hmB84
  apply hk67
  refine AWp.seqK fun K164 hk165 => ?_
  refine AWp.sr [] fun K166 hk167 => ?_
  simp [E93, hT, hlt98, hc47]
  apply hk167
  obtain ⟨L168, hL169, hm170⟩ := joinB_some hmB84
  clear hmB84
  try dsimp only at hm170
  obtain ⟨hok171, hm172⟩ := chk_some hm170
  clear hm170
  obtain ⟨F173, hF174, hm175⟩ := joinB_some hm172
  clear hm172
  try dsimp only at hm175
  obtain ⟨out176, hl177, hmB178⟩ := bind1_some hm175
  clear hm175
  refine AWp.blockK fun Q179 nn180 ne181 nx182 nr183 => ?_
  refine AWp.loopF (fun n184 fr h => ∃ (i185 : Nat) (j186 : Int), hset [[]] 0 [AV.slice .frz (List.map (fun n => AV.sc (Value.int .i64 n)) d71.l), AV.sc (.int .i64 d71.atF)] = h ∧ (fr.env 92 = AV.slice .full (List.map Sq.av L168) ∧ fr.env 93 = AV.sc (.int .i64 (llen L168)) ∧ fr.env 94 = AV.sc (.int .i64 j186)) ∧ j186 = (i185 : Int) ∧ i185 + n184 = List.length L168 ∧ forR F173 (List.drop i185 L168) i185 () = some out176) (List.length L168) ?_ ?_
  · refine ⟨0, 0, ?_, ⟨?_, ?_, ?_⟩, rfl, (by simp), hl177⟩ <;> first | rfl | (rw [hL169]; rfl) | simp [E93, hT, hlt98, hL169, llen, hc47, hL169]
  rintro n184 fr187 h187 ⟨i185, j186, rfl, E187, hj188, hi189, hl177⟩ K190 hK191
  rcases n184 with _ | n184
  · have hlt192 := ilt_notJ (l := L168) hj188 (by omega)
    refine AWp.sr [] fun K193 hk194 => ?_
    simp [E187, hT, hlt98, hlt192, hc47]
    apply hk194
    refine AWp.seqK fun K195 hk196 => ?_
    refine AWp.condK fun A197 B198 ga199 gb200 => ?_
    simp [E187, hT, hlt98, hlt192, hc47]
    apply gb200
    refine AWp.exit ?_
    apply ne181
    rw [List.drop_eq_nil_of_le (by omega), forR_nil] at hl177
    obtain rfl := Option.some.inj hl177
    rw [sumK_inl] at hmB178
    try dsimp only at hmB178
    apply hk165
    refine AWp.sr [] fun K201 hk202 => ?_
    simp [E187, hT, hlt98, hlt192, hc47]
    apply hk202
    refine AWp.ret ?_
    obtain rfl := Option.some.inj hmB178
    simp [retQ, E187, hT, hlt98, hlt192, hc47]
  have hlt192 := ilt_ofJ (l := L168) hj188 (by omega)
  obtain ⟨x203, hdn184, hg204⟩ := drop_ltJ (l := L168) hj188 (by omega)
  rw [hdn184, forR_cons] at hl177
  obtain ⟨c205, hb206, hk207⟩ := bind1_some hl177
  clear hl177
  rw [hF174, ← hj188] at hb206
  try dsimp only at hb206
  refine AWp.sr [] fun K208 hk209 => ?_
  simp [E187, hT, hlt98, hlt192, hg204, hc47]
  apply hk209
  refine AWp.seqK fun K210 hk211 => ?_
  refine AWp.condK fun A212 B213 ga214 gb215 => ?_
  simp [E187, hT, hlt98, hlt192, hg204, hc47]
  apply ga214
  refine AWp.skip ?_
  apply hk211
  refine AWp.seqK fun K216 hk217 => ?_
  refine AWp.blockK fun Q218 nn219 ne220 nx221 nr222 => ?_
  refine AWp.sr [] fun K223 hk224 => ?_
  simp [E187, hT, hlt98, hlt192, hg204, hc47]
  apply hk224
  refine AWp.sr [] fun K225 hk226 => ?_
  obtain ⟨x227, x228, hx229, hm230⟩ := bind2_some hb206
  clear hb206
  try dsimp only at hm230
  simp [E187, hT, hlt98, hlt192, hg204, hc47]
  refine CallAt.fn (r_content_Context T hT hx229) ?_
  simp [E187, hT, hlt98, hlt192, hg204, hc47]
  apply hk226
  refine AWp.sr [] fun K231 hk232 => ?_
  obtain ⟨x233, x234, hx235, hm236⟩ := bind2_some hm230
  clear hm230
  try dsimp only at hm236
  simp [E187, hT, hlt98, hlt192, hg204, hc47]
  refine CallAt.fn (r_ref23_Context T hx235) ?_
  simp [E187, hT, hlt98, hlt192, hg204, hc47]
  apply hk232
  refine AWp.sr [] fun K237 hk238 => ?_
  obtain ⟨x239, x240, hx241, hm242⟩ := bind2_some hm236
  clear hm236
  try dsimp only at hm242
  simp [E187, hT, hlt98, hlt192, hg204, hc47]
  refine CallAt.fn (r_content_Places T hT hx241) ?_
  simp [E187, hT, hlt98, hlt192, hg204, hc47]
  apply hk238
  refine AWp.sr [] fun K243 hk244 => ?_
  obtain ⟨x245, x246, hx247, hm248⟩ := bind2_some hm242
  clear hm242
  try dsimp only at hm248
  simp [E187, hT, hlt98, hlt192, hg204, hc47]
  refine CallAt.fn (r_ref23_Places T hx247) ?_
  simp [E187, hT, hlt98, hlt192, hg204, hc47]
  apply hk244
  obtain ⟨j249, hj250, hm251⟩ := joinB_some hm248
  clear hm248
  refine AWp.seqP (fun fr h => ∃ (v252 : Bool), hset [[]] 0 [AV.slice .frz (List.map (fun n => AV.sc (Value.int .i64 n)) d71.l), AV.sc (.int .i64 d71.atF)] = h ∧ (fr.env 92 = AV.slice .full (List.map Sq.av L168) ∧ fr.env 93 = AV.sc (.int .i64 (llen L168)) ∧ fr.env 94 = AV.sc (.int .i64 j186) ∧ fr.env 137 = AV.sc (.bool v252)) ∧ j249 v252 = some c205) (fun K253 hk254 => ?_) ?_
  rotate_left
  · clear hm251
    rintro fr255 h255 ⟨v252, rfl, E255, hm256⟩
    subst hj250
    refine AWp.condK fun A257 B258 ga259 gb260 => ?_
    rcases ite_some hm256 with ⟨hc261, hm262⟩ | ⟨hc261, hm263⟩
    · clear hm256
      simp [E255, hT, hlt98, hlt192, hg204, hc47, hc261]
      apply ga259
      refine AWp.sr [] fun K264 hk265 => ?_
      simp [E255, hT, hlt98, hlt192, hg204, hc47, hc261]
      apply hk265
      refine AWp.ret ?_
      apply nr222
      apply nr183
      obtain rfl := Option.some.inj hm262
      rw [ctlK_ret] at hk207
      obtain rfl := Option.some.inj hk207
      rw [sumK_inr] at hmB178
      try dsimp only at hmB178
      obtain rfl := Option.some.inj hmB178
      simp [retQ, E255, hT, hlt98, hlt192, hg204, hc47, hc261]
    clear hm256
    simp [E255, hT, hlt98, hlt192, hg204, hc47, hc261]
    apply gb260
    refine AWp.skip ?_
    apply nn219
    apply hk217
    refine AWp.region [] (by decide +kernel) ?_
    simp [E255, hT, hlt98, hlt192, hg204, hc47, hc261]
    obtain rfl := Option.some.inj hm263
    rw [ctlK_next] at hk207
    refine hK191 _ _ n184 (Nat.lt_succ_self _) ⟨(i185 + 1), (iadd .i64 j186 1), ?_, ⟨?_, ?_, ?_⟩, (iadd_idxJ hj188 (by omega) hok171), (by omega), hk207⟩ <;> first | rfl | simp [E255, hT, hlt98, hlt192, hg204, hc47, hc261]
  refine AWp.region [] (by decide +kernel) ?_
  rcases ite_some hm251 with ⟨hc266, hm267⟩ | ⟨hc266, hm268⟩
  · clear hm251
    simp [E187, hT, hlt98, hlt192, hg204, hc47, hc266]
    refine hk254 _ _ ⟨true, ?_, ⟨?_, ?_, ?_, ?_⟩, hm267⟩ <;> first | rfl | simp [E187, hT, hlt98, hlt192, hg204, hc47, hc266]
  clear hm251
  rcases ite_some hm268 with ⟨hc269, hm270⟩ | ⟨hc269, hm271⟩
  · clear hm268
    simp [E187, hT, hlt98, hlt192, hg204, hc47, hc266, hc269]
    refine hk254 _ _ ⟨true, ?_, ⟨?_, ?_, ?_, ?_⟩, hm270⟩ <;> first | rfl | simp [E187, hT, hlt98, hlt192, hg204, hc47, hc266, hc269]
  clear hm268
  obtain ⟨x272, hx273, hm274⟩ := bind1_some hm271
  clear hm271
  try dsimp only at hm274
  simp [E187, hT, hlt98, hlt192, hg204, hc47, hc266, hc269]
  refine CallAt.fn (r_ref01_SameAll T hx273) ?_
  rcases ite_some hm274 with ⟨hc275, hm276⟩ | ⟨hc275, hm277⟩
  rotate_left
  · clear hm274
    simp [E187, hT, hlt98, hlt192, hg204, hc47, hc266, hc269, hc275]
    refine hk254 _ _ ⟨true, ?_, ⟨?_, ?_, ?_, ?_⟩, hm277⟩ <;> first | rfl | simp [E187, hT, hlt98, hlt192, hg204, hc47, hc266, hc269, hc275]
  clear hm274
  obtain ⟨x278, hx279, hm280⟩ := bind1_some hm276
  clear hm276
  try dsimp only at hm280
  simp [E187, hT, hlt98, hlt192, hg204, hc47, hc266, hc269, hc275]
  refine CallAt.fn (r_ref05_Ints T hx279) ?_
  simp [E187, hT, hlt98, hlt192, hg204, hc47, hc266, hc269, hc275]
  refine hk254 _ _ ⟨(bnot x278), ?_, ⟨?_, ?_, ?_, ?_⟩, hm280⟩ <;> first | rfl | simp [E187, hT, hlt98, hlt192, hg204, hc47, hc266, hc269, hc275]

theorem enters51 : entersB Tryd.prog 51 = true := by kernel_rfl

theorem r_ref23_Nat (T : Tabs) {H : Heap}  {r0 : Ty} (hm : ref23_Nat = some r0) : ACall Tryd.prog T 51 [] H (Ty.av r0) H := by
  rw [ref23_Nat] at hm
  refine ACallP.intro (fn := Tryd.f51) Tryd.func51 rfl enters51 (Nat.le_of_ble_eq_true rfl) ?_
  refine AWp.sr [] fun K1 hk2 => ?_
  simp
  apply hk2
  refine AWp.sr [] fun K3 hk4 => ?_
  simp
  apply hk4
  refine AWp.ret ?_
  obtain rfl := Option.some.inj hm
  simp [retQ]

theorem enters26 : entersB Tryd.prog 26 = true := by kernel_rfl

theorem r_play_Nat (T : Tabs) {H : Heap}  {r0 : Ty} (hm : play_Nat = some r0) : ACall Tryd.prog T 26 [] H (Ty.av r0) H := by
  rw [play_Nat] at hm
  refine ACallP.intro (fn := Tryd.f26) Tryd.func26 rfl enters26 (Nat.le_of_ble_eq_true rfl) ?_
  refine AWp.sr [] fun K1 hk2 => ?_
  simp
  apply hk2
  refine AWp.sr [] fun K3 hk4 => ?_
  obtain ⟨x5, hx6, hm7⟩ := bind1_some hm
  clear hm
  try dsimp only at hm7
  simp
  refine CallAt.fn (r_ref23_Nat T hx6) ?_
  simp
  apply hk4
  refine AWp.ret ?_
  obtain rfl := Option.some.inj hm7
  simp [retQ]

theorem enters57 : entersB Tryd.prog 57 = true := by kernel_rfl

theorem rg_ref03_Least (T : Tabs) : ∀ (n : Nat), (∀ {H : Heap} {a0 : Tm} {a1 : Int} {r0 : Bool} (hm : ref03_Least n a0 a1 = some r0), ACall Tryd.prog T 57 [Tm.av a0, AV.sc (.int .i64 a1)] H (AV.sc (.bool r0)) H) := by
  intro n
  induction n with
  | zero =>
    skip
    all_goals
      intros
      rename_i hm
      cases hm
  | succ n ih =>
    intro H a0 a1 r0 hm
    rw [ref03_Least] at hm
    refine ACallP.intro (fn := Tryd.f57) Tryd.func57 rfl enters57 (Nat.le_of_ble_eq_true rfl) ?_
    refine AWp.sr [] fun K1 hk2 => ?_
    simp
    apply hk2
    refine AWp.seqK fun K3 hk4 => ?_
    refine AWp.sr [] fun K5 hk6 => ?_
    simp
    apply hk6
    refine AWp.condK fun A7 B8 ga9 gb10 => ?_
    rcases ite_some hm with ⟨hc11, hm12⟩ | ⟨hc11, hm13⟩
    · clear hm
      simp [hc11]
      apply ga9
      refine AWp.sr [] fun K14 hk15 => ?_
      simp [hc11]
      apply hk15
      refine AWp.ret ?_
      obtain rfl := Option.some.inj hm12
      simp [retQ, hc11]
    clear hm
    simp [hc11]
    apply gb10
    refine AWp.skip ?_
    apply hk4
    refine AWp.seqK fun K16 hk17 => ?_
    refine AWp.sr [] fun K18 hk19 => ?_
    simp [hc11]
    apply hk19
    obtain ⟨hok20, hm21⟩ := chk_some hm13
    clear hm13
    obtain ⟨F22, hF23, hm24⟩ := joinB_some hm21
    clear hm21
    try dsimp only at hm24
    obtain ⟨out25, hl26, hmB27⟩ := bind1_some hm24
    clear hm24
    refine AWp.blockK fun Q28 nn29 ne30 nx31 nr32 => ?_
    refine AWp.loopF (fun n33 fr h => ∃ (i34 : Nat) (j35 : Int), H = h ∧ (fr.env 1 = AV.sc (.int .i64 a1) ∧ fr.env 12 = AV.slice .frz (List.map Tm.av a0.args) ∧ fr.env 13 = AV.sc (.int .i64 (llen a0.args)) ∧ fr.env 14 = AV.sc (.int .i64 j35)) ∧ j35 = (i34 : Int) ∧ i34 + n33 = List.length a0.args ∧ forR F22 (List.drop i34 a0.args) i34 () = some out25) (List.length a0.args) ?_ ?_
    · refine ⟨0, 0, ?_, ⟨?_, ?_, ?_, ?_⟩, rfl, (by simp), hl26⟩ <;> first | rfl | simp [hc11]
    rintro n33 fr36 h36 ⟨i34, j35, rfl, E36, hj37, hi38, hl26⟩ K39 hK40
    rcases n33 with _ | n33
    · have hlt41 := ilt_notJ (l := a0.args) hj37 (by omega)
      refine AWp.sr [] fun K42 hk43 => ?_
      simp [E36, hlt41, hc11]
      apply hk43
      refine AWp.seqK fun K44 hk45 => ?_
      refine AWp.condK fun A46 B47 ga48 gb49 => ?_
      simp [E36, hlt41, hc11]
      apply gb49
      refine AWp.exit ?_
      apply ne30
      rw [List.drop_eq_nil_of_le (by omega), forR_nil] at hl26
      obtain rfl := Option.some.inj hl26
      rw [sumK_inl] at hmB27
      try dsimp only at hmB27
      apply hk17
      refine AWp.sr [] fun K50 hk51 => ?_
      simp [E36, hlt41, hc11]
      apply hk51
      refine AWp.ret ?_
      obtain rfl := Option.some.inj hmB27
      simp [retQ, E36, hlt41, hc11]
    have hlt41 := ilt_ofJ (l := a0.args) hj37 (by omega)
    obtain ⟨x52, hdn33, hg53⟩ := drop_ltJ (l := a0.args) hj37 (by omega)
    rw [hdn33, forR_cons] at hl26
    obtain ⟨c54, hb55, hk56⟩ := bind1_some hl26
    clear hl26
    rw [hF23, ← hj37] at hb55
    try dsimp only at hb55
    refine AWp.sr [] fun K57 hk58 => ?_
    simp [E36, hlt41, hg53, hc11]
    apply hk58
    refine AWp.seqK fun K59 hk60 => ?_
    refine AWp.condK fun A61 B62 ga63 gb64 => ?_
    simp [E36, hlt41, hg53, hc11]
    apply ga63
    refine AWp.skip ?_
    apply hk60
    refine AWp.seqK fun K65 hk66 => ?_
    refine AWp.blockK fun Q67 nn68 ne69 nx70 nr71 => ?_
    refine AWp.sr [] fun K72 hk73 => ?_
    simp [E36, hlt41, hg53, hc11]
    apply hk73
    refine AWp.sr [] fun K74 hk75 => ?_
    obtain ⟨x76, hx77, hm78⟩ := bind1_some hb55
    clear hb55
    try dsimp only at hm78
    simp [E36, hlt41, hg53, hc11]
    refine CallAt.fn (ih hx77) ?_
    simp [E36, hlt41, hg53, hc11]
    apply hk75
    refine AWp.condK fun A79 B80 ga81 gb82 => ?_
    rcases ite_some hm78 with ⟨hc83, hm84⟩ | ⟨hc83, hm85⟩
    rotate_left
    · clear hm78
      simp [E36, hlt41, hg53, hc11, hc83]
      apply ga81
      refine AWp.sr [] fun K86 hk87 => ?_
      simp [E36, hlt41, hg53, hc11, hc83]
      apply hk87
      refine AWp.ret ?_
      apply nr71
      apply nr32
      obtain rfl := Option.some.inj hm85
      rw [ctlK_ret] at hk56
      obtain rfl := Option.some.inj hk56
      rw [sumK_inr] at hmB27
      try dsimp only at hmB27
      obtain rfl := Option.some.inj hmB27
      simp [retQ, E36, hlt41, hg53, hc11, hc83]
    clear hm78
    simp [E36, hlt41, hg53, hc11, hc83]
    apply gb82
    refine AWp.skip ?_
    apply nn68
    apply hk66
    refine AWp.region [] (by decide +kernel) ?_
    simp [E36, hlt41, hg53, hc11, hc83]
    obtain rfl := Option.some.inj hm84
    rw [ctlK_next] at hk56
    refine hK40 _ _ n33 (Nat.lt_succ_self _) ⟨(i34 + 1), (iadd .i64 j35 1), ?_, ⟨?_, ?_, ?_, ?_⟩, (iadd_idxJ hj37 (by omega) hok20), (by omega), hk56⟩ <;> first | rfl | simp [E36, hlt41, hg53, hc11, hc83]
theorem r_ref03_Least (T : Tabs) {H : Heap} {a0 : Tm} {a1 : Int} {r0 : Bool} {n : Nat} (hm : ref03_Least n a0 a1 = some r0) : ACall Tryd.prog T 57 [Tm.av a0, AV.sc (.int .i64 a1)] H (AV.sc (.bool r0)) H := (rg_ref03_Least T n) hm

theorem enters52 : entersB Tryd.prog 52 = true := by kernel_rfl

theorem rg_ref07_Least (T : Tabs) : ∀ (n : Nat), (∀ {H : Heap} {a0 : Fm} {a1 : Int} {r0 : Bool} (hm : ref07_Least n a0 a1 = some r0), ACall Tryd.prog T 52 [Fm.av a0, AV.sc (.int .i64 a1)] H (AV.sc (.bool r0)) H) := by
  intro n
  induction n with
  | zero =>
    skip
    all_goals
      intros
      rename_i hm
      cases hm
  | succ n ih =>
    intro H a0 a1 r0 hm
    rw [ref07_Least] at hm
    refine ACallP.intro (fn := Tryd.f52) Tryd.func52 rfl enters52 (Nat.le_of_ble_eq_true rfl) ?_
    refine AWp.sr [] fun K1 hk2 => ?_
    simp
    apply hk2
    refine AWp.seqK fun K3 hk4 => ?_
    refine AWp.sr [] fun K5 hk6 => ?_
    simp
    apply hk6
    obtain ⟨hok7, hm8⟩ := chk_some hm
    clear hm
    obtain ⟨F9, hF10, hm11⟩ := joinB_some hm8
    clear hm8
    try dsimp only at hm11
    obtain ⟨out12, hl13, hmB14⟩ := bind1_some hm11
    clear hm11
    refine AWp.blockK fun Q15 nn16 ne17 nx18 nr19 => ?_
    refine AWp.loopF (fun n20 fr h => ∃ (i21 : Nat) (j22 : Int) (g2_23 : Nat), H = h ∧ (fr.env 1 = AV.sc (.int .i64 a1) ∧ fr.env 2 = AV.lptr 2 g2_23 0 ∧ fr.env 10 = AV.slice .frz (List.map Tm.av a0.terms) ∧ fr.env 11 = AV.sc (.int .i64 (llen a0.terms)) ∧ fr.env 12 = AV.sc (.int .i64 j22) ∧ fr.gen 2 = g2_23 ∧ fr.box 2 = some [AV.sc (.int .i64 a0.kind), AV.sc (.int .i64 a0.typeF.kind), AV.slice .frz (List.map Ty.av a0.typeF.args), AV.slice .frz (List.map Tm.av a0.terms), AV.slice .frz (List.map Fm.av a0.args)]) ∧ j22 = (i21 : Int) ∧ i21 + n20 = List.length a0.terms ∧ forR F9 (List.drop i21 a0.terms) i21 () = some out12) (List.length a0.terms) ?_ ?_
    · refine ⟨0, 0, 1, ?_, ⟨?_, ?_, ?_, ?_, ?_, ?_, ?_⟩, rfl, (by simp), hl13⟩ <;> first | rfl | simp
    rintro n20 fr23 h23 ⟨i21, j22, g2_23, rfl, E23, hj24, hi25, hl13⟩ K26 hK27
    rcases n20 with _ | n20
    rotate_left
    · have hlt28 := ilt_ofJ (l := a0.terms) hj24 (by omega)
      obtain ⟨x29, hdn20, hg30⟩ := drop_ltJ (l := a0.terms) hj24 (by omega)
      rw [hdn20, forR_cons] at hl13
      obtain ⟨c31, hb32, hk33⟩ := bind1_some hl13
      clear hl13
      rw [hF10, ← hj24] at hb32
      try dsimp only at hb32
      refine AWp.sr [] fun K34 hk35 => ?_
      simp [E23, hlt28, hg30]
      apply hk35
      refine AWp.seqK fun K36 hk37 => ?_
      refine AWp.condK fun A38 B39 ga40 gb41 => ?_
      simp [E23, hlt28, hg30]
      apply ga40
      refine AWp.skip ?_
      apply hk37
      refine AWp.seqK fun K42 hk43 => ?_
      refine AWp.blockK fun Q44 nn45 ne46 nx47 nr48 => ?_
      refine AWp.sr [] fun K49 hk50 => ?_
      simp [E23, hlt28, hg30]
      apply hk50
      refine AWp.sr [] fun K51 hk52 => ?_
      obtain ⟨x53, hx54, hm55⟩ := bind1_some hb32
      clear hb32
      try dsimp only at hm55
      simp [E23, hlt28, hg30]
      refine CallAt.fn (r_ref03_Least T hx54) ?_
      simp [E23, hlt28, hg30]
      apply hk52
      refine AWp.condK fun A56 B57 ga58 gb59 => ?_
      rcases ite_some hm55 with ⟨hc60, hm61⟩ | ⟨hc60, hm62⟩
      rotate_left
      · clear hm55
        simp [E23, hlt28, hg30, hc60]
        apply ga58
        refine AWp.sr [] fun K63 hk64 => ?_
        simp [E23, hlt28, hg30, hc60]
        apply hk64
        refine AWp.ret ?_
        apply nr48
        apply nr19
        obtain rfl := Option.some.inj hm62
        rw [ctlK_ret] at hk33
        obtain rfl := Option.some.inj hk33
        rw [sumK_inr] at hmB14
        try dsimp only at hmB14
        obtain rfl := Option.some.inj hmB14
        simp [retQ, E23, hlt28, hg30, hc60]
      clear hm55
      simp [E23, hlt28, hg30, hc60]
      apply gb59
      refine AWp.skip ?_
      apply nn45
      apply hk43
      refine AWp.region [] (by decide +kernel) ?_
      simp [E23, hlt28, hg30, hc60]
      obtain rfl := Option.some.inj hm61
      rw [ctlK_next] at hk33
      refine hK27 _ _ n20 (Nat.lt_succ_self _) ⟨(i21 + 1), (iadd .i64 j22 1), g2_23, ?_, ⟨?_, ?_, ?_, ?_, ?_, ?_, ?_⟩, (iadd_idxJ hj24 (by omega) hok7), (by omega), hk33⟩ <;> first | rfl | simp [E23, hlt28, hg30, hc60]
    have hlt28 := ilt_notJ (l := a0.terms) hj24 (by omega)
    refine AWp.sr [] fun K65 hk66 => ?_
    simp [E23, hlt28]
    apply hk66
    refine AWp.seqK fun K67 hk68 => ?_
    refine AWp.condK fun A69 B70 ga71 gb72 => ?_
    simp [E23, hlt28]
    apply gb72
    refine AWp.exit ?_
    apply ne17
    rw [List.drop_eq_nil_of_le (by omega), forR_nil] at hl13
    obtain rfl := Option.some.inj hl13
    rw [sumK_inl] at hmB14
    try dsimp only at hmB14
    apply hk4
    refine AWp.seqK fun K73 hk74 => ?_
    refine AWp.sr [] fun K75 hk76 => ?_
    simp [E23, hlt28]
    apply hk76
    obtain ⟨hok77, hm78⟩ := chk_some hmB14
    clear hmB14
    obtain ⟨F79, hF80, hm81⟩ := joinB_some hm78
    clear hm78
    try dsimp only at hm81
    obtain ⟨out82, hl83, hmB84⟩ := bind1_some hm81
    clear hm81
    refine AWp.blockK fun Q85 nn86 ne87 nx88 nr89 => ?_
    refine AWp.loopF (fun n90 fr h => ∃ (i91 : Nat) (j92 : Int), H = h ∧ (fr.env 1 = AV.sc (.int .i64 a1) ∧ fr.env 22 = AV.slice .frz (List.map Fm.av a0.args) ∧ fr.env 23 = AV.sc (.int .i64 (llen a0.args)) ∧ fr.env 24 = AV.sc (.int .i64 j92)) ∧ j92 = (i91 : Int) ∧ i91 + n90 = List.length a0.args ∧ forR F79 (List.drop i91 a0.args) i91 () = some out82) (List.length a0.args) ?_ ?_
    · refine ⟨0, 0, ?_, ⟨?_, ?_, ?_, ?_⟩, rfl, (by simp), hl83⟩ <;> first | rfl | simp [E23, hlt28]
    rintro n90 fr93 h93 ⟨i91, j92, rfl, E93, hj94, hi95, hl83⟩ K96 hK97
    rcases n90 with _ | n90
    · have hlt98 := ilt_notJ (l := a0.args) hj94 (by omega)
      refine AWp.sr [] fun K99 hk100 => ?_
      simp [E93, hlt28, hlt98]
      apply hk100
      refine AWp.seqK fun K101 hk102 => ?_
      refine AWp.condK fun A103 B104 ga105 gb106 => ?_
      simp [E93, hlt28, hlt98]
      apply gb106
      refine AWp.exit ?_
      apply ne87
      rw [List.drop_eq_nil_of_le (by omega), forR_nil] at hl83
      obtain rfl := Option.some.inj hl83
      rw [sumK_inl] at hmB84
      try dsimp only at hmB84
      apply hk74
      refine AWp.sr [] fun K107 hk108 => ?_
      simp [E93, hlt28, hlt98]
      apply hk108
      refine AWp.ret ?_
      obtain rfl := Option.some.inj hmB84
      simp [retQ, E93, hlt28, hlt98]
    have hlt98 := ilt_ofJ (l := a0.args) hj94 (by omega)
    obtain ⟨x109, hdn90, hg110⟩ := drop_ltJ (l := a0.args) hj94 (by omega)
    rw [hdn90, forR_cons] at hl83
    obtain ⟨c111, hb112, hk113⟩ := bind1_some hl83
    clear hl83
    rw [hF80, ← hj94] at hb112
    try dsimp only at hb112
    refine AWp.sr [] fun K114 hk115 => ?_
    simp [E93, hlt28, hlt98, hg110]
    apply hk115
    refine AWp.seqK fun K116 hk117 => ?_
    refine AWp.condK fun A118 B119 ga120 gb121 => ?_
    simp [E93, hlt28, hlt98, hg110]
    apply ga120
    refine AWp.skip ?_
    apply hk117
    refine AWp.seqK fun K122 hk123 => ?_
    refine AWp.blockK fun Q124 nn125 ne126 nx127 nr128 => ?_
    refine AWp.sr [] fun K129 hk130 => ?_
    simp [E93, hlt28, hlt98, hg110]
    apply hk130
    refine AWp.sr [] fun K131 hk132 => ?_
    obtain ⟨x133, hx134, hm135⟩ := bind1_some hb112
    clear hb112
    try dsimp only at hm135
    simp [E93, hlt28, hlt98, hg110]
    refine CallAt.fn (ih hx134) ?_
    simp [E93, hlt28, hlt98, hg110]
    apply hk132
    refine AWp.condK fun A136 B137 ga138 gb139 => ?_
    rcases ite_some hm135 with ⟨hc140, hm141⟩ | ⟨hc140, hm142⟩
    rotate_left
    · clear hm135
      simp [E93, hlt28, hlt98, hg110, hc140]
      apply ga138
      refine AWp.sr [] fun K143 hk144 => ?_
      simp [E93, hlt28, hlt98, hg110, hc140]
      apply hk144
      refine AWp.ret ?_
      apply nr128
      apply nr89
      obtain rfl := Option.some.inj hm142
      rw [ctlK_ret] at hk113
      obtain rfl := Option.some.inj hk113
      rw [sumK_inr] at hmB84
      try dsimp only at hmB84
      obtain rfl := Option.some.inj hmB84
      simp [retQ, E93, hlt28, hlt98, hg110, hc140]
    clear hm135
    simp [E93, hlt28, hlt98, hg110, hc140]
    apply gb139
    refine AWp.skip ?_
    apply nn125
    apply hk123
    refine AWp.region [] (by decide +kernel) ?_
    simp [E93, hlt28, hlt98, hg110, hc140]
    obtain rfl := Option.some.inj hm141
    rw [ctlK_next] at hk113
    refine hK97 _ _ n90 (Nat.lt_succ_self _) ⟨(i91 + 1), (iadd .i64 j92 1), ?_, ⟨?_, ?_, ?_, ?_⟩, (iadd_idxJ hj94 (by omega) hok77), (by omega), hk113⟩ <;> first | rfl | simp [E93, hlt28, hlt98, hg110, hc140]
theorem r_ref07_Least (T : Tabs) {H : Heap} {a0 : Fm} {a1 : Int} {r0 : Bool} {n : Nat} (hm : ref07_Least n a0 a1 = some r0) : ACall Tryd.prog T 52 [Fm.av a0, AV.sc (.int .i64 a1)] H (AV.sc (.bool r0)) H := (rg_ref07_Least T n) hm

theorem enters102 : entersB Tryd.prog 102 = true := by kernel_rfl

theorem r_ref03_below (T : Tabs) {H : Heap} {a0 : Tm} {r0 : Int} (hm : ref03_below a0 = some r0) : ACall Tryd.prog T 102 [Tm.av a0] H (AV.sc (.int .i64 r0)) H := by
  rw [ref03_below] at hm
  refine ACallP.intro (fn := Tryd.f102) Tryd.func102 rfl enters102 (Nat.le_of_ble_eq_true rfl) ?_
  refine AWp.sr [] fun K1 hk2 => ?_
  simp
  apply hk2
  refine AWp.seqK fun K3 hk4 => ?_
  refine AWp.sr [] fun K5 hk6 => ?_
  simp
  apply hk6
  refine AWp.condK fun A7 B8 ga9 gb10 => ?_
  rcases ite_some hm with ⟨hc11, hm12⟩ | ⟨hc11, hm13⟩
  · clear hm
    simp [hc11]
    apply ga9
    refine AWp.sr [] fun K14 hk15 => ?_
    simp [hc11]
    apply hk15
    refine AWp.ret ?_
    obtain rfl := Option.some.inj hm12
    simp [retQ, hc11]
  clear hm
  simp [hc11]
  apply gb10
  refine AWp.skip ?_
  apply hk4
  refine AWp.sr [] fun K16 hk17 => ?_
  simp [hc11]
  apply hk17
  refine AWp.ret ?_
  obtain rfl := Option.some.inj hm13
  simp [retQ, hc11]

theorem enters86 : entersB Tryd.prog 86 = true := by kernel_rfl

theorem rg_ref03_Up (T : Tabs) : ∀ (n : Nat), (∀ {H : Heap} {a0 : Tm} {a1 : Int} {a2 : Int} {r0 : Tm} (hm : ref03_Up n a0 a1 a2 = some r0), ACall Tryd.prog T 86 [Tm.av a0, AV.sc (.int .i64 a1), AV.sc (.int .i64 a2)] H (Tm.av r0) H) := by
  intro n
  induction n with
  | zero =>
    skip
    all_goals
      intros
      rename_i hm
      cases hm
  | succ n ih =>
    intro H a0 a1 a2 r0 hm
    rw [ref03_Up] at hm
    refine ACallP.intro (fn := Tryd.f86) Tryd.func86 rfl enters86 (Nat.le_of_ble_eq_true rfl) ?_
    refine AWp.sr [] fun K1 hk2 => ?_
    simp
    apply hk2
    refine AWp.sr [] fun K3 hk4 => ?_
    simp
    apply hk4
    refine AWp.seqP (fun fr h => ∃ (g3_16 : Nat) (g6_16 : Nat) (g7_16 : Nat), H = h ∧ (fr.env 1 = AV.sc (.int .i64 a1) ∧ fr.env 2 = AV.sc (.int .i64 a2) ∧ fr.env 3 = AV.lptr 3 g3_16 0 ∧ fr.env 6 = AV.lptr 6 g6_16 0 ∧ fr.env 7 = AV.lptr 7 g7_16 0 ∧ fr.gen 3 = g3_16 ∧ fr.box 3 = some [AV.sc (.int .i64 a0.kind), AV.sc (.int .i64 a0.index), AV.sc (.int .i64 a0.typeF.kind), AV.slice .frz (List.map Ty.av a0.typeF.args), AV.slice .frz (List.map Tm.av a0.args)] ∧ fr.gen 6 = g6_16 ∧ fr.box 6 = some [AV.sc (.int .i64 0), AV.sc (.int .i64 0), AV.sc (.int .i64 0), AV.slice .full [], AV.slice .full []] ∧ fr.gen 7 = g7_16 ∧ fr.box 7 = some [AV.sc (.int .i64 a0.kind), AV.sc (.int .i64 (sel (sel (ieq a0.kind 1) (ige a0.index a1) false) (iadd .i64 a0.index a2) a0.index)), AV.sc (.int .i64 a0.typeF.kind), AV.slice .frz (List.map Ty.av a0.typeF.args), AV.slice .full []])) (fun K5 hk6 => ?_) ?_
    · refine AWp.seqP (fun fr h => ∃ (g3_10 : Nat) (g6_10 : Nat) (g7_10 : Nat), H = h ∧ (fr.env 1 = AV.sc (.int .i64 a1) ∧ fr.env 2 = AV.sc (.int .i64 a2) ∧ fr.env 3 = AV.lptr 3 g3_10 0 ∧ fr.env 6 = AV.lptr 6 g6_10 0 ∧ fr.env 7 = AV.lptr 7 g7_10 0 ∧ fr.env 25 = AV.sc (.bool (sel (ieq a0.kind 1) (ige a0.index a1) false)) ∧ fr.gen 3 = g3_10 ∧ fr.box 3 = some [AV.sc (.int .i64 a0.kind), AV.sc (.int .i64 a0.index), AV.sc (.int .i64 a0.typeF.kind), AV.slice .frz (List.map Ty.av a0.typeF.args), AV.slice .frz (List.map Tm.av a0.args)] ∧ fr.gen 6 = g6_10 ∧ fr.box 6 = some [AV.sc (.int .i64 0), AV.sc (.int .i64 0), AV.sc (.int .i64 0), AV.slice .full [], AV.slice .full []] ∧ fr.gen 7 = g7_10 ∧ fr.box 7 = some [AV.sc (.int .i64 a0.kind), AV.sc (.int .i64 a0.index), AV.sc (.int .i64 a0.typeF.kind), AV.slice .frz (List.map Ty.av a0.typeF.args), AV.slice .full []])) (fun K7 hk8 => ?_) ?_
      · refine AWp.region [] (by decide +kernel) ?_
        rcases Bool.eq_false_or_eq_true (ieq a0.kind 1) with hc9 | hc9
        · simp [hc9]
          refine hk8 _ _ ⟨1, 1, 1, ?_, ⟨?_, ?_, ?_, ?_, ?_, ?_, ?_, ?_, ?_, ?_, ?_, ?_⟩⟩ <;> first | rfl | simp [hc9]
        simp [hc9]
        refine hk8 _ _ ⟨1, 1, 1, ?_, ⟨?_, ?_, ?_, ?_, ?_, ?_, ?_, ?_, ?_, ?_, ?_, ?_⟩⟩ <;> first | rfl | simp [hc9]
      rintro fr10 h10 ⟨g3_10, g6_10, g7_10, rfl, E10⟩
      refine AWp.condK fun A11 B12 ga13 gb14 => ?_
      rcases Bool.eq_false_or_eq_true (sel (ieq a0.kind 1) (ige a0.index a1) false) with hc15 | hc15
      rotate_left
      · simp [E10, hc15]
        apply gb14
        refine AWp.skip ?_
        refine hk6 _ _ ⟨g3_10, g6_10, g7_10, ?_, ⟨?_, ?_, ?_, ?_, ?_, ?_, ?_, ?_, ?_, ?_, ?_⟩⟩ <;> first | rfl | simp [E10, hc15]
      simp [E10, hc15]
      apply ga13
      refine AWp.region [] (by decide +kernel) ?_
      simp [E10, hc15]
      refine hk6 _ _ ⟨g3_10, g6_10, g7_10, ?_, ⟨?_, ?_, ?_, ?_, ?_, ?_, ?_, ?_, ?_, ?_, ?_⟩⟩ <;> first | rfl | simp [E10, hc15]
    rintro fr16 h16 ⟨g3_16, g6_16, g7_16, rfl, E16⟩
    refine AWp.seqK fun K17 hk18 => ?_
    refine AWp.sr [] fun K19 hk20 => ?_
    simp [E16]
    apply hk20
    obtain ⟨hok21, hm22⟩ := chk_some hm
    clear hm
    obtain ⟨F23, hF24, hm25⟩ := joinB_some hm22
    clear hm22
    try dsimp only at hm25
    obtain ⟨out26, hl27, hmB28⟩ := bind1_some hm25
    clear hm25
    refine AWp.blockK fun Q29 nn30 ne31 nx32 nr33 => ?_
    refine AWp.loopF (fun n34 fr h => ∃ (i35 : Nat) (j36 : Int) (v37 : (List Tm)) (tg0_38 : Tag) (g3_38 : Nat) (g6_38 : Nat) (g7_38 : Nat), H = h ∧ (fr.env 1 = AV.sc (.int .i64 a1) ∧ fr.env 2 = AV.sc (.int .i64 a2) ∧ fr.env 3 = AV.lptr 3 g3_38 0 ∧ fr.env 6 = AV.lptr 6 g6_38 0 ∧ fr.env 7 = AV.lptr 7 g7_38 0 ∧ fr.env 32 = AV.slice .frz (List.map Tm.av a0.args) ∧ fr.env 33 = AV.sc (.int .i64 (llen a0.args)) ∧ fr.env 34 = AV.sc (.int .i64 j36) ∧ fr.gen 3 = g3_38 ∧ fr.box 3 = some [AV.sc (.int .i64 a0.kind), AV.sc (.int .i64 a0.index), AV.sc (.int .i64 a0.typeF.kind), AV.slice .frz (List.map Ty.av a0.typeF.args), AV.slice .frz (List.map Tm.av a0.args)] ∧ fr.gen 6 = g6_38 ∧ fr.box 6 = some [AV.sc (.int .i64 0), AV.sc (.int .i64 0), AV.sc (.int .i64 0), AV.slice .full [], AV.slice .full []] ∧ fr.gen 7 = g7_38 ∧ fr.box 7 = some [AV.sc (.int .i64 a0.kind), AV.sc (.int .i64 (sel (sel (ieq a0.kind 1) (ige a0.index a1) false) (iadd .i64 a0.index a2) a0.index)), AV.sc (.int .i64 a0.typeF.kind), AV.slice .frz (List.map Ty.av a0.typeF.args), AV.slice tg0_38 (List.map Tm.av v37)]) ∧ OwnT fr.tab fr.tgen [48] tg0_38 (List.length v37) ∧ j36 = (i35 : Int) ∧ i35 + n34 = List.length a0.args ∧ forR F23 (List.drop i35 a0.args) i35 v37 = some out26) (List.length a0.args) ?_ ?_
    · refine ⟨0, 0, [], .full, g3_16, g6_16, g7_16, ?_, ⟨?_, ?_, ?_, ?_, ?_, ?_, ?_, ?_, ?_, ?_, ?_, ?_, ?_, ?_⟩, OwnT.full, rfl, (by simp), hl27⟩ <;> first | rfl | simp [E16]
    rintro n34 fr38 h38 ⟨i35, j36, v37, tg0_38, g3_38, g6_38, g7_38, rfl, E38, o0_38, hj39, hi40, hl27⟩ K41 hK42
    rcases n34 with _ | n34
    · have hlt43 := ilt_notJ (l := a0.args) hj39 (by omega)
      refine AWp.sr [] fun K44 hk45 => ?_
      simp [E38, hlt43]
      apply hk45
      refine AWp.seqK fun K46 hk47 => ?_
      refine AWp.condK fun A48 B49 ga50 gb51 => ?_
      simp [E38, hlt43]
      apply gb51
      refine AWp.exit ?_
      apply ne31
      rw [List.drop_eq_nil_of_le (by omega), forR_nil] at hl27
      obtain rfl := Option.some.inj hl27
      rw [sumK_inl] at hmB28
      try dsimp only at hmB28
      apply hk18
      refine AWp.sr [] fun K52 hk53 => ?_
      simp [E38, hlt43]
      apply hk53
      refine AWp.ret ?_
      obtain rfl := Option.some.inj hmB28
      simp [retQ, E38, hlt43]
    have hlt43 := ilt_ofJ (l := a0.args) hj39 (by omega)
    obtain ⟨x54, hdn34, hg55⟩ := drop_ltJ (l := a0.args) hj39 (by omega)
    rw [hdn34, forR_cons] at hl27
    obtain ⟨c56, hb57, hk58⟩ := bind1_some hl27
    clear hl27
    rw [hF24, ← hj39] at hb57
    try dsimp only at hb57
    refine AWp.sr [] fun K59 hk60 => ?_
    simp [E38, hlt43, hg55]
    apply hk60
    refine AWp.seqK fun K61 hk62 => ?_
    refine AWp.condK fun A63 B64 ga65 gb66 => ?_
    simp [E38, hlt43, hg55]
    apply ga65
    refine AWp.skip ?_
    apply hk62
    refine AWp.seqK fun K67 hk68 => ?_
    refine AWp.blockK fun Q69 nn70 ne71 nx72 nr73 => ?_
    refine AWp.sr [] fun K74 hk75 => ?_
    simp [E38, hlt43, hg55]
    apply hk75
    refine AWp.regionD [] false mixed (by decide +kernel) (by decide +kernel) ?_
    obtain ⟨x76, hx77, hm78⟩ := bind1_some hb57
    clear hb57
    try dsimp only at hm78
    simp [E38, hlt43, hg55]
    refine CallAtD.fn (r_ref03_below T hx77) (by simp) ?_
    obtain ⟨x79, hx80, hm81⟩ := bind1_some hm78
    clear hm78
    try dsimp only at hm81
    simp [E38, hlt43, hg55]
    refine CallAtD.fn (ih hx80) (by simp) ?_
    obtain ⟨ha301, hm82⟩ := chk_some hm81
    clear hm81
    simp [E38, hlt43, hg55]
    refine AppAt.own (f := Tm.av) v37 [x79] o0_38 ap26 (by intro x; simp) ha301 (by first | rfl | simp) (by first | rfl | simp) ?_
    simp [E38, hlt43, hg55]
    apply nn70
    apply hk68
    refine AWp.region [] (by decide +kernel) ?_
    simp [E38, hlt43, hg55]
    obtain rfl := Option.some.inj hm82
    rw [ctlK_next] at hk58
    refine hK42 _ _ n34 (Nat.lt_succ_self _) ⟨(i35 + 1), (iadd .i64 j36 1), (lapp v37 [x79]), (.loc 48 (fr38.tgen 48 + 1)), g3_38, g6_38, g7_38, ?_, ⟨?_, ?_, ?_, ?_, ?_, ?_, ?_, ?_, ?_, ?_, ?_, ?_, ?_, ?_⟩, (OwnT.mono (D := [48]) (OwnT.new (D := [48]) (d := 48) (by decide)) (by decide)), (iadd_idxJ hj39 (by omega) hok21), (by omega), hk58⟩ <;> first | rfl | simp [E38, hlt43, hg55]
theorem r_ref03_Up (T : Tabs) {H : Heap} {a0 : Tm} {a1 : Int} {a2 : Int} {r0 : Tm} {n : Nat} (hm : ref03_Up n a0 a1 a2 = some r0) : ACall Tryd.prog T 86 [Tm.av a0, AV.sc (.int .i64 a1), AV.sc (.int .i64 a2)] H (Tm.av r0) H := (rg_ref03_Up T n) hm

end Go.Proofs.YtdihelfnjememaaDoor
