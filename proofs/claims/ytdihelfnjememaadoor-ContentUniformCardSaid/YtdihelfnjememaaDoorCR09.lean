/- The program's functions do what the models say. -/
import Derived.Test.YtdihelfnjememaaDoorCR08
import Derived.Test.YtdihelfnjememaaDoorCM
set_option maxRecDepth 20000
set_option maxHeartbeats 4000000
set_option linter.unusedSimpArgs false
set_option linter.unusedVariables false
namespace Go.Proofs.YtdihelfnjememaaDoor
open Go Go.Abs Go.Mdl

theorem enters87 : entersB Tryd.prog 87 = true := by kernel_rfl

theorem r_ref07_below (T : Tabs) {H : Heap} {a0 : Fm} {r0 : Int} (hm : ref07_below a0 = some r0) : ACall Tryd.prog T 87 [Fm.av a0] H (AV.sc (.int .i64 r0)) H := by
  rw [ref07_below] at hm
  refine ACallP.intro (fn := Tryd.f87) Tryd.func87 rfl enters87 (Nat.le_of_ble_eq_true rfl) ?_
  refine AWp.sr [] fun K1 hk2 => ?_
  simp
  apply hk2
  refine AWp.seqK fun K3 hk4 => ?_
  refine AWp.sr [] fun K5 hk6 => ?_
  obtain ⟨x7, hx8, hm9⟩ := bind1_some hm
  clear hm
  try dsimp only at hm9
  simp
  refine CallAt.fn (r_ref07_quantifier T hx8) ?_
  simp
  apply hk6
  refine AWp.condK fun A10 B11 ga12 gb13 => ?_
  rcases ite_some hm9 with ⟨hc14, hm15⟩ | ⟨hc14, hm16⟩
  · clear hm9
    simp [hc14]
    apply ga12
    refine AWp.sr [] fun K17 hk18 => ?_
    simp [hc14]
    apply hk18
    refine AWp.ret ?_
    obtain rfl := Option.some.inj hm15
    simp [retQ, hc14]
  clear hm9
  simp [hc14]
  apply gb13
  refine AWp.skip ?_
  apply hk4
  refine AWp.sr [] fun K19 hk20 => ?_
  simp [hc14]
  apply hk20
  refine AWp.ret ?_
  obtain rfl := Option.some.inj hm16
  simp [retQ, hc14]

theorem enters54 : entersB Tryd.prog 54 = true := by kernel_rfl

theorem rg_ref07_Up (T : Tabs) : ∀ (n : Nat), (∀ {H : Heap} {a0 : Fm} {a1 : Int} {a2 : Int} {r0 : Fm} (hm : ref07_Up n a0 a1 a2 = some r0), ACall Tryd.prog T 54 [Fm.av a0, AV.sc (.int .i64 a1), AV.sc (.int .i64 a2)] H (Fm.av r0) H) := by
  intro n
  induction n with
  | zero =>
    skip
    all_goals
      intros
      rename_i hm
      cases hm
  | succ n ih =>
    intro H a0 a1 a2 r0 hm
    rw [ref07_Up] at hm
    refine ACallP.intro (fn := Tryd.f54) Tryd.func54 rfl enters54 (Nat.le_of_ble_eq_true rfl) ?_
    refine AWp.sr [] fun K1 hk2 => ?_
    simp
    apply hk2
    refine AWp.sr [] fun K3 hk4 => ?_
    simp
    apply hk4
    refine AWp.seqK fun K5 hk6 => ?_
    refine AWp.sr [] fun K7 hk8 => ?_
    simp
    apply hk8
    obtain ⟨hok9, hm10⟩ := chk_some hm
    clear hm
    obtain ⟨F11, hF12, hm13⟩ := joinB_some hm10
    clear hm10
    try dsimp only at hm13
    obtain ⟨out14, hl15, hmB16⟩ := bind1_some hm13
    clear hm13
    refine AWp.blockK fun Q17 nn18 ne19 nx20 nr21 => ?_
    refine AWp.loopF (fun n22 fr h => ∃ (i23 : Nat) (j24 : Int) (v25 : (List Tm)) (tg0_26 : Tag) (g3_26 : Nat) (g6_26 : Nat) (g7_26 : Nat), H = h ∧ (fr.env 1 = AV.sc (.int .i64 a1) ∧ fr.env 2 = AV.sc (.int .i64 a2) ∧ fr.env 3 = AV.lptr 3 g3_26 0 ∧ fr.env 6 = AV.lptr 6 g6_26 0 ∧ fr.env 7 = AV.lptr 7 g7_26 0 ∧ fr.env 18 = AV.slice .frz (List.map Tm.av a0.terms) ∧ fr.env 19 = AV.sc (.int .i64 (llen a0.terms)) ∧ fr.env 20 = AV.sc (.int .i64 j24) ∧ fr.gen 3 = g3_26 ∧ fr.box 3 = some [AV.sc (.int .i64 a0.kind), AV.sc (.int .i64 a0.typeF.kind), AV.slice .frz (List.map Ty.av a0.typeF.args), AV.slice .frz (List.map Tm.av a0.terms), AV.slice .frz (List.map Fm.av a0.args)] ∧ fr.gen 6 = g6_26 ∧ fr.box 6 = some [AV.sc (.int .i64 0), AV.sc (.int .i64 0), AV.slice .full [], AV.slice .full [], AV.slice .full []] ∧ fr.gen 7 = g7_26 ∧ fr.box 7 = some [AV.sc (.int .i64 a0.kind), AV.sc (.int .i64 a0.typeF.kind), AV.slice .frz (List.map Ty.av a0.typeF.args), AV.slice tg0_26 (List.map Tm.av v25), AV.slice .full []]) ∧ OwnT fr.tab fr.tgen [31] tg0_26 (List.length v25) ∧ j24 = (i23 : Int) ∧ i23 + n22 = List.length a0.terms ∧ forR F11 (List.drop i23 a0.terms) i23 v25 = some out14) (List.length a0.terms) ?_ ?_
    · refine ⟨0, 0, [], .full, 1, 1, 1, ?_, ⟨?_, ?_, ?_, ?_, ?_, ?_, ?_, ?_, ?_, ?_, ?_, ?_, ?_, ?_⟩, OwnT.full, rfl, (by simp), hl15⟩ <;> first | rfl | simp
    rintro n22 fr26 h26 ⟨i23, j24, v25, tg0_26, g3_26, g6_26, g7_26, rfl, E26, o0_26, hj27, hi28, hl15⟩ K29 hK30
    rcases n22 with _ | n22
    rotate_left
    · have hlt31 := ilt_ofJ (l := a0.terms) hj27 (by omega)
      obtain ⟨x32, hdn22, hg33⟩ := drop_ltJ (l := a0.terms) hj27 (by omega)
      rw [hdn22, forR_cons] at hl15
      obtain ⟨c34, hb35, hk36⟩ := bind1_some hl15
      clear hl15
      rw [hF12, ← hj27] at hb35
      try dsimp only at hb35
      refine AWp.sr [] fun K37 hk38 => ?_
      simp [E26, hlt31, hg33]
      apply hk38
      refine AWp.seqK fun K39 hk40 => ?_
      refine AWp.condK fun A41 B42 ga43 gb44 => ?_
      simp [E26, hlt31, hg33]
      apply ga43
      refine AWp.skip ?_
      apply hk40
      refine AWp.seqK fun K45 hk46 => ?_
      refine AWp.blockK fun Q47 nn48 ne49 nx50 nr51 => ?_
      refine AWp.sr [] fun K52 hk53 => ?_
      simp [E26, hlt31, hg33]
      apply hk53
      refine AWp.regionD [] false mixed (by decide +kernel) (by decide +kernel) ?_
      obtain ⟨x54, hx55, hm56⟩ := bind1_some hb35
      clear hb35
      try dsimp only at hm56
      simp [E26, hlt31, hg33]
      refine CallAtD.fn (r_ref03_Up T hx55) (by simp) ?_
      obtain ⟨ha236, hm57⟩ := chk_some hm56
      clear hm56
      simp [E26, hlt31, hg33]
      refine AppAt.own (f := Tm.av) v25 [x54] o0_26 ap26 (by intro x; simp) ha236 (by first | rfl | simp) (by first | rfl | simp) ?_
      simp [E26, hlt31, hg33]
      apply nn48
      apply hk46
      refine AWp.region [] (by decide +kernel) ?_
      simp [E26, hlt31, hg33]
      obtain rfl := Option.some.inj hm57
      rw [ctlK_next] at hk36
      refine hK30 _ _ n22 (Nat.lt_succ_self _) ⟨(i23 + 1), (iadd .i64 j24 1), (lapp v25 [x54]), (.loc 31 (fr26.tgen 31 + 1)), g3_26, g6_26, g7_26, ?_, ⟨?_, ?_, ?_, ?_, ?_, ?_, ?_, ?_, ?_, ?_, ?_, ?_, ?_, ?_⟩, (OwnT.mono (D := [31]) (OwnT.new (D := [31]) (d := 31) (by decide)) (by decide)), (iadd_idxJ hj27 (by omega) hok9), (by omega), hk36⟩ <;> first | rfl | simp [E26, hlt31, hg33]
    have hlt31 := ilt_notJ (l := a0.terms) hj27 (by omega)
    refine AWp.sr [] fun K58 hk59 => ?_
    simp [E26, hlt31]
    apply hk59
    refine AWp.seqK fun K60 hk61 => ?_
    refine AWp.condK fun A62 B63 ga64 gb65 => ?_
    simp [E26, hlt31]
    apply gb65
    refine AWp.exit ?_
    apply ne19
    rw [List.drop_eq_nil_of_le (by omega), forR_nil] at hl15
    obtain rfl := Option.some.inj hl15
    rw [sumK_inl] at hmB16
    try dsimp only at hmB16
    apply hk6
    refine AWp.seqK fun K66 hk67 => ?_
    refine AWp.sr [] fun K68 hk69 => ?_
    simp [E26, hlt31]
    apply hk69
    obtain ⟨hok70, hm71⟩ := chk_some hmB16
    clear hmB16
    obtain ⟨F72, hF73, hm74⟩ := joinB_some hm71
    clear hm71
    try dsimp only at hm74
    obtain ⟨out75, hl76, hmB77⟩ := bind1_some hm74
    clear hm74
    refine AWp.blockK fun Q78 nn79 ne80 nx81 nr82 => ?_
    refine AWp.loopF (fun n83 fr h => ∃ (i84 : Nat) (j85 : Int) (v86 : (List Fm)) (tg0_87 : Tag) (tg1_87 : Tag) (g3_87 : Nat) (g6_87 : Nat) (g7_87 : Nat), H = h ∧ (fr.env 1 = AV.sc (.int .i64 a1) ∧ fr.env 2 = AV.sc (.int .i64 a2) ∧ fr.env 3 = AV.lptr 3 g3_87 0 ∧ fr.env 6 = AV.lptr 6 g6_87 0 ∧ fr.env 7 = AV.lptr 7 g7_87 0 ∧ fr.env 35 = AV.slice .frz (List.map Fm.av a0.args) ∧ fr.env 36 = AV.sc (.int .i64 (llen a0.args)) ∧ fr.env 37 = AV.sc (.int .i64 j85) ∧ fr.gen 3 = g3_87 ∧ fr.box 3 = some [AV.sc (.int .i64 a0.kind), AV.sc (.int .i64 a0.typeF.kind), AV.slice .frz (List.map Ty.av a0.typeF.args), AV.slice .frz (List.map Tm.av a0.terms), AV.slice .frz (List.map Fm.av a0.args)] ∧ fr.gen 6 = g6_87 ∧ fr.box 6 = some [AV.sc (.int .i64 0), AV.sc (.int .i64 0), AV.slice .full [], AV.slice .full [], AV.slice .full []] ∧ fr.gen 7 = g7_87 ∧ fr.box 7 = some [AV.sc (.int .i64 a0.kind), AV.sc (.int .i64 a0.typeF.kind), AV.slice .frz (List.map Ty.av a0.typeF.args), AV.slice tg0_87 (List.map Tm.av v25), AV.slice tg1_87 (List.map Fm.av v86)]) ∧ OwnT fr.tab fr.tgen [31] tg0_87 (List.length v25) ∧ OwnT fr.tab fr.tgen [51] tg1_87 (List.length v86) ∧ j85 = (i84 : Int) ∧ i84 + n83 = List.length a0.args ∧ forR F72 (List.drop i84 a0.args) i84 v86 = some out75) (List.length a0.args) ?_ ?_
    · refine ⟨0, 0, [], tg0_26, .full, g3_26, g6_26, g7_26, ?_, ⟨?_, ?_, ?_, ?_, ?_, ?_, ?_, ?_, ?_, ?_, ?_, ?_, ?_, ?_⟩, (OwnT.mono (D := [31]) o0_26 (by decide)), OwnT.full, rfl, (by simp), hl76⟩ <;> first | rfl | simp [E26, hlt31]
    rintro n83 fr87 h87 ⟨i84, j85, v86, tg0_87, tg1_87, g3_87, g6_87, g7_87, rfl, E87, o0_87, o1_87, hj88, hi89, hl76⟩ K90 hK91
    rcases n83 with _ | n83
    · have hlt92 := ilt_notJ (l := a0.args) hj88 (by omega)
      refine AWp.sr [] fun K93 hk94 => ?_
      simp [E87, hlt31, hlt92]
      apply hk94
      refine AWp.seqK fun K95 hk96 => ?_
      refine AWp.condK fun A97 B98 ga99 gb100 => ?_
      simp [E87, hlt31, hlt92]
      apply gb100
      refine AWp.exit ?_
      apply ne80
      rw [List.drop_eq_nil_of_le (by omega), forR_nil] at hl76
      obtain rfl := Option.some.inj hl76
      rw [sumK_inl] at hmB77
      try dsimp only at hmB77
      apply hk67
      refine AWp.sr [] fun K101 hk102 => ?_
      simp [E87, hlt31, hlt92]
      apply hk102
      refine AWp.ret ?_
      obtain rfl := Option.some.inj hmB77
      simp [retQ, E87, hlt31, hlt92]
    have hlt92 := ilt_ofJ (l := a0.args) hj88 (by omega)
    obtain ⟨x103, hdn83, hg104⟩ := drop_ltJ (l := a0.args) hj88 (by omega)
    rw [hdn83, forR_cons] at hl76
    obtain ⟨c105, hb106, hk107⟩ := bind1_some hl76
    clear hl76
    rw [hF73, ← hj88] at hb106
    try dsimp only at hb106
    refine AWp.sr [] fun K108 hk109 => ?_
    simp [E87, hlt31, hlt92, hg104]
    apply hk109
    refine AWp.seqK fun K110 hk111 => ?_
    refine AWp.condK fun A112 B113 ga114 gb115 => ?_
    simp [E87, hlt31, hlt92, hg104]
    apply ga114
    refine AWp.skip ?_
    apply hk111
    refine AWp.seqK fun K116 hk117 => ?_
    refine AWp.blockK fun Q118 nn119 ne120 nx121 nr122 => ?_
    refine AWp.sr [] fun K123 hk124 => ?_
    simp [E87, hlt31, hlt92, hg104]
    apply hk124
    refine AWp.regionD [] false mixed (by decide +kernel) (by decide +kernel) ?_
    obtain ⟨x125, hx126, hm127⟩ := bind1_some hb106
    clear hb106
    try dsimp only at hm127
    simp [E87, hlt31, hlt92, hg104]
    refine CallAtD.fn (r_ref07_below T hx126) (by simp) ?_
    obtain ⟨x128, hx129, hm130⟩ := bind1_some hm127
    clear hm127
    try dsimp only at hm130
    simp [E87, hlt31, hlt92, hg104]
    refine CallAtD.fn (ih hx129) (by simp) ?_
    obtain ⟨ha511, hm131⟩ := chk_some hm130
    clear hm130
    simp [E87, hlt31, hlt92, hg104]
    refine AppAt.own (f := Fm.av) v86 [x128] o1_87 ap27 (by intro x; simp) ha511 (by first | rfl | simp) (by first | rfl | simp) ?_
    simp [E87, hlt31, hlt92, hg104]
    apply nn119
    apply hk117
    refine AWp.region [] (by decide +kernel) ?_
    simp [E87, hlt31, hlt92, hg104]
    obtain rfl := Option.some.inj hm131
    rw [ctlK_next] at hk107
    refine hK91 _ _ n83 (Nat.lt_succ_self _) ⟨(i84 + 1), (iadd .i64 j85 1), (lapp v86 [x128]), tg0_87, (.loc 51 (fr87.tgen 51 + 1)), g3_87, g6_87, g7_87, ?_, ⟨?_, ?_, ?_, ?_, ?_, ?_, ?_, ?_, ?_, ?_, ?_, ?_, ?_, ?_⟩, (OwnT.mono (D := [31]) (OwnT.other o0_87 o1_87 (by decide) (by decide)) (by decide)), (OwnT.mono (D := [51]) (OwnT.new (D := [51]) (d := 51) (by decide)) (by decide)), (iadd_idxJ hj88 (by omega) hok70), (by omega), hk107⟩ <;> first | rfl | simp [E87, hlt31, hlt92, hg104]
theorem r_ref07_Up (T : Tabs) {H : Heap} {a0 : Fm} {a1 : Int} {a2 : Int} {r0 : Fm} {n : Nat} (hm : ref07_Up n a0 a1 a2 = some r0) : ACall Tryd.prog T 54 [Fm.av a0, AV.sc (.int .i64 a1), AV.sc (.int .i64 a2)] H (Fm.av r0) H := (rg_ref07_Up T n) hm

theorem enters27 : entersB Tryd.prog 27 = true := by kernel_rfl

theorem r_ref07_Lift (T : Tabs) {H : Heap} {a0 : Fm} {a1 : Int} {a2 : Int} {r0 : Fm} {r1 : Int} (hm : ref07_Lift a0 a1 a2 = some (r0, r1)) : ACall Tryd.prog T 27 [Fm.av a0, AV.sc (.int .i64 a1), AV.sc (.int .i64 a2)] H (AV.tuple [Fm.av r0, AV.sc (.int .i64 r1)]) H := by
  rw [ref07_Lift] at hm
  refine ACallP.intro (fn := Tryd.f27) Tryd.func27 rfl enters27 (Nat.le_of_ble_eq_true rfl) ?_
  refine AWp.sr [] fun K1 hk2 => ?_
  simp
  apply hk2
  refine AWp.seqK fun K3 hk4 => ?_
  refine AWp.sr [] fun K5 hk6 => ?_
  obtain ⟨x7, hx8, hm9⟩ := bind1_some hm
  clear hm
  try dsimp only at hm9
  simp
  refine CallAt.fn (r_ref07_Check T hx8) ?_
  simp
  apply hk6
  refine AWp.sr [] fun K10 hk11 => ?_
  simp
  apply hk11
  refine AWp.condK fun A12 B13 ga14 gb15 => ?_
  rcases ite_some hm9 with ⟨hc16, hm17⟩ | ⟨hc16, hm18⟩
  · clear hm9
    simp [hc16]
    apply ga14
    refine AWp.sr [] fun K19 hk20 => ?_
    simp [hc16]
    apply hk20
    refine AWp.ret ?_
    simp only [Option.some.injEq, Prod.mk.injEq] at hm17
    obtain ⟨rfl, rfl⟩ := hm17
    simp [retQ, hc16]
  clear hm9
  simp [hc16]
  apply gb15
  refine AWp.skip ?_
  apply hk4
  refine AWp.seqK fun K21 hk22 => ?_
  obtain ⟨j23, hj24, hm25⟩ := joinB_some hm18
  clear hm18
  refine AWp.seqP (fun fr h => ∃ (v26 : Bool) (g3_29 : Nat) (g6_29 : Nat), H = h ∧ (fr.env 1 = AV.sc (.int .i64 a1) ∧ fr.env 2 = AV.sc (.int .i64 a2) ∧ fr.env 3 = AV.lptr 3 g3_29 0 ∧ fr.env 6 = AV.lptr 6 g6_29 0 ∧ fr.env 33 = AV.sc (.bool v26) ∧ fr.gen 3 = g3_29 ∧ fr.box 3 = some [AV.sc (.int .i64 a0.kind), AV.sc (.int .i64 a0.typeF.kind), AV.slice .frz (List.map Ty.av a0.typeF.args), AV.slice .frz (List.map Tm.av a0.terms), AV.slice .frz (List.map Fm.av a0.args)] ∧ fr.gen 6 = g6_29 ∧ fr.box 6 = some [AV.sc (.int .i64 0), AV.sc (.int .i64 0), AV.slice .full [], AV.slice .full [], AV.slice .full []]) ∧ j23 v26 = some (r0, r1)) (fun K27 hk28 => ?_) ?_
  rotate_left
  · clear hm25
    rintro fr29 h29 ⟨v26, g3_29, g6_29, rfl, E29, hm30⟩
    subst hj24
    refine AWp.condK fun A31 B32 ga33 gb34 => ?_
    rcases ite_some hm30 with ⟨hc35, hm36⟩ | ⟨hc35, hm37⟩
    · clear hm30
      simp [E29, hc16, hc35]
      apply ga33
      refine AWp.sr [] fun K38 hk39 => ?_
      simp [E29, hc16, hc35]
      apply hk39
      refine AWp.ret ?_
      simp only [Option.some.injEq, Prod.mk.injEq] at hm36
      obtain ⟨rfl, rfl⟩ := hm36
      simp [retQ, E29, hc16, hc35]
    clear hm30
    simp [E29, hc16, hc35]
    apply gb34
    refine AWp.skip ?_
    apply hk22
    refine AWp.sr [] fun K40 hk41 => ?_
    obtain ⟨x42, hx43, hm44⟩ := bind1_some hm37
    clear hm37
    try dsimp only at hm44
    simp [E29, hc16, hc35]
    refine CallAt.fn (r_ref07_Up T hx43) ?_
    obtain ⟨x45, hx46, hm47⟩ := bind1_some hm44
    clear hm44
    try dsimp only at hm47
    simp [E29, hc16, hc35]
    refine CallAt.fn (r_ref07_Copy T hx46) ?_
    simp [E29, hc16, hc35]
    apply hk41
    refine AWp.ret ?_
    simp only [Option.some.injEq, Prod.mk.injEq] at hm47
    obtain ⟨rfl, rfl⟩ := hm47
    simp [retQ, E29, hc16, hc35]
  refine AWp.region [] (by decide +kernel) ?_
  rcases ite_some hm25 with ⟨hc48, hm49⟩ | ⟨hc48, hm50⟩
  · clear hm25
    simp [hc16, hc48]
    refine hk28 _ _ ⟨true, 1, 1, ?_, ⟨?_, ?_, ?_, ?_, ?_, ?_, ?_, ?_, ?_⟩, hm49⟩ <;> first | rfl | simp [hc16, hc48]
  clear hm25
  rcases ite_some hm50 with ⟨hc51, hm52⟩ | ⟨hc51, hm53⟩
  · clear hm50
    simp [hc16, hc48, hc51]
    refine hk28 _ _ ⟨true, 1, 1, ?_, ⟨?_, ?_, ?_, ?_, ?_, ?_, ?_, ?_, ?_⟩, hm52⟩ <;> first | rfl | simp [hc16, hc48, hc51]
  clear hm50
  rcases ite_some hm53 with ⟨hc54, hm55⟩ | ⟨hc54, hm56⟩
  · clear hm53
    simp [hc16, hc48, hc51, hc54]
    refine hk28 _ _ ⟨true, 1, 1, ?_, ⟨?_, ?_, ?_, ?_, ?_, ?_, ?_, ?_, ?_⟩, hm55⟩ <;> first | rfl | simp [hc16, hc48, hc51, hc54]
  clear hm53
  rcases ite_some hm56 with ⟨hc57, hm58⟩ | ⟨hc57, hm59⟩
  · clear hm56
    simp [hc16, hc48, hc51, hc54, hc57]
    refine hk28 _ _ ⟨true, 1, 1, ?_, ⟨?_, ?_, ?_, ?_, ?_, ?_, ?_, ?_, ?_⟩, hm58⟩ <;> first | rfl | simp [hc16, hc48, hc51, hc54, hc57]
  clear hm56
  obtain ⟨x60, hx61, hm62⟩ := bind1_some hm59
  clear hm59
  try dsimp only at hm62
  simp [hc16, hc48, hc51, hc54, hc57]
  refine CallAt.fn (r_ref07_Least T hx61) ?_
  simp [hc16, hc48, hc51, hc54, hc57]
  refine hk28 _ _ ⟨(bnot x60), 1, 1, ?_, ⟨?_, ?_, ?_, ?_, ?_, ?_, ?_, ?_, ?_⟩, hm62⟩ <;> first | rfl | simp [hc16, hc48, hc51, hc54, hc57]

theorem enters56 : entersB Tryd.prog 56 = true := by kernel_rfl

theorem r_ref02_Check (T : Tabs) {H : Heap} {a0 : Tm} {r0 : Int} (hm : ref02_Check a0 = some r0) : ACall Tryd.prog T 56 [Tm.av a0] H (AV.sc (.int .i64 r0)) H := by
  rw [ref02_Check] at hm
  refine ACallP.intro (fn := Tryd.f56) Tryd.func56 rfl enters56 (Nat.le_of_ble_eq_true rfl) ?_
  refine AWp.sr [] fun K1 hk2 => ?_
  simp
  apply hk2
  refine AWp.seqK fun K3 hk4 => ?_
  refine AWp.sr [] fun K5 hk6 => ?_
  obtain ⟨x7, hx8, hm9⟩ := bind1_some hm
  clear hm
  try dsimp only at hm9
  simp
  refine CallAt.fn (r_ref02_Shape T hx8) ?_
  simp
  apply hk6
  refine AWp.condK fun A10 B11 ga12 gb13 => ?_
  rcases ite_some hm9 with ⟨hc14, hm15⟩ | ⟨hc14, hm16⟩
  rotate_left
  · clear hm9
    simp [hc14]
    apply ga12
    refine AWp.sr [] fun K17 hk18 => ?_
    simp [hc14]
    apply hk18
    refine AWp.ret ?_
    obtain rfl := Option.some.inj hm16
    simp [retQ, hc14]
  clear hm9
  simp [hc14]
  apply gb13
  refine AWp.skip ?_
  apply hk4
  refine AWp.seqK fun K19 hk20 => ?_
  refine AWp.sr [] fun K21 hk22 => ?_
  obtain ⟨x23, hx24, hm25⟩ := bind1_some hm15
  clear hm15
  try dsimp only at hm25
  simp [hc14]
  refine CallAt.fn (r_ref02_Count T hx24) ?_
  simp [hc14]
  apply hk22
  refine AWp.condK fun A26 B27 ga28 gb29 => ?_
  rcases ite_some hm25 with ⟨hc30, hm31⟩ | ⟨hc30, hm32⟩
  · clear hm25
    simp [hc14, hc30]
    apply ga28
    refine AWp.sr [] fun K33 hk34 => ?_
    simp [hc14, hc30]
    apply hk34
    refine AWp.ret ?_
    obtain rfl := Option.some.inj hm31
    simp [retQ, hc14, hc30]
  clear hm25
  simp [hc14, hc30]
  apply gb29
  refine AWp.skip ?_
  apply hk20
  refine AWp.sr [] fun K35 hk36 => ?_
  simp [hc14, hc30]
  apply hk36
  refine AWp.ret ?_
  obtain rfl := Option.some.inj hm32
  simp [retQ, hc14, hc30]

theorem enters89 : entersB Tryd.prog 89 = true := by kernel_rfl

theorem rg_ref03_Times (T : Tabs) : ∀ (n : Nat), (∀ {H : Heap} {a0 : Tm} {a1 : Int} {r0 : Int} (hm : ref03_Times n a0 a1 = some r0), ACall Tryd.prog T 89 [Tm.av a0, AV.sc (.int .i64 a1)] H (AV.sc (.int .i64 r0)) H) := by
  intro n
  induction n with
  | zero =>
    skip
    all_goals
      intros
      rename_i hm
      cases hm
  | succ n ih =>
    intro H a0 a1 r0 hm
    rw [ref03_Times] at hm
    refine ACallP.intro (fn := Tryd.f89) Tryd.func89 rfl enters89 (Nat.le_of_ble_eq_true rfl) ?_
    refine AWp.sr [] fun K1 hk2 => ?_
    simp
    apply hk2
    refine AWp.sr [] fun K3 hk4 => ?_
    simp
    apply hk4
    refine AWp.seqP (fun fr h => ∃ (g2_16 : Nat), H = h ∧ (fr.env 1 = AV.sc (.int .i64 a1) ∧ fr.env 2 = AV.lptr 2 g2_16 0 ∧ fr.env 5 = AV.sc (.int .i64 (sel (sel (ieq a0.kind 1) (ieq a0.index a1) false) (iadd .i64 0 1) 0)) ∧ fr.gen 2 = g2_16 ∧ fr.box 2 = some [AV.sc (.int .i64 a0.kind), AV.sc (.int .i64 a0.index), AV.sc (.int .i64 a0.typeF.kind), AV.slice .frz (List.map Ty.av a0.typeF.args), AV.slice .frz (List.map Tm.av a0.args)])) (fun K5 hk6 => ?_) ?_
    · refine AWp.seqP (fun fr h => ∃ (g2_10 : Nat), H = h ∧ (fr.env 1 = AV.sc (.int .i64 a1) ∧ fr.env 2 = AV.lptr 2 g2_10 0 ∧ fr.env 5 = AV.sc (.int .i64 0) ∧ fr.env 16 = AV.sc (.bool (sel (ieq a0.kind 1) (ieq a0.index a1) false)) ∧ fr.gen 2 = g2_10 ∧ fr.box 2 = some [AV.sc (.int .i64 a0.kind), AV.sc (.int .i64 a0.index), AV.sc (.int .i64 a0.typeF.kind), AV.slice .frz (List.map Ty.av a0.typeF.args), AV.slice .frz (List.map Tm.av a0.args)])) (fun K7 hk8 => ?_) ?_
      · refine AWp.region [] (by decide +kernel) ?_
        rcases Bool.eq_false_or_eq_true (ieq a0.kind 1) with hc9 | hc9
        · simp [hc9]
          refine hk8 _ _ ⟨1, ?_, ⟨?_, ?_, ?_, ?_, ?_, ?_⟩⟩ <;> first | rfl | simp [hc9]
        simp [hc9]
        refine hk8 _ _ ⟨1, ?_, ⟨?_, ?_, ?_, ?_, ?_, ?_⟩⟩ <;> first | rfl | simp [hc9]
      rintro fr10 h10 ⟨g2_10, rfl, E10⟩
      refine AWp.condK fun A11 B12 ga13 gb14 => ?_
      rcases Bool.eq_false_or_eq_true (sel (ieq a0.kind 1) (ieq a0.index a1) false) with hc15 | hc15
      rotate_left
      · simp [E10, hc15]
        apply gb14
        refine AWp.skip ?_
        refine hk6 _ _ ⟨g2_10, ?_, ⟨?_, ?_, ?_, ?_, ?_⟩⟩ <;> first | rfl | simp [E10, hc15]
      simp [E10, hc15]
      apply ga13
      refine AWp.region [] (by decide +kernel) ?_
      simp [E10, hc15]
      refine hk6 _ _ ⟨g2_10, ?_, ⟨?_, ?_, ?_, ?_, ?_⟩⟩ <;> first | rfl | simp [E10, hc15]
    rintro fr16 h16 ⟨g2_16, rfl, E16⟩
    refine AWp.seqK fun K17 hk18 => ?_
    refine AWp.sr [] fun K19 hk20 => ?_
    simp [E16]
    apply hk20
    obtain ⟨hok21, hm22⟩ := chk_some hm
    clear hm
    obtain ⟨F23, hF24, hm25⟩ := joinB_some hm22
    clear hm22
    try dsimp only at hm25
    obtain ⟨out26, hl27, hmB28⟩ := bind1_some hm25
    clear hm25
    refine AWp.blockK fun Q29 nn30 ne31 nx32 nr33 => ?_
    refine AWp.loopF (fun n34 fr h => ∃ (i35 : Nat) (j36 : Int) (v37 : Int) (g2_38 : Nat), H = h ∧ (fr.env 1 = AV.sc (.int .i64 a1) ∧ fr.env 2 = AV.lptr 2 g2_38 0 ∧ fr.env 5 = AV.sc (.int .i64 v37) ∧ fr.env 20 = AV.slice .frz (List.map Tm.av a0.args) ∧ fr.env 21 = AV.sc (.int .i64 (llen a0.args)) ∧ fr.env 22 = AV.sc (.int .i64 j36) ∧ fr.gen 2 = g2_38 ∧ fr.box 2 = some [AV.sc (.int .i64 a0.kind), AV.sc (.int .i64 a0.index), AV.sc (.int .i64 a0.typeF.kind), AV.slice .frz (List.map Ty.av a0.typeF.args), AV.slice .frz (List.map Tm.av a0.args)]) ∧ j36 = (i35 : Int) ∧ i35 + n34 = List.length a0.args ∧ forR F23 (List.drop i35 a0.args) i35 v37 = some out26) (List.length a0.args) ?_ ?_
    · refine ⟨0, 0, (sel (sel (ieq a0.kind 1) (ieq a0.index a1) false) (iadd .i64 0 1) 0), g2_16, ?_, ⟨?_, ?_, ?_, ?_, ?_, ?_, ?_, ?_⟩, rfl, (by simp), hl27⟩ <;> first | rfl | simp [E16]
    rintro n34 fr38 h38 ⟨i35, j36, v37, g2_38, rfl, E38, hj39, hi40, hl27⟩ K41 hK42
    rcases n34 with _ | n34
    · have hlt43 := ilt_notJ (l := a0.args) hj39 (by omega)
      refine AWp.sr [] fun K44 hk45 => ?_
      simp [E38, hlt43]
      apply hk45
      refine AWp.seqK fun K46 hk47 => ?_
      refine AWp.condK fun A48 B49 ga50 gb51 => ?_
      simp [E38, hlt43]
      apply gb51
      refine AWp.exit ?_
      apply ne31
      rw [List.drop_eq_nil_of_le (by omega), forR_nil] at hl27
      obtain rfl := Option.some.inj hl27
      rw [sumK_inl] at hmB28
      try dsimp only at hmB28
      apply hk18
      refine AWp.sr [] fun K52 hk53 => ?_
      simp [E38, hlt43]
      apply hk53
      refine AWp.ret ?_
      obtain rfl := Option.some.inj hmB28
      simp [retQ, E38, hlt43]
    have hlt43 := ilt_ofJ (l := a0.args) hj39 (by omega)
    obtain ⟨x54, hdn34, hg55⟩ := drop_ltJ (l := a0.args) hj39 (by omega)
    rw [hdn34, forR_cons] at hl27
    obtain ⟨c56, hb57, hk58⟩ := bind1_some hl27
    clear hl27
    rw [hF24, ← hj39] at hb57
    try dsimp only at hb57
    refine AWp.sr [] fun K59 hk60 => ?_
    simp [E38, hlt43, hg55]
    apply hk60
    refine AWp.seqK fun K61 hk62 => ?_
    refine AWp.condK fun A63 B64 ga65 gb66 => ?_
    simp [E38, hlt43, hg55]
    apply ga65
    refine AWp.skip ?_
    apply hk62
    refine AWp.seqK fun K67 hk68 => ?_
    refine AWp.blockK fun Q69 nn70 ne71 nx72 nr73 => ?_
    refine AWp.sr [] fun K74 hk75 => ?_
    simp [E38, hlt43, hg55]
    apply hk75
    refine AWp.regionD [] false mixed (by decide +kernel) (by decide +kernel) ?_
    obtain ⟨x76, hx77, hm78⟩ := bind1_some hb57
    clear hb57
    try dsimp only at hm78
    simp [E38, hlt43, hg55]
    refine CallAtD.fn (r_ref03_below T hx77) (by simp) ?_
    obtain ⟨x79, hx80, hm81⟩ := bind1_some hm78
    clear hm78
    try dsimp only at hm81
    simp [E38, hlt43, hg55]
    refine CallAtD.fn (ih hx80) (by simp) ?_
    simp [E38, hlt43, hg55]
    apply nn70
    apply hk68
    refine AWp.region [] (by decide +kernel) ?_
    simp [E38, hlt43, hg55]
    obtain rfl := Option.some.inj hm81
    rw [ctlK_next] at hk58
    refine hK42 _ _ n34 (Nat.lt_succ_self _) ⟨(i35 + 1), (iadd .i64 j36 1), (iadd .i64 v37 x79), g2_38, ?_, ⟨?_, ?_, ?_, ?_, ?_, ?_, ?_, ?_⟩, (iadd_idxJ hj39 (by omega) hok21), (by omega), hk58⟩ <;> first | rfl | simp [E38, hlt43, hg55]
theorem r_ref03_Times (T : Tabs) {H : Heap} {a0 : Tm} {a1 : Int} {r0 : Int} {n : Nat} (hm : ref03_Times n a0 a1 = some r0) : ACall Tryd.prog T 89 [Tm.av a0, AV.sc (.int .i64 a1)] H (AV.sc (.int .i64 r0)) H := (rg_ref03_Times T n) hm

theorem enters59 : entersB Tryd.prog 59 = true := by kernel_rfl

theorem rg_ref07_times (T : Tabs) : ∀ (n : Nat), (∀ {H : Heap} {a0 : Fm} {a1 : Int} {r0 : Int} (hm : ref07_times n a0 a1 = some r0), ACall Tryd.prog T 59 [Fm.av a0, AV.sc (.int .i64 a1)] H (AV.sc (.int .i64 r0)) H) := by
  intro n
  induction n with
  | zero =>
    skip
    all_goals
      intros
      rename_i hm
      cases hm
  | succ n ih =>
    intro H a0 a1 r0 hm
    rw [ref07_times] at hm
    refine ACallP.intro (fn := Tryd.f59) Tryd.func59 rfl enters59 (Nat.le_of_ble_eq_true rfl) ?_
    refine AWp.sr [] fun K1 hk2 => ?_
    simp
    apply hk2
    refine AWp.sr [] fun K3 hk4 => ?_
    simp
    apply hk4
    refine AWp.seqK fun K5 hk6 => ?_
    refine AWp.sr [] fun K7 hk8 => ?_
    simp
    apply hk8
    obtain ⟨hok9, hm10⟩ := chk_some hm
    clear hm
    obtain ⟨F11, hF12, hm13⟩ := joinB_some hm10
    clear hm10
    try dsimp only at hm13
    obtain ⟨out14, hl15, hmB16⟩ := bind1_some hm13
    clear hm13
    refine AWp.blockK fun Q17 nn18 ne19 nx20 nr21 => ?_
    refine AWp.loopF (fun n22 fr h => ∃ (i23 : Nat) (j24 : Int) (v25 : Int) (g2_26 : Nat), H = h ∧ (fr.env 1 = AV.sc (.int .i64 a1) ∧ fr.env 2 = AV.lptr 2 g2_26 0 ∧ fr.env 5 = AV.sc (.int .i64 v25) ∧ fr.env 11 = AV.slice .frz (List.map Tm.av a0.terms) ∧ fr.env 12 = AV.sc (.int .i64 (llen a0.terms)) ∧ fr.env 13 = AV.sc (.int .i64 j24) ∧ fr.gen 2 = g2_26 ∧ fr.box 2 = some [AV.sc (.int .i64 a0.kind), AV.sc (.int .i64 a0.typeF.kind), AV.slice .frz (List.map Ty.av a0.typeF.args), AV.slice .frz (List.map Tm.av a0.terms), AV.slice .frz (List.map Fm.av a0.args)]) ∧ j24 = (i23 : Int) ∧ i23 + n22 = List.length a0.terms ∧ forR F11 (List.drop i23 a0.terms) i23 v25 = some out14) (List.length a0.terms) ?_ ?_
    · refine ⟨0, 0, 0, 1, ?_, ⟨?_, ?_, ?_, ?_, ?_, ?_, ?_, ?_⟩, rfl, (by simp), hl15⟩ <;> first | rfl | simp
    rintro n22 fr26 h26 ⟨i23, j24, v25, g2_26, rfl, E26, hj27, hi28, hl15⟩ K29 hK30
    rcases n22 with _ | n22
    rotate_left
    · have hlt31 := ilt_ofJ (l := a0.terms) hj27 (by omega)
      obtain ⟨x32, hdn22, hg33⟩ := drop_ltJ (l := a0.terms) hj27 (by omega)
      rw [hdn22, forR_cons] at hl15
      obtain ⟨c34, hb35, hk36⟩ := bind1_some hl15
      clear hl15
      rw [hF12, ← hj27] at hb35
      try dsimp only at hb35
      refine AWp.sr [] fun K37 hk38 => ?_
      simp [E26, hlt31, hg33]
      apply hk38
      refine AWp.seqK fun K39 hk40 => ?_
      refine AWp.condK fun A41 B42 ga43 gb44 => ?_
      simp [E26, hlt31, hg33]
      apply ga43
      refine AWp.skip ?_
      apply hk40
      refine AWp.seqK fun K45 hk46 => ?_
      refine AWp.blockK fun Q47 nn48 ne49 nx50 nr51 => ?_
      refine AWp.sr [] fun K52 hk53 => ?_
      simp [E26, hlt31, hg33]
      apply hk53
      refine AWp.region [] (by decide +kernel) ?_
      obtain ⟨x54, hx55, hm56⟩ := bind1_some hb35
      clear hb35
      try dsimp only at hm56
      simp [E26, hlt31, hg33]
      refine CallAt.fn (r_ref03_Times T hx55) ?_
      simp [E26, hlt31, hg33]
      apply nn48
      apply hk46
      refine AWp.region [] (by decide +kernel) ?_
      simp [E26, hlt31, hg33]
      obtain rfl := Option.some.inj hm56
      rw [ctlK_next] at hk36
      refine hK30 _ _ n22 (Nat.lt_succ_self _) ⟨(i23 + 1), (iadd .i64 j24 1), (iadd .i64 v25 x54), g2_26, ?_, ⟨?_, ?_, ?_, ?_, ?_, ?_, ?_, ?_⟩, (iadd_idxJ hj27 (by omega) hok9), (by omega), hk36⟩ <;> first | rfl | simp [E26, hlt31, hg33]
    have hlt31 := ilt_notJ (l := a0.terms) hj27 (by omega)
    refine AWp.sr [] fun K57 hk58 => ?_
    simp [E26, hlt31]
    apply hk58
    refine AWp.seqK fun K59 hk60 => ?_
    refine AWp.condK fun A61 B62 ga63 gb64 => ?_
    simp [E26, hlt31]
    apply gb64
    refine AWp.exit ?_
    apply ne19
    rw [List.drop_eq_nil_of_le (by omega), forR_nil] at hl15
    obtain rfl := Option.some.inj hl15
    rw [sumK_inl] at hmB16
    try dsimp only at hmB16
    apply hk6
    refine AWp.seqK fun K65 hk66 => ?_
    refine AWp.sr [] fun K67 hk68 => ?_
    simp [E26, hlt31]
    apply hk68
    obtain ⟨hok69, hm70⟩ := chk_some hmB16
    clear hmB16
    obtain ⟨F71, hF72, hm73⟩ := joinB_some hm70
    clear hm70
    try dsimp only at hm73
    obtain ⟨out74, hl75, hmB76⟩ := bind1_some hm73
    clear hm73
    refine AWp.blockK fun Q77 nn78 ne79 nx80 nr81 => ?_
    refine AWp.loopF (fun n82 fr h => ∃ (i83 : Nat) (j84 : Int) (v85 : Int) (g2_86 : Nat), H = h ∧ (fr.env 1 = AV.sc (.int .i64 a1) ∧ fr.env 2 = AV.lptr 2 g2_86 0 ∧ fr.env 5 = AV.sc (.int .i64 v85) ∧ fr.env 24 = AV.slice .frz (List.map Fm.av a0.args) ∧ fr.env 25 = AV.sc (.int .i64 (llen a0.args)) ∧ fr.env 26 = AV.sc (.int .i64 j84) ∧ fr.gen 2 = g2_86 ∧ fr.box 2 = some [AV.sc (.int .i64 a0.kind), AV.sc (.int .i64 a0.typeF.kind), AV.slice .frz (List.map Ty.av a0.typeF.args), AV.slice .frz (List.map Tm.av a0.terms), AV.slice .frz (List.map Fm.av a0.args)]) ∧ j84 = (i83 : Int) ∧ i83 + n82 = List.length a0.args ∧ forR F71 (List.drop i83 a0.args) i83 v85 = some out74) (List.length a0.args) ?_ ?_
    · refine ⟨0, 0, v25, g2_26, ?_, ⟨?_, ?_, ?_, ?_, ?_, ?_, ?_, ?_⟩, rfl, (by simp), hl75⟩ <;> first | rfl | simp [E26, hlt31]
    rintro n82 fr86 h86 ⟨i83, j84, v85, g2_86, rfl, E86, hj87, hi88, hl75⟩ K89 hK90
    rcases n82 with _ | n82
    · have hlt91 := ilt_notJ (l := a0.args) hj87 (by omega)
      refine AWp.sr [] fun K92 hk93 => ?_
      simp [E86, hlt31, hlt91]
      apply hk93
      refine AWp.seqK fun K94 hk95 => ?_
      refine AWp.condK fun A96 B97 ga98 gb99 => ?_
      simp [E86, hlt31, hlt91]
      apply gb99
      refine AWp.exit ?_
      apply ne79
      rw [List.drop_eq_nil_of_le (by omega), forR_nil] at hl75
      obtain rfl := Option.some.inj hl75
      rw [sumK_inl] at hmB76
      try dsimp only at hmB76
      apply hk66
      refine AWp.sr [] fun K100 hk101 => ?_
      simp [E86, hlt31, hlt91]
      apply hk101
      refine AWp.ret ?_
      obtain rfl := Option.some.inj hmB76
      simp [retQ, E86, hlt31, hlt91]
    have hlt91 := ilt_ofJ (l := a0.args) hj87 (by omega)
    obtain ⟨x102, hdn82, hg103⟩ := drop_ltJ (l := a0.args) hj87 (by omega)
    rw [hdn82, forR_cons] at hl75
    obtain ⟨c104, hb105, hk106⟩ := bind1_some hl75
    clear hl75
    rw [hF72, ← hj87] at hb105
    try dsimp only at hb105
    refine AWp.sr [] fun K107 hk108 => ?_
    simp [E86, hlt31, hlt91, hg103]
    apply hk108
    refine AWp.seqK fun K109 hk110 => ?_
    refine AWp.condK fun A111 B112 ga113 gb114 => ?_
    simp [E86, hlt31, hlt91, hg103]
    apply ga113
    refine AWp.skip ?_
    apply hk110
    refine AWp.seqK fun K115 hk116 => ?_
    refine AWp.blockK fun Q117 nn118 ne119 nx120 nr121 => ?_
    refine AWp.sr [] fun K122 hk123 => ?_
    simp [E86, hlt31, hlt91, hg103]
    apply hk123
    refine AWp.regionD [] false mixed (by decide +kernel) (by decide +kernel) ?_
    obtain ⟨x124, hx125, hm126⟩ := bind1_some hb105
    clear hb105
    try dsimp only at hm126
    simp [E86, hlt31, hlt91, hg103]
    refine CallAtD.fn (r_ref07_below T hx125) (by simp) ?_
    obtain ⟨x127, hx128, hm129⟩ := bind1_some hm126
    clear hm126
    try dsimp only at hm129
    simp [E86, hlt31, hlt91, hg103]
    refine CallAtD.fn (ih hx128) (by simp) ?_
    simp [E86, hlt31, hlt91, hg103]
    apply nn118
    apply hk116
    refine AWp.region [] (by decide +kernel) ?_
    simp [E86, hlt31, hlt91, hg103]
    obtain rfl := Option.some.inj hm129
    rw [ctlK_next] at hk106
    refine hK90 _ _ n82 (Nat.lt_succ_self _) ⟨(i83 + 1), (iadd .i64 j84 1), (iadd .i64 v85 x127), g2_86, ?_, ⟨?_, ?_, ?_, ?_, ?_, ?_, ?_, ?_⟩, (iadd_idxJ hj87 (by omega) hok69), (by omega), hk106⟩ <;> first | rfl | simp [E86, hlt31, hlt91, hg103]
theorem r_ref07_times (T : Tabs) {H : Heap} {a0 : Fm} {a1 : Int} {r0 : Int} {n : Nat} (hm : ref07_times n a0 a1 = some r0) : ACall Tryd.prog T 59 [Fm.av a0, AV.sc (.int .i64 a1)] H (AV.sc (.int .i64 r0)) H := (rg_ref07_times T n) hm

theorem enters90 : entersB Tryd.prog 90 = true := by kernel_rfl

theorem rg_ref03_In (T : Tabs) : ∀ (n : Nat), (∀ {H : Heap} {a0 : Tm} {a1 : Int} {a2 : Int} {a3 : Tm} {r0 : Tm} (hm : ref03_In n a0 a1 a2 a3 = some r0), ACall Tryd.prog T 90 [Tm.av a0, AV.sc (.int .i64 a1), AV.sc (.int .i64 a2), Tm.av a3] H (Tm.av r0) H) := by
  intro n
  induction n with
  | zero =>
    skip
    all_goals
      intros
      rename_i hm
      cases hm
  | succ n ih =>
    intro H a0 a1 a2 a3 r0 hm
    rw [ref03_In] at hm
    refine ACallP.intro (fn := Tryd.f90) Tryd.func90 rfl enters90 (Nat.le_of_ble_eq_true rfl) ?_
    refine AWp.sr [] fun K1 hk2 => ?_
    simp
    apply hk2
    refine AWp.seqK fun K3 hk4 => ?_
    refine AWp.sr [] fun K5 hk6 => ?_
    simp
    apply hk6
    refine AWp.condK fun A7 B8 ga9 gb10 => ?_
    rcases ite_some hm with ⟨hc11, hm12⟩ | ⟨hc11, hm13⟩
    · clear hm
      simp [hc11]
      apply ga9
      refine AWp.seqK fun K14 hk15 => ?_
      refine AWp.sr [] fun K16 hk17 => ?_
      simp [hc11]
      apply hk17
      refine AWp.condK fun A18 B19 ga20 gb21 => ?_
      rcases ite_some hm12 with ⟨hc22, hm23⟩ | ⟨hc22, hm24⟩
      · clear hm12
        simp [hc11, hc22]
        apply ga20
        refine AWp.sr [] fun K25 hk26 => ?_
        obtain ⟨x27, hx28, hm29⟩ := bind1_some hm23
        clear hm23
        try dsimp only at hm29
        simp [hc11, hc22]
        refine CallAt.fn (r_ref03_Up T hx28) ?_
        simp [hc11, hc22]
        apply hk26
        refine AWp.ret ?_
        obtain rfl := Option.some.inj hm29
        simp [retQ, hc11, hc22]
      clear hm12
      simp [hc11, hc22]
      apply gb21
      refine AWp.skip ?_
      apply hk15
      refine AWp.seqK fun K30 hk31 => ?_
      refine AWp.sr [] fun K32 hk33 => ?_
      simp [hc11, hc22]
      apply hk33
      refine AWp.condK fun A34 B35 ga36 gb37 => ?_
      rcases ite_some hm24 with ⟨hc38, hm39⟩ | ⟨hc38, hm40⟩
      rotate_left
      · clear hm24
        simp [hc11, hc22, hc38]
        apply gb37
        refine AWp.skip ?_
        apply hk31
        refine AWp.sr [] fun K41 hk42 => ?_
        simp [hc11, hc22, hc38]
        apply hk42
        refine AWp.ret ?_
        obtain rfl := Option.some.inj hm40
        simp [retQ, hc11, hc22, hc38]
      clear hm24
      simp [hc11, hc22, hc38]
      apply ga36
      refine AWp.sr [] fun K43 hk44 => ?_
      obtain ⟨x45, hx46, hm47⟩ := bind1_some hm39
      clear hm39
      try dsimp only at hm47
      simp [hc11, hc22, hc38]
      refine CallAt.fn (r_ref02_Var T hx46) ?_
      simp [hc11, hc22, hc38]
      apply hk44
      refine AWp.ret ?_
      obtain rfl := Option.some.inj hm47
      simp [retQ, hc11, hc22, hc38]
    clear hm
    simp [hc11]
    apply gb10
    refine AWp.skip ?_
    apply hk4
    refine AWp.sr [] fun K48 hk49 => ?_
    simp [hc11]
    apply hk49
    refine AWp.seqK fun K50 hk51 => ?_
    refine AWp.sr [] fun K52 hk53 => ?_
    simp [hc11]
    apply hk53
    obtain ⟨hok54, hm55⟩ := chk_some hm13
    clear hm13
    obtain ⟨F56, hF57, hm58⟩ := joinB_some hm55
    clear hm55
    try dsimp only at hm58
    obtain ⟨out59, hl60, hmB61⟩ := bind1_some hm58
    clear hm58
    refine AWp.blockK fun Q62 nn63 ne64 nx65 nr66 => ?_
    refine AWp.loopF (fun n67 fr h => ∃ (i68 : Nat) (j69 : Int) (v70 : (List Tm)) (tg0_71 : Tag) (g4_71 : Nat) (g7_71 : Nat) (g8_71 : Nat) (g9_71 : Nat), H = h ∧ (fr.env 1 = AV.sc (.int .i64 a1) ∧ fr.env 2 = AV.sc (.int .i64 a2) ∧ fr.env 4 = AV.lptr 4 g4_71 0 ∧ fr.env 7 = AV.lptr 7 g7_71 0 ∧ fr.env 8 = AV.lptr 8 g8_71 0 ∧ fr.env 9 = AV.lptr 9 g9_71 0 ∧ fr.env 45 = AV.slice .frz (List.map Tm.av a0.args) ∧ fr.env 46 = AV.sc (.int .i64 (llen a0.args)) ∧ fr.env 47 = AV.sc (.int .i64 j69) ∧ fr.gen 4 = g4_71 ∧ fr.box 4 = some [AV.sc (.int .i64 a0.kind), AV.sc (.int .i64 a0.index), AV.sc (.int .i64 a0.typeF.kind), AV.slice .frz (List.map Ty.av a0.typeF.args), AV.slice .frz (List.map Tm.av a0.args)] ∧ fr.gen 7 = g7_71 ∧ fr.box 7 = some [AV.sc (.int .i64 a3.kind), AV.sc (.int .i64 a3.index), AV.sc (.int .i64 a3.typeF.kind), AV.slice .frz (List.map Ty.av a3.typeF.args), AV.slice .frz (List.map Tm.av a3.args)] ∧ fr.gen 8 = g8_71 ∧ fr.box 8 = some [AV.sc (.int .i64 0), AV.sc (.int .i64 0), AV.sc (.int .i64 0), AV.slice .full [], AV.slice .full []] ∧ fr.gen 9 = g9_71 ∧ fr.box 9 = some [AV.sc (.int .i64 a0.kind), AV.sc (.int .i64 a0.index), AV.sc (.int .i64 a0.typeF.kind), AV.slice .frz (List.map Ty.av a0.typeF.args), AV.slice tg0_71 (List.map Tm.av v70)]) ∧ OwnT fr.tab fr.tgen [62] tg0_71 (List.length v70) ∧ j69 = (i68 : Int) ∧ i68 + n67 = List.length a0.args ∧ forR F56 (List.drop i68 a0.args) i68 v70 = some out59) (List.length a0.args) ?_ ?_
    · refine ⟨0, 0, [], .full, 1, 1, 1, 1, ?_, ⟨?_, ?_, ?_, ?_, ?_, ?_, ?_, ?_, ?_, ?_, ?_, ?_, ?_, ?_, ?_, ?_, ?_⟩, OwnT.full, rfl, (by simp), hl60⟩ <;> first | rfl | simp [hc11]
    rintro n67 fr71 h71 ⟨i68, j69, v70, tg0_71, g4_71, g7_71, g8_71, g9_71, rfl, E71, o0_71, hj72, hi73, hl60⟩ K74 hK75
    rcases n67 with _ | n67
    · have hlt76 := ilt_notJ (l := a0.args) hj72 (by omega)
      refine AWp.sr [] fun K77 hk78 => ?_
      simp [E71, hlt76, hc11]
      apply hk78
      refine AWp.seqK fun K79 hk80 => ?_
      refine AWp.condK fun A81 B82 ga83 gb84 => ?_
      simp [E71, hlt76, hc11]
      apply gb84
      refine AWp.exit ?_
      apply ne64
      rw [List.drop_eq_nil_of_le (by omega), forR_nil] at hl60
      obtain rfl := Option.some.inj hl60
      rw [sumK_inl] at hmB61
      try dsimp only at hmB61
      apply hk51
      refine AWp.sr [] fun K85 hk86 => ?_
      simp [E71, hlt76, hc11]
      apply hk86
      refine AWp.ret ?_
      obtain rfl := Option.some.inj hmB61
      simp [retQ, E71, hlt76, hc11]
    have hlt76 := ilt_ofJ (l := a0.args) hj72 (by omega)
    obtain ⟨x87, hdn67, hg88⟩ := drop_ltJ (l := a0.args) hj72 (by omega)
    rw [hdn67, forR_cons] at hl60
    obtain ⟨c89, hb90, hk91⟩ := bind1_some hl60
    clear hl60
    rw [hF57, ← hj72] at hb90
    try dsimp only at hb90
    refine AWp.sr [] fun K92 hk93 => ?_
    simp [E71, hlt76, hg88, hc11]
    apply hk93
    refine AWp.seqK fun K94 hk95 => ?_
    refine AWp.condK fun A96 B97 ga98 gb99 => ?_
    simp [E71, hlt76, hg88, hc11]
    apply ga98
    refine AWp.skip ?_
    apply hk95
    refine AWp.seqK fun K100 hk101 => ?_
    refine AWp.blockK fun Q102 nn103 ne104 nx105 nr106 => ?_
    refine AWp.sr [] fun K107 hk108 => ?_
    simp [E71, hlt76, hg88, hc11]
    apply hk108
    refine AWp.regionD [] false mixed (by decide +kernel) (by decide +kernel) ?_
    obtain ⟨x109, hx110, hm111⟩ := bind1_some hb90
    clear hb90
    try dsimp only at hm111
    simp [E71, hlt76, hg88, hc11]
    refine CallAtD.fn (r_ref03_below T hx110) (by simp) ?_
    obtain ⟨x112, hx113, hm114⟩ := bind1_some hm111
    clear hm111
    try dsimp only at hm114
    simp [E71, hlt76, hg88, hc11]
    refine CallAtD.fn (ih hx113) (by simp) ?_
    obtain ⟨ha434, hm115⟩ := chk_some hm114
    clear hm114
    simp [E71, hlt76, hg88, hc11]
    refine AppAt.own (f := Tm.av) v70 [x112] o0_71 ap26 (by intro x; simp) ha434 (by first | rfl | simp) (by first | rfl | simp) ?_
    simp [E71, hlt76, hg88, hc11]
    apply nn103
    apply hk101
    refine AWp.region [] (by decide +kernel) ?_
    simp [E71, hlt76, hg88, hc11]
    obtain rfl := Option.some.inj hm115
    rw [ctlK_next] at hk91
    refine hK75 _ _ n67 (Nat.lt_succ_self _) ⟨(i68 + 1), (iadd .i64 j69 1), (lapp v70 [x112]), (.loc 62 (fr71.tgen 62 + 1)), g4_71, g7_71, g8_71, g9_71, ?_, ⟨?_, ?_, ?_, ?_, ?_, ?_, ?_, ?_, ?_, ?_, ?_, ?_, ?_, ?_, ?_, ?_, ?_⟩, (OwnT.mono (D := [62]) (OwnT.new (D := [62]) (d := 62) (by decide)) (by decide)), (iadd_idxJ hj72 (by omega) hok54), (by omega), hk91⟩ <;> first | rfl | simp [E71, hlt76, hg88, hc11]
theorem r_ref03_In (T : Tabs) {H : Heap} {a0 : Tm} {a1 : Int} {a2 : Int} {a3 : Tm} {r0 : Tm} {n : Nat} (hm : ref03_In n a0 a1 a2 a3 = some r0) : ACall Tryd.prog T 90 [Tm.av a0, AV.sc (.int .i64 a1), AV.sc (.int .i64 a2), Tm.av a3] H (Tm.av r0) H := (rg_ref03_In T n) hm

theorem enters61 : entersB Tryd.prog 61 = true := by kernel_rfl

theorem rg_ref07_In (T : Tabs) : ∀ (n : Nat), (∀ {H : Heap} {a0 : Fm} {a1 : Int} {a2 : Int} {a3 : Tm} {r0 : Fm} (hm : ref07_In n a0 a1 a2 a3 = some r0), ACall Tryd.prog T 61 [Fm.av a0, AV.sc (.int .i64 a1), AV.sc (.int .i64 a2), Tm.av a3] H (Fm.av r0) H) := by
  intro n
  induction n with
  | zero =>
    skip
    all_goals
      intros
      rename_i hm
      cases hm
  | succ n ih =>
    intro H a0 a1 a2 a3 r0 hm
    rw [ref07_In] at hm
    refine ACallP.intro (fn := Tryd.f61) Tryd.func61 rfl enters61 (Nat.le_of_ble_eq_true rfl) ?_
    refine AWp.sr [] fun K1 hk2 => ?_
    simp
    apply hk2
    refine AWp.sr [] fun K3 hk4 => ?_
    simp
    apply hk4
    refine AWp.seqK fun K5 hk6 => ?_
    refine AWp.sr [] fun K7 hk8 => ?_
    simp
    apply hk8
    obtain ⟨hok9, hm10⟩ := chk_some hm
    clear hm
    obtain ⟨F11, hF12, hm13⟩ := joinB_some hm10
    clear hm10
    try dsimp only at hm13
    obtain ⟨out14, hl15, hmB16⟩ := bind1_some hm13
    clear hm13
    refine AWp.blockK fun Q17 nn18 ne19 nx20 nr21 => ?_
    refine AWp.loopF (fun n22 fr h => ∃ (i23 : Nat) (j24 : Int) (v25 : (List Tm)) (tg0_26 : Tag) (g4_26 : Nat) (g7_26 : Nat) (g8_26 : Nat) (g9_26 : Nat), H = h ∧ (fr.env 1 = AV.sc (.int .i64 a1) ∧ fr.env 2 = AV.sc (.int .i64 a2) ∧ fr.env 4 = AV.lptr 4 g4_26 0 ∧ fr.env 7 = AV.lptr 7 g7_26 0 ∧ fr.env 8 = AV.lptr 8 g8_26 0 ∧ fr.env 9 = AV.lptr 9 g9_26 0 ∧ fr.env 20 = AV.slice .frz (List.map Tm.av a0.terms) ∧ fr.env 21 = AV.sc (.int .i64 (llen a0.terms)) ∧ fr.env 22 = AV.sc (.int .i64 j24) ∧ fr.gen 4 = g4_26 ∧ fr.box 4 = some [AV.sc (.int .i64 a0.kind), AV.sc (.int .i64 a0.typeF.kind), AV.slice .frz (List.map Ty.av a0.typeF.args), AV.slice .frz (List.map Tm.av a0.terms), AV.slice .frz (List.map Fm.av a0.args)] ∧ fr.gen 7 = g7_26 ∧ fr.box 7 = some [AV.sc (.int .i64 a3.kind), AV.sc (.int .i64 a3.index), AV.sc (.int .i64 a3.typeF.kind), AV.slice .frz (List.map Ty.av a3.typeF.args), AV.slice .frz (List.map Tm.av a3.args)] ∧ fr.gen 8 = g8_26 ∧ fr.box 8 = some [AV.sc (.int .i64 0), AV.sc (.int .i64 0), AV.slice .full [], AV.slice .full [], AV.slice .full []] ∧ fr.gen 9 = g9_26 ∧ fr.box 9 = some [AV.sc (.int .i64 a0.kind), AV.sc (.int .i64 a0.typeF.kind), AV.slice .frz (List.map Ty.av a0.typeF.args), AV.slice tg0_26 (List.map Tm.av v25), AV.slice .full []]) ∧ OwnT fr.tab fr.tgen [34] tg0_26 (List.length v25) ∧ j24 = (i23 : Int) ∧ i23 + n22 = List.length a0.terms ∧ forR F11 (List.drop i23 a0.terms) i23 v25 = some out14) (List.length a0.terms) ?_ ?_
    · refine ⟨0, 0, [], .full, 1, 1, 1, 1, ?_, ⟨?_, ?_, ?_, ?_, ?_, ?_, ?_, ?_, ?_, ?_, ?_, ?_, ?_, ?_, ?_, ?_, ?_⟩, OwnT.full, rfl, (by simp), hl15⟩ <;> first | rfl | simp
    rintro n22 fr26 h26 ⟨i23, j24, v25, tg0_26, g4_26, g7_26, g8_26, g9_26, rfl, E26, o0_26, hj27, hi28, hl15⟩ K29 hK30
    rcases n22 with _ | n22
    rotate_left
    · have hlt31 := ilt_ofJ (l := a0.terms) hj27 (by omega)
      obtain ⟨x32, hdn22, hg33⟩ := drop_ltJ (l := a0.terms) hj27 (by omega)
      rw [hdn22, forR_cons] at hl15
      obtain ⟨c34, hb35, hk36⟩ := bind1_some hl15
      clear hl15
      rw [hF12, ← hj27] at hb35
      try dsimp only at hb35
      refine AWp.sr [] fun K37 hk38 => ?_
      simp [E26, hlt31, hg33]
      apply hk38
      refine AWp.seqK fun K39 hk40 => ?_
      refine AWp.condK fun A41 B42 ga43 gb44 => ?_
      simp [E26, hlt31, hg33]
      apply ga43
      refine AWp.skip ?_
      apply hk40
      refine AWp.seqK fun K45 hk46 => ?_
      refine AWp.blockK fun Q47 nn48 ne49 nx50 nr51 => ?_
      refine AWp.sr [] fun K52 hk53 => ?_
      simp [E26, hlt31, hg33]
      apply hk53
      refine AWp.regionD [] false mixed (by decide +kernel) (by decide +kernel) ?_
      obtain ⟨x54, hx55, hm56⟩ := bind1_some hb35
      clear hb35
      try dsimp only at hm56
      simp [E26, hlt31, hg33]
      refine CallAtD.fn (r_ref03_In T hx55) (by simp) ?_
      obtain ⟨ha236, hm57⟩ := chk_some hm56
      clear hm56
      simp [E26, hlt31, hg33]
      refine AppAt.own (f := Tm.av) v25 [x54] o0_26 ap26 (by intro x; simp) ha236 (by first | rfl | simp) (by first | rfl | simp) ?_
      simp [E26, hlt31, hg33]
      apply nn48
      apply hk46
      refine AWp.region [] (by decide +kernel) ?_
      simp [E26, hlt31, hg33]
      obtain rfl := Option.some.inj hm57
      rw [ctlK_next] at hk36
      refine hK30 _ _ n22 (Nat.lt_succ_self _) ⟨(i23 + 1), (iadd .i64 j24 1), (lapp v25 [x54]), (.loc 34 (fr26.tgen 34 + 1)), g4_26, g7_26, g8_26, g9_26, ?_, ⟨?_, ?_, ?_, ?_, ?_, ?_, ?_, ?_, ?_, ?_, ?_, ?_, ?_, ?_, ?_, ?_, ?_⟩, (OwnT.mono (D := [34]) (OwnT.new (D := [34]) (d := 34) (by decide)) (by decide)), (iadd_idxJ hj27 (by omega) hok9), (by omega), hk36⟩ <;> first | rfl | simp [E26, hlt31, hg33]
    have hlt31 := ilt_notJ (l := a0.terms) hj27 (by omega)
    refine AWp.sr [] fun K58 hk59 => ?_
    simp [E26, hlt31]
    apply hk59
    refine AWp.seqK fun K60 hk61 => ?_
    refine AWp.condK fun A62 B63 ga64 gb65 => ?_
    simp [E26, hlt31]
    apply gb65
    refine AWp.exit ?_
    apply ne19
    rw [List.drop_eq_nil_of_le (by omega), forR_nil] at hl15
    obtain rfl := Option.some.inj hl15
    rw [sumK_inl] at hmB16
    try dsimp only at hmB16
    apply hk6
    refine AWp.seqK fun K66 hk67 => ?_
    refine AWp.sr [] fun K68 hk69 => ?_
    simp [E26, hlt31]
    apply hk69
    obtain ⟨hok70, hm71⟩ := chk_some hmB16
    clear hmB16
    obtain ⟨F72, hF73, hm74⟩ := joinB_some hm71
    clear hm71
    try dsimp only at hm74
    obtain ⟨out75, hl76, hmB77⟩ := bind1_some hm74
    clear hm74
    refine AWp.blockK fun Q78 nn79 ne80 nx81 nr82 => ?_
    refine AWp.loopF (fun n83 fr h => ∃ (i84 : Nat) (j85 : Int) (v86 : (List Fm)) (tg0_87 : Tag) (tg1_87 : Tag) (g4_87 : Nat) (g7_87 : Nat) (g8_87 : Nat) (g9_87 : Nat), H = h ∧ (fr.env 1 = AV.sc (.int .i64 a1) ∧ fr.env 2 = AV.sc (.int .i64 a2) ∧ fr.env 4 = AV.lptr 4 g4_87 0 ∧ fr.env 7 = AV.lptr 7 g7_87 0 ∧ fr.env 8 = AV.lptr 8 g8_87 0 ∧ fr.env 9 = AV.lptr 9 g9_87 0 ∧ fr.env 38 = AV.slice .frz (List.map Fm.av a0.args) ∧ fr.env 39 = AV.sc (.int .i64 (llen a0.args)) ∧ fr.env 40 = AV.sc (.int .i64 j85) ∧ fr.gen 4 = g4_87 ∧ fr.box 4 = some [AV.sc (.int .i64 a0.kind), AV.sc (.int .i64 a0.typeF.kind), AV.slice .frz (List.map Ty.av a0.typeF.args), AV.slice .frz (List.map Tm.av a0.terms), AV.slice .frz (List.map Fm.av a0.args)] ∧ fr.gen 7 = g7_87 ∧ fr.box 7 = some [AV.sc (.int .i64 a3.kind), AV.sc (.int .i64 a3.index), AV.sc (.int .i64 a3.typeF.kind), AV.slice .frz (List.map Ty.av a3.typeF.args), AV.slice .frz (List.map Tm.av a3.args)] ∧ fr.gen 8 = g8_87 ∧ fr.box 8 = some [AV.sc (.int .i64 0), AV.sc (.int .i64 0), AV.slice .full [], AV.slice .full [], AV.slice .full []] ∧ fr.gen 9 = g9_87 ∧ fr.box 9 = some [AV.sc (.int .i64 a0.kind), AV.sc (.int .i64 a0.typeF.kind), AV.slice .frz (List.map Ty.av a0.typeF.args), AV.slice tg0_87 (List.map Tm.av v25), AV.slice tg1_87 (List.map Fm.av v86)]) ∧ OwnT fr.tab fr.tgen [34] tg0_87 (List.length v25) ∧ OwnT fr.tab fr.tgen [55] tg1_87 (List.length v86) ∧ j85 = (i84 : Int) ∧ i84 + n83 = List.length a0.args ∧ forR F72 (List.drop i84 a0.args) i84 v86 = some out75) (List.length a0.args) ?_ ?_
    · refine ⟨0, 0, [], tg0_26, .full, g4_26, g7_26, g8_26, g9_26, ?_, ⟨?_, ?_, ?_, ?_, ?_, ?_, ?_, ?_, ?_, ?_, ?_, ?_, ?_, ?_, ?_, ?_, ?_⟩, (OwnT.mono (D := [34]) o0_26 (by decide)), OwnT.full, rfl, (by simp), hl76⟩ <;> first | rfl | simp [E26, hlt31]
    rintro n83 fr87 h87 ⟨i84, j85, v86, tg0_87, tg1_87, g4_87, g7_87, g8_87, g9_87, rfl, E87, o0_87, o1_87, hj88, hi89, hl76⟩ K90 hK91
    rcases n83 with _ | n83
    · have hlt92 := ilt_notJ (l := a0.args) hj88 (by omega)
      refine AWp.sr [] fun K93 hk94 => ?_
      simp [E87, hlt31, hlt92]
      apply hk94
      refine AWp.seqK fun K95 hk96 => ?_
      refine AWp.condK fun A97 B98 ga99 gb100 => ?_
      simp [E87, hlt31, hlt92]
      apply gb100
      refine AWp.exit ?_
      apply ne80
      rw [List.drop_eq_nil_of_le (by omega), forR_nil] at hl76
      obtain rfl := Option.some.inj hl76
      rw [sumK_inl] at hmB77
      try dsimp only at hmB77
      apply hk67
      refine AWp.sr [] fun K101 hk102 => ?_
      simp [E87, hlt31, hlt92]
      apply hk102
      refine AWp.ret ?_
      obtain rfl := Option.some.inj hmB77
      simp [retQ, E87, hlt31, hlt92]
    have hlt92 := ilt_ofJ (l := a0.args) hj88 (by omega)
    obtain ⟨x103, hdn83, hg104⟩ := drop_ltJ (l := a0.args) hj88 (by omega)
    rw [hdn83, forR_cons] at hl76
    obtain ⟨c105, hb106, hk107⟩ := bind1_some hl76
    clear hl76
    rw [hF73, ← hj88] at hb106
    try dsimp only at hb106
    refine AWp.sr [] fun K108 hk109 => ?_
    simp [E87, hlt31, hlt92, hg104]
    apply hk109
    refine AWp.seqK fun K110 hk111 => ?_
    refine AWp.condK fun A112 B113 ga114 gb115 => ?_
    simp [E87, hlt31, hlt92, hg104]
    apply ga114
    refine AWp.skip ?_
    apply hk111
    refine AWp.seqK fun K116 hk117 => ?_
    refine AWp.blockK fun Q118 nn119 ne120 nx121 nr122 => ?_
    refine AWp.sr [] fun K123 hk124 => ?_
    simp [E87, hlt31, hlt92, hg104]
    apply hk124
    refine AWp.regionD [] false mixed (by decide +kernel) (by decide +kernel) ?_
    obtain ⟨x125, hx126, hm127⟩ := bind1_some hb106
    clear hb106
    try dsimp only at hm127
    simp [E87, hlt31, hlt92, hg104]
    refine CallAtD.fn (r_ref07_below T hx126) (by simp) ?_
    obtain ⟨x128, hx129, hm130⟩ := bind1_some hm127
    clear hm127
    try dsimp only at hm130
    simp [E87, hlt31, hlt92, hg104]
    refine CallAtD.fn (ih hx129) (by simp) ?_
    obtain ⟨ha511, hm131⟩ := chk_some hm130
    clear hm130
    simp [E87, hlt31, hlt92, hg104]
    refine AppAt.own (f := Fm.av) v86 [x128] o1_87 ap27 (by intro x; simp) ha511 (by first | rfl | simp) (by first | rfl | simp) ?_
    simp [E87, hlt31, hlt92, hg104]
    apply nn119
    apply hk117
    refine AWp.region [] (by decide +kernel) ?_
    simp [E87, hlt31, hlt92, hg104]
    obtain rfl := Option.some.inj hm131
    rw [ctlK_next] at hk107
    refine hK91 _ _ n83 (Nat.lt_succ_self _) ⟨(i84 + 1), (iadd .i64 j85 1), (lapp v86 [x128]), tg0_87, (.loc 55 (fr87.tgen 55 + 1)), g4_87, g7_87, g8_87, g9_87, ?_, ⟨?_, ?_, ?_, ?_, ?_, ?_, ?_, ?_, ?_, ?_, ?_, ?_, ?_, ?_, ?_, ?_, ?_⟩, (OwnT.mono (D := [34]) (OwnT.other o0_87 o1_87 (by decide) (by decide)) (by decide)), (OwnT.mono (D := [55]) (OwnT.new (D := [55]) (d := 55) (by decide)) (by decide)), (iadd_idxJ hj88 (by omega) hok70), (by omega), hk107⟩ <;> first | rfl | simp [E87, hlt31, hlt92, hg104]
theorem r_ref07_In (T : Tabs) {H : Heap} {a0 : Fm} {a1 : Int} {a2 : Int} {a3 : Tm} {r0 : Fm} {n : Nat} (hm : ref07_In n a0 a1 a2 a3 = some r0) : ACall Tryd.prog T 61 [Fm.av a0, AV.sc (.int .i64 a1), AV.sc (.int .i64 a2), Tm.av a3] H (Fm.av r0) H := (rg_ref07_In T n) hm

theorem enters29 : entersB Tryd.prog 29 = true := by kernel_rfl

theorem r_ref07_Put (T : Tabs) {H : Heap} {a0 : Fm} {a1 : Int} {a2 : Tm} {r0 : Fm} {r1 : Int} (hm : ref07_Put a0 a1 a2 = some (r0, r1)) : ACall Tryd.prog T 29 [Fm.av a0, AV.sc (.int .i64 a1), Tm.av a2] H (AV.tuple [Fm.av r0, AV.sc (.int .i64 r1)]) H := by
  rw [ref07_Put] at hm
  refine ACallP.intro (fn := Tryd.f29) Tryd.func29 rfl enters29 (Nat.le_of_ble_eq_true rfl) ?_
  refine AWp.sr [] fun K1 hk2 => ?_
  simp
  apply hk2
  refine AWp.seqK fun K3 hk4 => ?_
  refine AWp.sr [] fun K5 hk6 => ?_
  obtain ⟨x7, hx8, hm9⟩ := bind1_some hm
  clear hm
  try dsimp only at hm9
  simp
  refine CallAt.fn (r_ref07_Check T hx8) ?_
  simp
  apply hk6
  refine AWp.sr [] fun K10 hk11 => ?_
  simp
  apply hk11
  refine AWp.condK fun A12 B13 ga14 gb15 => ?_
  rcases ite_some hm9 with ⟨hc16, hm17⟩ | ⟨hc16, hm18⟩
  · clear hm9
    simp [hc16]
    apply ga14
    refine AWp.sr [] fun K19 hk20 => ?_
    simp [hc16]
    apply hk20
    refine AWp.ret ?_
    simp only [Option.some.injEq, Prod.mk.injEq] at hm17
    obtain ⟨rfl, rfl⟩ := hm17
    simp [retQ, hc16]
  clear hm9
  simp [hc16]
  apply gb15
  refine AWp.skip ?_
  apply hk4
  refine AWp.seqK fun K21 hk22 => ?_
  refine AWp.seqP (fun fr h => ∃ (g3_26 : Nat) (g5_26 : Nat) (g6_26 : Nat), H = h ∧ (fr.env 1 = AV.sc (.int .i64 a1) ∧ fr.env 3 = AV.lptr 3 g3_26 0 ∧ fr.env 5 = AV.lptr 5 g5_26 0 ∧ fr.env 6 = AV.lptr 6 g6_26 0 ∧ fr.env 21 = AV.sc (.bool (sel (ilt a1 0) true (igt a1 4096))) ∧ fr.gen 3 = g3_26 ∧ fr.box 3 = some [AV.sc (.int .i64 a0.kind), AV.sc (.int .i64 a0.typeF.kind), AV.slice .frz (List.map Ty.av a0.typeF.args), AV.slice .frz (List.map Tm.av a0.terms), AV.slice .frz (List.map Fm.av a0.args)] ∧ fr.gen 5 = g5_26 ∧ fr.box 5 = some [AV.sc (.int .i64 a2.kind), AV.sc (.int .i64 a2.index), AV.sc (.int .i64 a2.typeF.kind), AV.slice .frz (List.map Ty.av a2.typeF.args), AV.slice .frz (List.map Tm.av a2.args)] ∧ fr.gen 6 = g6_26 ∧ fr.box 6 = some [AV.sc (.int .i64 0), AV.sc (.int .i64 0), AV.slice .full [], AV.slice .full [], AV.slice .full []])) (fun K23 hk24 => ?_) ?_
  · refine AWp.region [] (by decide +kernel) ?_
    rcases Bool.eq_false_or_eq_true (ilt a1 0) with hc25 | hc25
    · simp [hc16, hc25]
      refine hk24 _ _ ⟨1, 1, 1, ?_, ⟨?_, ?_, ?_, ?_, ?_, ?_, ?_, ?_, ?_, ?_, ?_⟩⟩ <;> first | rfl | simp [hc16, hc25]
    simp [hc16, hc25]
    refine hk24 _ _ ⟨1, 1, 1, ?_, ⟨?_, ?_, ?_, ?_, ?_, ?_, ?_, ?_, ?_, ?_, ?_⟩⟩ <;> first | rfl | simp [hc16, hc25]
  rintro fr26 h26 ⟨g3_26, g5_26, g6_26, rfl, E26⟩
  refine AWp.condK fun A27 B28 ga29 gb30 => ?_
  rcases ite_some hm18 with ⟨hc31, hm32⟩ | ⟨hc31, hm33⟩
  · clear hm18
    simp [E26, hc16, hc31]
    apply ga29
    refine AWp.sr [] fun K34 hk35 => ?_
    simp [E26, hc16, hc31]
    apply hk35
    refine AWp.ret ?_
    simp only [Option.some.injEq, Prod.mk.injEq] at hm32
    obtain ⟨rfl, rfl⟩ := hm32
    simp [retQ, E26, hc16, hc31]
  clear hm18
  simp [E26, hc16, hc31]
  apply gb30
  refine AWp.skip ?_
  apply hk22
  refine AWp.seqK fun K36 hk37 => ?_
  refine AWp.sr [] fun K38 hk39 => ?_
  obtain ⟨x40, hx41, hm42⟩ := bind1_some hm33
  clear hm33
  try dsimp only at hm42
  simp [E26, hc16, hc31]
  refine CallAt.fn (r_ref02_Check T hx41) ?_
  simp [E26, hc16, hc31]
  apply hk39
  refine AWp.sr [] fun K43 hk44 => ?_
  simp [E26, hc16, hc31]
  apply hk44
  refine AWp.condK fun A45 B46 ga47 gb48 => ?_
  rcases ite_some hm42 with ⟨hc49, hm50⟩ | ⟨hc49, hm51⟩
  · clear hm42
    simp [E26, hc16, hc31, hc49]
    apply ga47
    refine AWp.sr [] fun K52 hk53 => ?_
    simp [E26, hc16, hc31, hc49]
    apply hk53
    refine AWp.ret ?_
    simp only [Option.some.injEq, Prod.mk.injEq] at hm50
    obtain ⟨rfl, rfl⟩ := hm50
    simp [retQ, E26, hc16, hc31, hc49]
  clear hm42
  simp [E26, hc16, hc31, hc49]
  apply gb48
  refine AWp.skip ?_
  apply hk37
  refine AWp.seqK fun K54 hk55 => ?_
  obtain ⟨j56, hj57, hm58⟩ := joinB_some hm51
  clear hm51
  refine AWp.seqP (fun fr h => ∃ (v59 : Bool) (g3_71 : Nat) (g5_71 : Nat) (g6_71 : Nat), H = h ∧ (fr.env 1 = AV.sc (.int .i64 a1) ∧ fr.env 3 = AV.lptr 3 g3_71 0 ∧ fr.env 5 = AV.lptr 5 g5_71 0 ∧ fr.env 6 = AV.lptr 6 g6_71 0 ∧ fr.env 36 = AV.sc (.bool v59) ∧ fr.gen 3 = g3_71 ∧ fr.box 3 = some [AV.sc (.int .i64 a0.kind), AV.sc (.int .i64 a0.typeF.kind), AV.slice .frz (List.map Ty.av a0.typeF.args), AV.slice .frz (List.map Tm.av a0.terms), AV.slice .frz (List.map Fm.av a0.args)] ∧ fr.gen 5 = g5_71 ∧ fr.box 5 = some [AV.sc (.int .i64 a2.kind), AV.sc (.int .i64 a2.index), AV.sc (.int .i64 a2.typeF.kind), AV.slice .frz (List.map Ty.av a2.typeF.args), AV.slice .frz (List.map Tm.av a2.args)] ∧ fr.gen 6 = g6_71 ∧ fr.box 6 = some [AV.sc (.int .i64 0), AV.sc (.int .i64 0), AV.slice .full [], AV.slice .full [], AV.slice .full []]) ∧ j56 v59 = some (r0, r1)) (fun K60 hk61 => ?_) ?_
  · refine AWp.region [] (by decide +kernel) ?_
    obtain ⟨x62, hx63, hm64⟩ := bind1_some hm58
    clear hm58
    try dsimp only at hm64
    simp [E26, hc16, hc31, hc49]
    refine CallAt.fn (r_ref07_Least T hx63) ?_
    rcases ite_some hm64 with ⟨hc65, hm66⟩ | ⟨hc65, hm67⟩
    rotate_left
    · clear hm64
      simp [E26, hc16, hc31, hc49, hc65]
      refine hk61 _ _ ⟨true, g3_26, g5_26, g6_26, ?_, ⟨?_, ?_, ?_, ?_, ?_, ?_, ?_, ?_, ?_, ?_, ?_⟩, hm67⟩ <;> first | rfl | simp [E26, hc16, hc31, hc49, hc65]
    clear hm64
    obtain ⟨x68, hx69, hm70⟩ := bind1_some hm66
    clear hm66
    try dsimp only at hm70
    simp [E26, hc16, hc31, hc49, hc65]
    refine CallAt.fn (r_ref03_Least T hx69) ?_
    simp [E26, hc16, hc31, hc49, hc65]
    refine hk61 _ _ ⟨(bnot x68), g3_26, g5_26, g6_26, ?_, ⟨?_, ?_, ?_, ?_, ?_, ?_, ?_, ?_, ?_, ?_, ?_⟩, hm70⟩ <;> first | rfl | simp [E26, hc16, hc31, hc49, hc65]
  clear hm58
  rintro fr71 h71 ⟨v59, g3_71, g5_71, g6_71, rfl, E71, hm72⟩
  subst hj57
  refine AWp.condK fun A73 B74 ga75 gb76 => ?_
  rcases ite_some hm72 with ⟨hc77, hm78⟩ | ⟨hc77, hm79⟩
  · clear hm72
    simp [E71, hc16, hc31, hc49, hc77]
    apply ga75
    refine AWp.sr [] fun K80 hk81 => ?_
    simp [E71, hc16, hc31, hc49, hc77]
    apply hk81
    refine AWp.ret ?_
    simp only [Option.some.injEq, Prod.mk.injEq] at hm78
    obtain ⟨rfl, rfl⟩ := hm78
    simp [retQ, E71, hc16, hc31, hc49, hc77]
  clear hm72
  simp [E71, hc16, hc31, hc49, hc77]
  apply gb76
  refine AWp.skip ?_
  apply hk55
  refine AWp.seqK fun K82 hk83 => ?_
  refine AWp.seqK fun K84 hk85 => ?_
  refine AWp.regionD [] false mixed (by decide +kernel) (by decide +kernel) ?_
  obtain ⟨x86, hx87, hm88⟩ := bind1_some hm79
  clear hm79
  try dsimp only at hm88
  simp [E71, hc16, hc31, hc49, hc77]
  refine CallAtD.fn (r_ref07_Count T hx87) (by simp) ?_
  obtain ⟨x89, hx90, hm91⟩ := bind1_some hm88
  clear hm88
  try dsimp only at hm91
  simp [E71, hc16, hc31, hc49, hc77]
  refine CallAtD.fn (r_ref07_times T hx90) (by simp) ?_
  obtain ⟨x92, hx93, hm94⟩ := bind1_some hm91
  clear hm91
  try dsimp only at hm94
  simp [E71, hc16, hc31, hc49, hc77]
  refine CallAtD.fn (r_ref02_Count T hx93) (by simp) ?_
  simp [E71, hc16, hc31, hc49, hc77]
  apply hk85
  refine AWp.condK fun A95 B96 ga97 gb98 => ?_
  rcases ite_some hm94 with ⟨hc99, hm100⟩ | ⟨hc99, hm101⟩
  · clear hm94
    simp [E71, hc16, hc31, hc49, hc77, hc99]
    apply ga97
    refine AWp.sr [] fun K102 hk103 => ?_
    simp [E71, hc16, hc31, hc49, hc77, hc99]
    apply hk103
    refine AWp.ret ?_
    simp only [Option.some.injEq, Prod.mk.injEq] at hm100
    obtain ⟨rfl, rfl⟩ := hm100
    simp [retQ, E71, hc16, hc31, hc49, hc77, hc99]
  clear hm94
  simp [E71, hc16, hc31, hc49, hc77, hc99]
  apply gb98
  refine AWp.skip ?_
  apply hk83
  refine AWp.sr [] fun K104 hk105 => ?_
  obtain ⟨x106, hx107, hm108⟩ := bind1_some hm101
  clear hm101
  try dsimp only at hm108
  simp [E71, hc16, hc31, hc49, hc77, hc99]
  refine CallAt.fn (r_ref07_In T hx107) ?_
  obtain ⟨x109, hx110, hm111⟩ := bind1_some hm108
  clear hm108
  try dsimp only at hm111
  simp [E71, hc16, hc31, hc49, hc77, hc99]
  refine CallAt.fn (r_ref07_Copy T hx110) ?_
  simp [E71, hc16, hc31, hc49, hc77, hc99]
  apply hk105
  refine AWp.ret ?_
  simp only [Option.some.injEq, Prod.mk.injEq] at hm111
  obtain ⟨rfl, rfl⟩ := hm111
  simp [retQ, E71, hc16, hc31, hc49, hc77, hc99]

theorem enters4 : entersB Tryd.prog 4 = true := by kernel_rfl

theorem r_law23_ContentKeeps (T : Tabs) (hT : T 0 = some (AV.agg (List.map (fun n => AV.sc (Value.int .i64 n)) tree_arities))) {a0 : (List Int)} {r0 : Bool} (hm : law23_ContentKeeps a0 = some r0) : ACallP Tryd.prog T 4 [AV.slice .frz (List.map (fun n => AV.sc (Value.int .i64 n)) a0)] [] (fun x _ => x = AV.sc (.bool r0)) := by
  rw [law23_ContentKeeps] at hm
  refine ACallP.intro (fn := Tryd.f4) Tryd.func4 rfl enters4 (Nat.le_of_ble_eq_true rfl) ?_
  refine AWp.sr [] fun K1 hk2 => ?_
  simp [hT]
  apply hk2
  refine AWp.seqK fun K3 hk4 => ?_
  obtain ⟨j5, hj6, hm7⟩ := joinB_some hm
  clear hm
  refine AWp.seqP (fun fr h => ∃ (v8 : Bool), ([] : Heap) = h ∧ (fr.env 0 = AV.slice .frz (List.map (fun n => AV.sc (Value.int .i64 n)) a0) ∧ fr.env 22 = AV.sc (.bool v8)) ∧ j5 v8 = some r0) (fun K9 hk10 => ?_) ?_
  · refine AWp.region [] (by decide +kernel) ?_
    obtain ⟨x11, hx12, hm13⟩ := bind1_some hm7
    clear hm7
    try dsimp only at hm13
    simp [hT]
    refine CallAt.fn (r_law23_awake T hT hx12) ?_
    rcases ite_some hm13 with ⟨hc14, hm15⟩ | ⟨hc14, hm16⟩
    rotate_left
    · clear hm13
      simp [hT, hc14]
      refine hk10 _ _ ⟨true, ?_, ⟨?_, ?_⟩, hm16⟩ <;> first | rfl | simp [hT, hc14]
    clear hm13
    obtain ⟨x17, hx18, hm19⟩ := bind1_some hm15
    clear hm15
    try dsimp only at hm19
    simp [hT, hc14]
    refine CallAt.fn (r_mk_Few T hx18) ?_
    simp [hT, hc14]
    refine hk10 _ _ ⟨(bnot x17), ?_, ⟨?_, ?_⟩, hm19⟩ <;> first | rfl | simp [hT, hc14]
  clear hm7
  rintro fr20 h20 ⟨v8, rfl, E20, hm21⟩
  subst hj6
  refine AWp.condK fun A22 B23 ga24 gb25 => ?_
  rcases ite_some hm21 with ⟨hc26, hm27⟩ | ⟨hc26, hm28⟩
  · clear hm21
    simp [E20, hT, hc26]
    apply ga24
    refine AWp.sr [] fun K29 hk30 => ?_
    obtain ⟨x31, hx32, hm33⟩ := bind1_some hm27
    clear hm27
    try dsimp only at hm33
    simp [E20, hT, hc26]
    refine CallAt.fn (r_law23_awake T hT hx32) ?_
    simp [E20, hT, hc26]
    apply hk30
    refine AWp.ret ?_
    obtain rfl := Option.some.inj hm33
    simp [retQ, E20, hT, hc26]
  clear hm21
  simp [E20, hT, hc26]
  apply gb25
  refine AWp.skip ?_
  apply hk4
  refine AWp.sr [] fun K34 hk35 => ?_
  obtain ⟨x36, hx37, hm38⟩ := bind1_some hm28
  clear hm28
  try dsimp only at hm38
  simp [E20, hT, hc26]
  refine CallAt.fn (r_mk_New T hx37) ?_
  simp [E20, hT, hc26]
  apply hk35
  refine AWp.sr [] fun K39 hk40 => ?_
  obtain ⟨x41, d42, hx43, hm44⟩ := bind2_some hm38
  clear hm38
  try dsimp only at hm44
  simp [E20, hT, hc26]
  refine CallAt.fn (r_mk_Context T (by first | exact ho | decide) hx43) ?_
  simp [E20, hT, hc26]
  apply hk40
  refine AWp.sr [] fun K45 hk46 => ?_
  obtain ⟨ha118, hm47⟩ := chk_some hm44
  clear hm44
  simp [E20, hT, hc26]
  refine AppAt.own (f := Ty.av) [] x41 (OwnT.full (D := [])) ap23 (by intro x; simp) ha118 (by first | rfl | simp) (by first | rfl | simp) ?_
  obtain ⟨x48, hx49, hm50⟩ := bind1_some hm47
  clear hm47
  try dsimp only at hm50
  simp [E20, hT, hc26]
  refine CallAt.fn (r_play_Nat T hx49) ?_
  obtain ⟨ha123, hm51⟩ := chk_some hm50
  clear hm50
  simp [E20, hT, hc26]
  refine AppAt.own (f := Ty.av) (lapp [] x41) [x48] (OwnT.new (D := [30]) (d := 30) (by decide)) ap23 (by intro x; simp) ha123 (by first | rfl | simp) (by first | rfl | simp) ?_
  obtain ⟨x52, d53, hx54, hm55⟩ := bind2_some hm51
  clear hm51
  try dsimp only at hm55
  simp [E20, hT, hc26]
  refine CallAt.fn (r_mk_Formula T (by first | exact ho | decide) hx54) ?_
  simp [E20, hT, hc26]
  apply hk46
  refine AWp.sr [] fun K56 hk57 => ?_
  obtain ⟨x58, x59, hx60, hm61⟩ := bind2_some hm55
  clear hm55
  try dsimp only at hm61
  simp [E20, hT, hc26]
  refine CallAt.fn (r_content_Type T hT hx60) ?_
  simp [E20, hT, hc26]
  apply hk57
  refine AWp.seqK fun K62 hk63 => ?_
  refine AWp.regionD [] false mixed (by decide +kernel) (by decide +kernel) ?_
  obtain ⟨x64, d65, hx66, hm67⟩ := bind2_some hm61
  clear hm61
  try dsimp only at hm67
  simp [E20, hT, hc26]
  refine CallAtD.fn (r_mk_Deck_Next T (by first | exact ho | decide) hx66) (by simp) ?_
  obtain ⟨x68, x69, hx70, hm71⟩ := bind2_some hm67
  clear hm67
  try dsimp only at hm71
  simp [E20, hT, hc26]
  refine CallAtD.fn (r_ref07_Lift T hx70) (by simp) ?_
  simp [E20, hT, hc26]
  apply hk63
  refine AWp.seqK fun K72 hk73 => ?_
  refine AWp.regionD [] false mixed (by decide +kernel) (by decide +kernel) ?_
  obtain ⟨x74, hx75, hm76⟩ := bind1_some hm71
  clear hm71
  try dsimp only at hm76
  simp [E20, hT, hc26]
  refine CallAtD.fn (r_play_Nat T hx75) (by simp) ?_
  obtain ⟨x77, d78, hx79, hm80⟩ := bind2_some hm76
  clear hm76
  try dsimp only at hm80
  simp [E20, hT, hc26]
  refine CallAtD.fn (r_mk_Term T (by first | exact ho | decide) hx79) (by simp) ?_
  obtain ⟨x81, x82, hx83, hm84⟩ := bind2_some hm80
  clear hm80
  try dsimp only at hm84
  simp [E20, hT, hc26]
  refine CallAtD.fn (r_ref07_Put T hx83) (by simp) ?_
  simp [E20, hT, hc26]
  apply hk73
  refine AWp.seqK fun K85 hk86 => ?_
  refine AWp.seqP (fun fr h => ∃ (g6_90 : Nat) (g8_90 : Nat) (g10_90 : Nat), hset [[]] 0 [AV.slice .frz (List.map (fun n => AV.sc (Value.int .i64 n)) d78.l), AV.sc (.int .i64 d78.atF)] = h ∧ (fr.env 6 = AV.lptr 6 g6_90 0 ∧ fr.env 7 = AV.sc (.int .i64 x59) ∧ fr.env 8 = AV.lptr 8 g8_90 0 ∧ fr.env 9 = AV.sc (.int .i64 x69) ∧ fr.env 10 = AV.lptr 10 g10_90 0 ∧ fr.env 11 = AV.sc (.int .i64 x82) ∧ fr.env 62 = AV.sc (.bool (sel (ine x69 0) true (ine x82 0))) ∧ fr.gen 6 = g6_90 ∧ fr.box 6 = some [AV.sc (.int .i64 x58.kind), AV.slice .frz (List.map Ty.av x58.args)] ∧ fr.gen 8 = g8_90 ∧ fr.box 8 = some [AV.sc (.int .i64 x68.kind), AV.sc (.int .i64 x68.typeF.kind), AV.slice .frz (List.map Ty.av x68.typeF.args), AV.slice .frz (List.map Tm.av x68.terms), AV.slice .frz (List.map Fm.av x68.args)] ∧ fr.gen 10 = g10_90 ∧ fr.box 10 = some [AV.sc (.int .i64 x81.kind), AV.sc (.int .i64 x81.typeF.kind), AV.slice .frz (List.map Ty.av x81.typeF.args), AV.slice .frz (List.map Tm.av x81.terms), AV.slice .frz (List.map Fm.av x81.args)])) (fun K87 hk88 => ?_) ?_
  · refine AWp.region [] (by decide +kernel) ?_
    rcases Bool.eq_false_or_eq_true (ine x69 0) with hc89 | hc89
    · simp [E20, hT, hc26, hc89]
      refine hk88 _ _ ⟨(fr20.gen 6 + 1), (fr20.gen 8 + 1), (fr20.gen 10 + 1), ?_, ⟨?_, ?_, ?_, ?_, ?_, ?_, ?_, ?_, ?_, ?_, ?_, ?_, ?_⟩⟩ <;> first | rfl | simp [E20, hT, hc26, hc89]
    simp [E20, hT, hc26, hc89]
    refine hk88 _ _ ⟨(fr20.gen 6 + 1), (fr20.gen 8 + 1), (fr20.gen 10 + 1), ?_, ⟨?_, ?_, ?_, ?_, ?_, ?_, ?_, ?_, ?_, ?_, ?_, ?_, ?_⟩⟩ <;> first | rfl | simp [E20, hT, hc26, hc89]
  rintro fr90 h90 ⟨g6_90, g8_90, g10_90, rfl, E90⟩
  refine AWp.condK fun A91 B92 ga93 gb94 => ?_
  rcases ite_some hm84 with ⟨hc95, hm96⟩ | ⟨hc95, hm97⟩
  · clear hm84
    simp [E90, hT, hc26, hc95]
    apply ga93
    refine AWp.seqP (fun fr h => hset [[]] 0 [AV.slice .frz (List.map (fun n => AV.sc (Value.int .i64 n)) d78.l), AV.sc (.int .i64 d78.atF)] = h ∧ fr.env 2 = AV.sc (.bool (sel (ieq x69 4) true (ieq x82 4)))) (fun K98 hk99 => ?_) ?_
    rotate_left
    · rintro fr100 h100 ⟨rfl, E100⟩
      refine AWp.ret ?_
      obtain rfl := Option.some.inj hm96
      simp [retQ, E100, hT, hc26, hc95]
    refine AWp.region [] (by decide +kernel) ?_
    rcases Bool.eq_false_or_eq_true (ieq x69 4) with hc101 | hc101
    · simp [E90, hT, hc26, hc95, hc101]
      refine hk99 _ _ ⟨?_, ?_⟩ <;> first | rfl | simp [E90, hT, hc26, hc95, hc101]
    simp [E90, hT, hc26, hc95, hc101]
    refine hk99 _ _ ⟨?_, ?_⟩ <;> first | rfl | simp [E90, hT, hc26, hc95, hc101]
  clear hm84
  simp [E90, hT, hc26, hc95]
  apply gb94
  refine AWp.skip ?_
  apply hk86
  refine AWp.sr [] fun K102 hk103 => ?_
  obtain ⟨x104, x105, hx106, hm107⟩ := bind2_some hm97
  clear hm97
  try dsimp only at hm107
  simp [E90, hT, hc26, hc95]
  refine CallAt.fn (r_content_Type T hT hx106) ?_
  simp [E90, hT, hc26, hc95]
  apply hk103
  refine AWp.sr [] fun K108 hk109 => ?_
  obtain ⟨x110, x111, hx112, hm113⟩ := bind2_some hm107
  clear hm107
  try dsimp only at hm113
  simp [E90, hT, hc26, hc95]
  refine CallAt.fn (r_content_Type T hT hx112) ?_
  simp [E90, hT, hc26, hc95]
  apply hk109
  obtain ⟨j114, hj115, hm116⟩ := joinB_some hm113
  clear hm113
  refine AWp.seqP (fun fr h => ∃ (v117 : Bool), hset [[]] 0 [AV.slice .frz (List.map (fun n => AV.sc (Value.int .i64 n)) d78.l), AV.sc (.int .i64 d78.atF)] = h ∧ fr.env 2 = AV.sc (.bool v117) ∧ j114 v117 = some r0) (fun K118 hk119 => ?_) ?_
  rotate_left
  · clear hm116
    rintro fr120 h120 ⟨v117, rfl, E120, hm121⟩
    subst hj115
    refine AWp.ret ?_
    obtain rfl := Option.some.inj hm121
    simp [retQ, E120, hT, hc26, hc95]
  refine AWp.region [] (by decide +kernel) ?_
  rcases ite_some hm116 with ⟨hc122, hm123⟩ | ⟨hc122, hm124⟩
  rotate_left
  · clear hm116
    simp [E90, hT, hc26, hc95, hc122]
    refine hk119 _ _ ⟨false, ?_, ?_, hm124⟩ <;> first | rfl | simp [E90, hT, hc26, hc95, hc122]
  clear hm116
  rcases ite_some hm123 with ⟨hc125, hm126⟩ | ⟨hc125, hm127⟩
  rotate_left
  · clear hm123
    simp [E90, hT, hc26, hc95, hc122, hc125]
    refine hk119 _ _ ⟨false, ?_, ?_, hm127⟩ <;> first | rfl | simp [E90, hT, hc26, hc95, hc122, hc125]
  clear hm123
  obtain ⟨x128, hx129, hm130⟩ := bind1_some hm126
  clear hm126
  try dsimp only at hm130
  simp [E90, hT, hc26, hc95, hc122, hc125]
  refine CallAt.fn (r_ref01_Same T hx129) ?_
  rcases ite_some hm130 with ⟨hc131, hm132⟩ | ⟨hc131, hm133⟩
  rotate_left
  · clear hm130
    simp [E90, hT, hc26, hc95, hc122, hc125, hc131]
    refine hk119 _ _ ⟨false, ?_, ?_, hm133⟩ <;> first | rfl | simp [E90, hT, hc26, hc95, hc122, hc125, hc131]
  clear hm130
  obtain ⟨x134, hx135, hm136⟩ := bind1_some hm132
  clear hm132
  try dsimp only at hm136
  simp [E90, hT, hc26, hc95, hc122, hc125, hc131]
  refine CallAt.fn (r_ref01_Same T hx135) ?_
  simp [E90, hT, hc26, hc95, hc122, hc125, hc131]
  refine hk119 _ _ ⟨x134, ?_, ?_, hm136⟩ <;> first | rfl | simp [E90, hT, hc26, hc95, hc122, hc125, hc131]

theorem enters32 : entersB Tryd.prog 32 = true := by kernel_rfl

theorem r_law23_limits (T : Tabs) {H : Heap} {a0 : Int} {r0 : Bool} (hm : law23_limits a0 = some r0) : ACall Tryd.prog T 32 [AV.sc (.int .i64 a0)] H (AV.sc (.bool r0)) H := by
  rw [law23_limits] at hm
  refine ACallP.intro (fn := Tryd.f32) Tryd.func32 rfl enters32 (Nat.le_of_ble_eq_true rfl) ?_
  refine AWp.sr [] fun K1 hk2 => ?_
  simp
  apply hk2
  refine AWp.seqP (fun fr h => H = h ∧ fr.env 2 = AV.sc (.bool (sel (ieq a0 4) true (sel (ieq a0 5) true (ieq a0 3))))) (fun K3 hk4 => ?_) ?_
  rotate_left
  · rintro fr5 h5 ⟨rfl, E5⟩
    refine AWp.ret ?_
    obtain rfl := Option.some.inj hm
    simp [retQ, E5]
  refine AWp.region [] (by decide +kernel) ?_
  rcases Bool.eq_false_or_eq_true (ieq a0 4) with hc6 | hc6
  · simp [hc6]
    refine hk4 _ _ ⟨?_, ?_⟩ <;> first | rfl | simp [hc6]
  rcases Bool.eq_false_or_eq_true (ieq a0 5) with hc7 | hc7
  · simp [hc6, hc7]
    refine hk4 _ _ ⟨?_, ?_⟩ <;> first | rfl | simp [hc6, hc7]
  simp [hc6, hc7]
  refine hk4 _ _ ⟨?_, ?_⟩ <;> first | rfl | simp [hc6, hc7]

theorem enters5 : entersB Tryd.prog 5 = true := by kernel_rfl

theorem r_law23_ContentNone (T : Tabs) (hT : T 0 = some (AV.agg (List.map (fun n => AV.sc (Value.int .i64 n)) tree_arities))) {a0 : (List Int)} {r0 : Bool} (hm : law23_ContentNone a0 = some r0) : ACallP Tryd.prog T 5 [AV.slice .frz (List.map (fun n => AV.sc (Value.int .i64 n)) a0)] [] (fun x _ => x = AV.sc (.bool r0)) := by
  rw [law23_ContentNone] at hm
  refine ACallP.intro (fn := Tryd.f5) Tryd.func5 rfl enters5 (Nat.le_of_ble_eq_true rfl) ?_
  refine AWp.sr [] fun K1 hk2 => ?_
  simp [hT]
  apply hk2
  refine AWp.seqK fun K3 hk4 => ?_
  obtain ⟨j5, hj6, hm7⟩ := joinB_some hm
  clear hm
  refine AWp.seqP (fun fr h => ∃ (v8 : Bool), ([] : Heap) = h ∧ (fr.env 0 = AV.slice .frz (List.map (fun n => AV.sc (Value.int .i64 n)) a0) ∧ fr.env 22 = AV.sc (.bool v8)) ∧ j5 v8 = some r0) (fun K9 hk10 => ?_) ?_
  · refine AWp.region [] (by decide +kernel) ?_
    obtain ⟨x11, hx12, hm13⟩ := bind1_some hm7
    clear hm7
    try dsimp only at hm13
    simp [hT]
    refine CallAt.fn (r_law23_awake T hT hx12) ?_
    rcases ite_some hm13 with ⟨hc14, hm15⟩ | ⟨hc14, hm16⟩
    rotate_left
    · clear hm13
      simp [hT, hc14]
      refine hk10 _ _ ⟨true, ?_, ⟨?_, ?_⟩, hm16⟩ <;> first | rfl | simp [hT, hc14]
    clear hm13
    obtain ⟨x17, hx18, hm19⟩ := bind1_some hm15
    clear hm15
    try dsimp only at hm19
    simp [hT, hc14]
    refine CallAt.fn (r_mk_Few T hx18) ?_
    simp [hT, hc14]
    refine hk10 _ _ ⟨(bnot x17), ?_, ⟨?_, ?_⟩, hm19⟩ <;> first | rfl | simp [hT, hc14]
  clear hm7
  rintro fr20 h20 ⟨v8, rfl, E20, hm21⟩
  subst hj6
  refine AWp.condK fun A22 B23 ga24 gb25 => ?_
  rcases ite_some hm21 with ⟨hc26, hm27⟩ | ⟨hc26, hm28⟩
  · clear hm21
    simp [E20, hT, hc26]
    apply ga24
    refine AWp.sr [] fun K29 hk30 => ?_
    obtain ⟨x31, hx32, hm33⟩ := bind1_some hm27
    clear hm27
    try dsimp only at hm33
    simp [E20, hT, hc26]
    refine CallAt.fn (r_law23_awake T hT hx32) ?_
    simp [E20, hT, hc26]
    apply hk30
    refine AWp.ret ?_
    obtain rfl := Option.some.inj hm33
    simp [retQ, E20, hT, hc26]
  clear hm21
  simp [E20, hT, hc26]
  apply gb25
  refine AWp.skip ?_
  apply hk4
  refine AWp.sr [] fun K34 hk35 => ?_
  obtain ⟨x36, hx37, hm38⟩ := bind1_some hm28
  clear hm28
  try dsimp only at hm38
  simp [E20, hT, hc26]
  refine CallAt.fn (r_mk_New T hx37) ?_
  simp [E20, hT, hc26]
  apply hk35
  refine AWp.sr [] fun K39 hk40 => ?_
  obtain ⟨x41, d42, hx43, hm44⟩ := bind2_some hm38
  clear hm38
  try dsimp only at hm44
  simp [E20, hT, hc26]
  refine CallAt.fn (r_mk_Formula T (by first | exact ho | decide) hx43) ?_
  obtain ⟨x45, d46, hx47, hm48⟩ := bind2_some hm44
  clear hm44
  try dsimp only at hm48
  simp [E20, hT, hc26]
  refine CallAt.fn (r_mk_Formula T (by first | exact ho | decide) hx47) ?_
  simp [E20, hT, hc26]
  apply hk40
  refine AWp.sr [] fun K49 hk50 => ?_
  obtain ⟨x51, x52, hx53, hm54⟩ := bind2_some hm48
  clear hm48
  try dsimp only at hm54
  simp [E20, hT, hc26]
  refine CallAt.fn (r_ref08_Content T hx53) ?_
  simp [E20, hT, hc26]
  apply hk50
  refine AWp.sr [] fun K55 hk56 => ?_
  obtain ⟨x57, x58, hx59, hm60⟩ := bind2_some hm54
  clear hm54
  try dsimp only at hm60
  simp [E20, hT, hc26]
  refine CallAt.fn (r_content_Type T hT hx59) ?_
  simp [E20, hT, hc26]
  apply hk56
  refine AWp.sr [] fun K61 hk62 => ?_
  obtain ⟨x63, x64, hx65, hm66⟩ := bind2_some hm60
  clear hm60
  try dsimp only at hm66
  simp [E20, hT, hc26]
  refine CallAt.fn (r_content_Type T hT hx65) ?_
  simp [E20, hT, hc26]
  apply hk62
  refine AWp.sr [] fun K67 hk68 => ?_
  have hf69 : AV.agg [AV.sc (.int .i64 3), AV.sc (.int .i64 0), AV.slice .frz [], AV.slice .frz [], AV.slice .frz [Fm.av x41, Fm.av x45]] = Fm.av (Fm.mk 3 (Ty.mk 0 []) [] [x41, x45]) := by rw [Fm.av_mk]; rfl
  obtain ⟨x70, x71, hx72, hm73⟩ := bind2_some hm66
  clear hm66
  try dsimp only at hm73
  simp [E20, hT, hf69, hc26]
  refine CallAt.fn (r_content_Type T hT hx72) ?_
  simp [E20, hT, hf69, hc26]
  apply hk68
  refine AWp.seqK fun K74 hk75 => ?_
  refine AWp.seqP (fun fr h => ∃ (g5_81 : Nat) (g8_81 : Nat) (g10_81 : Nat) (g12_81 : Nat), hset [[]] 0 [AV.slice .frz (List.map (fun n => AV.sc (Value.int .i64 n)) d46.l), AV.sc (.int .i64 d46.atF)] = h ∧ (fr.env 5 = AV.lptr 5 g5_81 0 ∧ fr.env 6 = AV.sc (.bool x51) ∧ fr.env 8 = AV.lptr 8 g8_81 0 ∧ fr.env 9 = AV.sc (.int .i64 x58) ∧ fr.env 10 = AV.lptr 10 g10_81 0 ∧ fr.env 11 = AV.sc (.int .i64 x64) ∧ fr.env 12 = AV.lptr 12 g12_81 0 ∧ fr.env 13 = AV.sc (.int .i64 x71) ∧ fr.env 66 = AV.sc (.bool (sel (ine x52 0) true (sel (ine x58 0) true (sel (ine x64 0) true (ine x71 0))))) ∧ fr.gen 5 = g5_81 ∧ fr.box 5 = some [AV.sc (.int .i64 x45.kind), AV.sc (.int .i64 x45.typeF.kind), AV.slice .frz (List.map Ty.av x45.typeF.args), AV.slice .frz (List.map Tm.av x45.terms), AV.slice .frz (List.map Fm.av x45.args)] ∧ fr.gen 8 = g8_81 ∧ fr.box 8 = some [AV.sc (.int .i64 x57.kind), AV.slice .frz (List.map Ty.av x57.args)] ∧ fr.gen 10 = g10_81 ∧ fr.box 10 = some [AV.sc (.int .i64 x63.kind), AV.slice .frz (List.map Ty.av x63.args)] ∧ fr.gen 12 = g12_81 ∧ fr.box 12 = some [AV.sc (.int .i64 x70.kind), AV.slice .frz (List.map Ty.av x70.args)])) (fun K76 hk77 => ?_) ?_
  · refine AWp.region [] (by decide +kernel) ?_
    rcases Bool.eq_false_or_eq_true (ine x52 0) with hc78 | hc78
    · simp [E20, hT, hf69, hc26, hc78]
      refine hk77 _ _ ⟨(fr20.gen 5 + 1), (fr20.gen 8 + 1), (fr20.gen 10 + 1), (fr20.gen 12 + 1), ?_, ⟨?_, ?_, ?_, ?_, ?_, ?_, ?_, ?_, ?_, ?_, ?_, ?_, ?_, ?_, ?_, ?_, ?_⟩⟩ <;> first | rfl | simp [E20, hT, hf69, hc26, hc78]
    rcases Bool.eq_false_or_eq_true (ine x58 0) with hc79 | hc79
    · simp [E20, hT, hf69, hc26, hc78, hc79]
      refine hk77 _ _ ⟨(fr20.gen 5 + 1), (fr20.gen 8 + 1), (fr20.gen 10 + 1), (fr20.gen 12 + 1), ?_, ⟨?_, ?_, ?_, ?_, ?_, ?_, ?_, ?_, ?_, ?_, ?_, ?_, ?_, ?_, ?_, ?_, ?_⟩⟩ <;> first | rfl | simp [E20, hT, hf69, hc26, hc78, hc79]
    rcases Bool.eq_false_or_eq_true (ine x64 0) with hc80 | hc80
    · simp [E20, hT, hf69, hc26, hc78, hc79, hc80]
      refine hk77 _ _ ⟨(fr20.gen 5 + 1), (fr20.gen 8 + 1), (fr20.gen 10 + 1), (fr20.gen 12 + 1), ?_, ⟨?_, ?_, ?_, ?_, ?_, ?_, ?_, ?_, ?_, ?_, ?_, ?_, ?_, ?_, ?_, ?_, ?_⟩⟩ <;> first | rfl | simp [E20, hT, hf69, hc26, hc78, hc79, hc80]
    simp [E20, hT, hf69, hc26, hc78, hc79, hc80]
    refine hk77 _ _ ⟨(fr20.gen 5 + 1), (fr20.gen 8 + 1), (fr20.gen 10 + 1), (fr20.gen 12 + 1), ?_, ⟨?_, ?_, ?_, ?_, ?_, ?_, ?_, ?_, ?_, ?_, ?_, ?_, ?_, ?_, ?_, ?_, ?_⟩⟩ <;> first | rfl | simp [E20, hT, hf69, hc26, hc78, hc79, hc80]
  rintro fr81 h81 ⟨g5_81, g8_81, g10_81, g12_81, rfl, E81⟩
  refine AWp.condK fun A82 B83 ga84 gb85 => ?_
  rcases ite_some hm73 with ⟨hc86, hm87⟩ | ⟨hc86, hm88⟩
  · clear hm73
    simp [E81, hT, hf69, hc26, hc86]
    apply ga84
    obtain ⟨j89, hj90, hm91⟩ := joinB_some hm87
    clear hm87
    refine AWp.seqP (fun fr h => ∃ (v92 : Bool), hset [[]] 0 [AV.slice .frz (List.map (fun n => AV.sc (Value.int .i64 n)) d46.l), AV.sc (.int .i64 d46.atF)] = h ∧ fr.env 2 = AV.sc (.bool v92) ∧ j89 v92 = some r0) (fun K93 hk94 => ?_) ?_
    rotate_left
    · clear hm91
      rintro fr95 h95 ⟨v92, rfl, E95, hm96⟩
      subst hj90
      refine AWp.ret ?_
      obtain rfl := Option.some.inj hm96
      simp [retQ, E95, hT, hf69, hc26, hc86]
    refine AWp.region [] (by decide +kernel) ?_
    obtain ⟨x97, hx98, hm99⟩ := bind1_some hm91
    clear hm91
    try dsimp only at hm99
    simp [E81, hT, hf69, hc26, hc86]
    refine CallAt.fn (r_law23_limits T hx98) ?_
    rcases ite_some hm99 with ⟨hc100, hm101⟩ | ⟨hc100, hm102⟩
    · clear hm99
      simp [E81, hT, hf69, hc26, hc86, hc100]
      refine hk94 _ _ ⟨true, ?_, ?_, hm101⟩ <;> first | rfl | simp [E81, hT, hf69, hc26, hc86, hc100]
    clear hm99
    obtain ⟨x103, hx104, hm105⟩ := bind1_some hm102
    clear hm102
    try dsimp only at hm105
    simp [E81, hT, hf69, hc26, hc86, hc100]
    refine CallAt.fn (r_law23_limits T hx104) ?_
    rcases ite_some hm105 with ⟨hc106, hm107⟩ | ⟨hc106, hm108⟩
    · clear hm105
      simp [E81, hT, hf69, hc26, hc86, hc100, hc106]
      refine hk94 _ _ ⟨true, ?_, ?_, hm107⟩ <;> first | rfl | simp [E81, hT, hf69, hc26, hc86, hc100, hc106]
    clear hm105
    obtain ⟨x109, hx110, hm111⟩ := bind1_some hm108
    clear hm108
    try dsimp only at hm111
    simp [E81, hT, hf69, hc26, hc86, hc100, hc106]
    refine CallAt.fn (r_law23_limits T hx110) ?_
    simp [E81, hT, hf69, hc26, hc86, hc100, hc106]
    refine hk94 _ _ ⟨x109, ?_, ?_, hm111⟩ <;> first | rfl | simp [E81, hT, hf69, hc26, hc86, hc100, hc106]
  clear hm73
  simp [E81, hT, hf69, hc26, hc86]
  apply gb85
  refine AWp.skip ?_
  apply hk75
  refine AWp.seqK fun K112 hk113 => ?_
  refine AWp.sr [] fun K114 hk115 => ?_
  simp [E81, hT, hf69, hc26, hc86]
  apply hk115
  refine AWp.condK fun A116 B117 ga118 gb119 => ?_
  rcases ite_some hm88 with ⟨hc120, hm121⟩ | ⟨hc120, hm122⟩
  rotate_left
  · clear hm88
    simp [E81, hT, hf69, hc26, hc86, hc120]
    apply ga118
    obtain ⟨j123, hj124, hm125⟩ := joinB_some hm122
    clear hm122
    refine AWp.seqP (fun fr h => ∃ (v126 : Bool), hset [[]] 0 [AV.slice .frz (List.map (fun n => AV.sc (Value.int .i64 n)) d46.l), AV.sc (.int .i64 d46.atF)] = h ∧ fr.env 2 = AV.sc (.bool v126) ∧ j123 v126 = some r0) (fun K127 hk128 => ?_) ?_
    rotate_left
    · clear hm125
      rintro fr129 h129 ⟨v126, rfl, E129, hm130⟩
      subst hj124
      refine AWp.ret ?_
      obtain rfl := Option.some.inj hm130
      simp [retQ, E129, hT, hf69, hc26, hc86, hc120]
    refine AWp.region [] (by decide +kernel) ?_
    rcases ite_some hm125 with ⟨hc131, hm132⟩ | ⟨hc131, hm133⟩
    rotate_left
    · clear hm125
      simp [E81, hT, hf69, hc26, hc86, hc120, hc131]
      refine hk128 _ _ ⟨false, ?_, ?_, hm133⟩ <;> first | rfl | simp [E81, hT, hf69, hc26, hc86, hc120, hc131]
    clear hm125
    obtain ⟨x134, hx135, hm136⟩ := bind1_some hm132
    clear hm132
    try dsimp only at hm136
    simp [E81, hT, hf69, hc26, hc86, hc120, hc131]
    refine CallAt.fn (r_ref01_Same T hx135) ?_
    simp [E81, hT, hf69, hc26, hc86, hc120, hc131]
    refine hk128 _ _ ⟨x134, ?_, ?_, hm136⟩ <;> first | rfl | simp [E81, hT, hf69, hc26, hc86, hc120, hc131]
  clear hm88
  simp [E81, hT, hf69, hc26, hc86, hc120]
  apply gb119
  refine AWp.skip ?_
  apply hk113
  refine AWp.sr [] fun K137 hk138 => ?_
  obtain ⟨x139, x140, hx141, hm142⟩ := bind2_some hm121
  clear hm121
  try dsimp only at hm142
  simp [E81, hT, hf69, hc26, hc86, hc120]
  refine CallAt.fn (r_ref08_Content T hx141) ?_
  simp [E81, hT, hf69, hc26, hc86, hc120]
  apply hk138
  obtain ⟨j143, hj144, hm145⟩ := joinB_some hm142
  clear hm142
  refine AWp.seqP (fun fr h => ∃ (v146 : Bool), hset [[]] 0 [AV.slice .frz (List.map (fun n => AV.sc (Value.int .i64 n)) d46.l), AV.sc (.int .i64 d46.atF)] = h ∧ fr.env 2 = AV.sc (.bool v146) ∧ j143 v146 = some r0) (fun K147 hk148 => ?_) ?_
  rotate_left
  · clear hm145
    rintro fr149 h149 ⟨v146, rfl, E149, hm150⟩
    subst hj144
    refine AWp.ret ?_
    obtain rfl := Option.some.inj hm150
    simp [retQ, E149, hT, hf69, hc26, hc86, hc120]
  refine AWp.regionD [] false mixed (by decide +kernel) (by decide +kernel) ?_
  rcases ite_some hm145 with ⟨hc151, hm152⟩ | ⟨hc151, hm153⟩
  rotate_left
  · clear hm145
    simp [E81, hT, hf69, hc26, hc86, hc120, hc151]
    refine hk148 _ _ ⟨false, ?_, ?_, hm153⟩ <;> first | rfl | simp [E81, hT, hf69, hc26, hc86, hc120, hc151]
  clear hm145
  rcases ite_some hm152 with ⟨hc154, hm155⟩ | ⟨hc154, hm156⟩
  rotate_left
  · clear hm152
    simp [E81, hT, hf69, hc26, hc86, hc120, hc151, hc154]
    refine hk148 _ _ ⟨(ieq x70.kind 5), ?_, ?_, hm156⟩ <;> first | rfl | simp [E81, hT, hf69, hc26, hc86, hc120, hc151, hc154]
  clear hm152
  obtain ⟨x157, hx158, hm159⟩ := bind1_some hm155
  clear hm155
  try dsimp only at hm159
  simp [E81, hT, hf69, hc26, hc86, hc120, hc151, hc154]
  refine CallAtD.fn (r_ref23_Fun T hx158) (by simp) ?_
  obtain ⟨x160, hx161, hm162⟩ := bind1_some hm159
  clear hm159
  try dsimp only at hm162
  simp [E81, hT, hf69, hc26, hc86, hc120, hc151, hc154]
  refine CallAtD.fn (r_ref01_Same T hx161) (by simp) ?_
  rcases ite_some hm162 with ⟨hc163, hm164⟩ | ⟨hc163, hm165⟩
  · clear hm162
    simp [E81, hT, hf69, hc26, hc86, hc120, hc151, hc154, hc163]
    refine hk148 _ _ ⟨true, ?_, ?_, hm164⟩ <;> first | rfl | simp [E81, hT, hf69, hc26, hc86, hc120, hc151, hc154, hc163]
  clear hm162
  simp [E81, hT, hf69, hc26, hc86, hc120, hc151, hc154, hc163]
  refine hk148 _ _ ⟨false, ?_, ?_, hm165⟩ <;> first | rfl | simp [E81, hT, hf69, hc26, hc86, hc120, hc151, hc154, hc163]

end Go.Proofs.YtdihelfnjememaaDoor
