/- The program's functions do what the models say. -/
import Derived.Test.YtnabbjnhemmkhaaDoorRE
import Derived.Test.YtnabbjnhemmkhaaDoorRM
set_option maxRecDepth 20000
set_option maxHeartbeats 4000000
set_option linter.unusedSimpArgs false
set_option linter.unusedVariables false
namespace Go.Proofs.YtnabbjnhemmkhaaDoor
open Go Go.Abs Go.Mdl

theorem enters37 : entersB Tryd.prog 37 = true := by kernel_rfl

theorem r_ref01_Nat (T : Tabs) {H : Heap}  {r0 : Ty} (hm : ref01_Nat = some r0) : ACall Tryd.prog T 37 [] H (Ty.av r0) H := by
  rw [ref01_Nat] at hm
  refine ACallP.intro (fn := Tryd.f37) Tryd.func37 rfl enters37 (Nat.le_of_ble_eq_true rfl) ?_
  refine AWp.sr [] fun K1 hk2 => ?_
  simp
  apply hk2
  refine AWp.sr [] fun K3 hk4 => ?_
  simp
  apply hk4
  refine AWp.ret ?_
  obtain rfl := Option.some.inj hm
  simp [retQ]

theorem enters38 : entersB Tryd.prog 38 = true := by kernel_rfl

theorem r_ref02_Var (T : Tabs) {H : Heap} {a0 : Int} {r0 : Tm} (hm : ref02_Var a0 = some r0) : ACall Tryd.prog T 38 [AV.sc (.int .i64 a0)] H (Tm.av r0) H := by
  rw [ref02_Var] at hm
  refine ACallP.intro (fn := Tryd.f38) Tryd.func38 rfl enters38 (Nat.le_of_ble_eq_true rfl) ?_
  refine AWp.sr [] fun K1 hk2 => ?_
  simp
  apply hk2
  refine AWp.sr [] fun K3 hk4 => ?_
  simp
  apply hk4
  refine AWp.ret ?_
  obtain rfl := Option.some.inj hm
  simp [retQ]

theorem enters62 : entersB Tryd.prog 62 = true := by kernel_rfl

theorem rg_ref01_Copy (T : Tabs) : ∀ (n : Nat), (∀ {H : Heap} {a0 : Ty} {r0 : Ty} (hm : ref01_Copy n a0 = some r0), ACall Tryd.prog T 62 [Ty.av a0] H (Ty.av r0) H) := by
  intro n
  induction n with
  | zero =>
    skip
    all_goals
      intros
      rename_i hm
      cases hm
  | succ n ih =>
    intro H a0 r0 hm
    rw [ref01_Copy] at hm
    refine ACallP.intro (fn := Tryd.f62) Tryd.func62 rfl enters62 (Nat.le_of_ble_eq_true rfl) ?_
    refine AWp.sr [] fun K1 hk2 => ?_
    simp
    apply hk2
    refine AWp.sr [] fun K3 hk4 => ?_
    simp
    apply hk4
    refine AWp.seqK fun K5 hk6 => ?_
    refine AWp.sr [] fun K7 hk8 => ?_
    simp
    apply hk8
    obtain ⟨hok9, hm10⟩ := chk_some hm
    clear hm
    obtain ⟨F11, hF12, hm13⟩ := joinB_some hm10
    clear hm10
    try dsimp only at hm13
    obtain ⟨out14, hl15, hmB16⟩ := bind1_some hm13
    clear hm13
    refine AWp.blockK fun Q17 nn18 ne19 nx20 nr21 => ?_
    refine AWp.loopF (fun n22 fr h => ∃ (i23 : Nat) (j24 : Int) (v25 : (List Ty)) (tg0_26 : Tag) (g1_26 : Nat) (g2_26 : Nat), H = h ∧ (fr.env 1 = AV.lptr 1 g1_26 0 ∧ fr.env 2 = AV.lptr 2 g2_26 0 ∧ fr.env 3 = AV.slice tg0_26 (List.map Ty.av v25) ∧ fr.env 7 = AV.slice .frz (List.map Ty.av a0.args) ∧ fr.env 8 = AV.sc (.int .i64 (llen a0.args)) ∧ fr.env 9 = AV.sc (.int .i64 j24) ∧ fr.gen 1 = g1_26 ∧ fr.box 1 = some [AV.sc (.int .i64 a0.kind), AV.slice .frz (List.map Ty.av a0.args)] ∧ fr.gen 2 = g2_26 ∧ fr.box 2 = some [AV.sc (.int .i64 0), AV.slice .full []]) ∧ OwnT fr.tab fr.tgen [17] tg0_26 (List.length v25) ∧ j24 = (i23 : Int) ∧ i23 + n22 = List.length a0.args ∧ forR F11 (List.drop i23 a0.args) i23 v25 = some out14) (List.length a0.args) ?_ ?_
    · refine ⟨0, 0, [], .full, 1, 1, ?_, ⟨?_, ?_, ?_, ?_, ?_, ?_, ?_, ?_, ?_, ?_⟩, OwnT.full, rfl, (by simp), hl15⟩ <;> first | rfl | simp
    rintro n22 fr26 h26 ⟨i23, j24, v25, tg0_26, g1_26, g2_26, rfl, E26, o0_26, hj27, hi28, hl15⟩ K29 hK30
    rcases n22 with _ | n22
    · have hlt31 := ilt_notJ (l := a0.args) hj27 (by omega)
      refine AWp.sr [] fun K32 hk33 => ?_
      simp [E26, hlt31]
      apply hk33
      refine AWp.seqK fun K34 hk35 => ?_
      refine AWp.condK fun A36 B37 ga38 gb39 => ?_
      simp [E26, hlt31]
      apply gb39
      refine AWp.exit ?_
      apply ne19
      rw [List.drop_eq_nil_of_le (by omega), forR_nil] at hl15
      obtain rfl := Option.some.inj hl15
      rw [sumK_inl] at hmB16
      try dsimp only at hmB16
      apply hk6
      refine AWp.sr [] fun K40 hk41 => ?_
      simp [E26, hlt31]
      apply hk41
      refine AWp.ret ?_
      obtain rfl := Option.some.inj hmB16
      simp [retQ, E26, hlt31]
    have hlt31 := ilt_ofJ (l := a0.args) hj27 (by omega)
    obtain ⟨x42, hdn22, hg43⟩ := drop_ltJ (l := a0.args) hj27 (by omega)
    rw [hdn22, forR_cons] at hl15
    obtain ⟨c44, hb45, hk46⟩ := bind1_some hl15
    clear hl15
    rw [hF12, ← hj27] at hb45
    try dsimp only at hb45
    refine AWp.sr [] fun K47 hk48 => ?_
    simp [E26, hlt31, hg43]
    apply hk48
    refine AWp.seqK fun K49 hk50 => ?_
    refine AWp.condK fun A51 B52 ga53 gb54 => ?_
    simp [E26, hlt31, hg43]
    apply ga53
    refine AWp.skip ?_
    apply hk50
    refine AWp.seqK fun K55 hk56 => ?_
    refine AWp.blockK fun Q57 nn58 ne59 nx60 nr61 => ?_
    refine AWp.sr [] fun K62 hk63 => ?_
    simp [E26, hlt31, hg43]
    apply hk63
    refine AWp.region [] (by decide +kernel) ?_
    obtain ⟨x64, hx65, hm66⟩ := bind1_some hb45
    clear hb45
    try dsimp only at hm66
    simp [E26, hlt31, hg43]
    refine CallAt.fn (ih hx65) ?_
    obtain ⟨ha67, hm68⟩ := chk_some hm66
    clear hm66
    simp [E26, hlt31, hg43]
    refine AppAt2.own (f := Ty.av) v25 [x64] o0_26 ap27 (by intro x; simp) ha67 (by first | rfl | simp) (by first | rfl | simp) ?_
    simp [E26, hlt31, hg43]
    apply nn58
    apply hk56
    refine AWp.region [] (by decide +kernel) ?_
    simp [E26, hlt31, hg43]
    obtain rfl := Option.some.inj hm68
    rw [ctlK_next] at hk46
    refine hK30 _ _ n22 (Nat.lt_succ_self _) ⟨(i23 + 1), (iadd .i64 j24 1), (lapp v25 [x64]), (.loc 17 (fr26.tgen 17 + 1)), g1_26, g2_26, ?_, ⟨?_, ?_, ?_, ?_, ?_, ?_, ?_, ?_, ?_, ?_⟩, (OwnT.mono (D := [17]) (OwnT.new (D := [17]) (d := 17) (by decide)) (by decide)), (iadd_idxJ hj27 (by omega) hok9), (by omega), hk46⟩ <;> first | rfl | simp [E26, hlt31, hg43]
theorem r_ref01_Copy (T : Tabs) {H : Heap} {a0 : Ty} {r0 : Ty} {n : Nat} (hm : ref01_Copy n a0 = some r0) : ACall Tryd.prog T 62 [Ty.av a0] H (Ty.av r0) H := (rg_ref01_Copy T n) hm

theorem enters61 : entersB Tryd.prog 61 = true := by kernel_rfl

theorem rg_ref02_Copy (T : Tabs) : ∀ (n : Nat), (∀ {H : Heap} {a0 : Tm} {r0 : Tm} (hm : ref02_Copy n a0 = some r0), ACall Tryd.prog T 61 [Tm.av a0] H (Tm.av r0) H) := by
  intro n
  induction n with
  | zero =>
    skip
    all_goals
      intros
      rename_i hm
      cases hm
  | succ n ih =>
    intro H a0 r0 hm
    rw [ref02_Copy] at hm
    refine ACallP.intro (fn := Tryd.f61) Tryd.func61 rfl enters61 (Nat.le_of_ble_eq_true rfl) ?_
    refine AWp.sr [] fun K1 hk2 => ?_
    simp
    apply hk2
    refine AWp.sr [] fun K3 hk4 => ?_
    simp
    apply hk4
    refine AWp.seqK fun K5 hk6 => ?_
    refine AWp.sr [] fun K7 hk8 => ?_
    simp
    apply hk8
    obtain ⟨hok9, hm10⟩ := chk_some hm
    clear hm
    obtain ⟨F11, hF12, hm13⟩ := joinB_some hm10
    clear hm10
    try dsimp only at hm13
    obtain ⟨out14, hl15, hmB16⟩ := bind1_some hm13
    clear hm13
    refine AWp.blockK fun Q17 nn18 ne19 nx20 nr21 => ?_
    refine AWp.loopF (fun n22 fr h => ∃ (i23 : Nat) (j24 : Int) (v25 : (List Tm)) (tg0_26 : Tag) (g1_26 : Nat) (g2_26 : Nat), H = h ∧ (fr.env 1 = AV.lptr 1 g1_26 0 ∧ fr.env 2 = AV.lptr 2 g2_26 0 ∧ fr.env 3 = AV.slice tg0_26 (List.map Tm.av v25) ∧ fr.env 7 = AV.slice .frz (List.map Tm.av a0.args) ∧ fr.env 8 = AV.sc (.int .i64 (llen a0.args)) ∧ fr.env 9 = AV.sc (.int .i64 j24) ∧ fr.gen 1 = g1_26 ∧ fr.box 1 = some [AV.sc (.int .i64 a0.kind), AV.sc (.int .i64 a0.index), AV.sc (.int .i64 a0.typeF.kind), AV.slice .frz (List.map Ty.av a0.typeF.args), AV.slice .frz (List.map Tm.av a0.args)] ∧ fr.gen 2 = g2_26 ∧ fr.box 2 = some [AV.sc (.int .i64 0), AV.sc (.int .i64 0), AV.sc (.int .i64 0), AV.slice .full [], AV.slice .full []]) ∧ OwnT fr.tab fr.tgen [17] tg0_26 (List.length v25) ∧ j24 = (i23 : Int) ∧ i23 + n22 = List.length a0.args ∧ forR F11 (List.drop i23 a0.args) i23 v25 = some out14) (List.length a0.args) ?_ ?_
    · refine ⟨0, 0, [], .full, 1, 1, ?_, ⟨?_, ?_, ?_, ?_, ?_, ?_, ?_, ?_, ?_, ?_⟩, OwnT.full, rfl, (by simp), hl15⟩ <;> first | rfl | simp
    rintro n22 fr26 h26 ⟨i23, j24, v25, tg0_26, g1_26, g2_26, rfl, E26, o0_26, hj27, hi28, hl15⟩ K29 hK30
    rcases n22 with _ | n22
    · have hlt31 := ilt_notJ (l := a0.args) hj27 (by omega)
      refine AWp.sr [] fun K32 hk33 => ?_
      simp [E26, hlt31]
      apply hk33
      refine AWp.seqK fun K34 hk35 => ?_
      refine AWp.condK fun A36 B37 ga38 gb39 => ?_
      simp [E26, hlt31]
      apply gb39
      refine AWp.exit ?_
      apply ne19
      rw [List.drop_eq_nil_of_le (by omega), forR_nil] at hl15
      obtain rfl := Option.some.inj hl15
      rw [sumK_inl] at hmB16
      try dsimp only at hmB16
      apply hk6
      refine AWp.seqK fun K40 hk41 => ?_
      refine AWp.regionD [] false mixed (by decide +kernel) (by decide +kernel) ?_
      obtain ⟨x42, hx43, hm44⟩ := bind1_some hmB16
      clear hmB16
      try dsimp only at hm44
      simp [E26, hlt31]
      refine CallAtD.fn (r_ref01_Copy T hx43) (by simp) ?_
      simp [E26, hlt31]
      apply hk41
      refine AWp.ret ?_
      obtain rfl := Option.some.inj hm44
      simp [retQ, E26, hlt31]
    have hlt31 := ilt_ofJ (l := a0.args) hj27 (by omega)
    obtain ⟨x45, hdn22, hg46⟩ := drop_ltJ (l := a0.args) hj27 (by omega)
    rw [hdn22, forR_cons] at hl15
    obtain ⟨c47, hb48, hk49⟩ := bind1_some hl15
    clear hl15
    rw [hF12, ← hj27] at hb48
    try dsimp only at hb48
    refine AWp.sr [] fun K50 hk51 => ?_
    simp [E26, hlt31, hg46]
    apply hk51
    refine AWp.seqK fun K52 hk53 => ?_
    refine AWp.condK fun A54 B55 ga56 gb57 => ?_
    simp [E26, hlt31, hg46]
    apply ga56
    refine AWp.skip ?_
    apply hk53
    refine AWp.seqK fun K58 hk59 => ?_
    refine AWp.blockK fun Q60 nn61 ne62 nx63 nr64 => ?_
    refine AWp.sr [] fun K65 hk66 => ?_
    simp [E26, hlt31, hg46]
    apply hk66
    refine AWp.region [] (by decide +kernel) ?_
    obtain ⟨x67, hx68, hm69⟩ := bind1_some hb48
    clear hb48
    try dsimp only at hm69
    simp [E26, hlt31, hg46]
    refine CallAt.fn (ih hx68) ?_
    obtain ⟨ha70, hm71⟩ := chk_some hm69
    clear hm69
    simp [E26, hlt31, hg46]
    refine AppAt2.own (f := Tm.av) v25 [x67] o0_26 ap32 (by intro x; simp) ha70 (by first | rfl | simp) (by first | rfl | simp) ?_
    simp [E26, hlt31, hg46]
    apply nn61
    apply hk59
    refine AWp.region [] (by decide +kernel) ?_
    simp [E26, hlt31, hg46]
    obtain rfl := Option.some.inj hm71
    rw [ctlK_next] at hk49
    refine hK30 _ _ n22 (Nat.lt_succ_self _) ⟨(i23 + 1), (iadd .i64 j24 1), (lapp v25 [x67]), (.loc 17 (fr26.tgen 17 + 1)), g1_26, g2_26, ?_, ⟨?_, ?_, ?_, ?_, ?_, ?_, ?_, ?_, ?_, ?_⟩, (OwnT.mono (D := [17]) (OwnT.new (D := [17]) (d := 17) (by decide)) (by decide)), (iadd_idxJ hj27 (by omega) hok9), (by omega), hk49⟩ <;> first | rfl | simp [E26, hlt31, hg46]
theorem r_ref02_Copy (T : Tabs) {H : Heap} {a0 : Tm} {r0 : Tm} {n : Nat} (hm : ref02_Copy n a0 = some r0) : ACall Tryd.prog T 61 [Tm.av a0] H (Tm.av r0) H := (rg_ref02_Copy T n) hm

theorem enters24 : entersB Tryd.prog 24 = true := by kernel_rfl

theorem r_ref02_N (T : Tabs) {H : Heap} {a0 : Int} {a1 : (List Tm)} {r0 : Tm} (hm : ref02_N a0 a1 = some r0) : ACall Tryd.prog T 24 [AV.sc (.int .i64 a0), AV.slice .frz (List.map Tm.av a1)] H (Tm.av r0) H := by
  rw [ref02_N] at hm
  refine ACallP.intro (fn := Tryd.f24) Tryd.func24 rfl enters24 (Nat.le_of_ble_eq_true rfl) ?_
  refine AWp.sr [] fun K1 hk2 => ?_
  simp
  apply hk2
  refine AWp.sr [] fun K3 hk4 => ?_
  simp
  apply hk4
  refine AWp.seqK fun K5 hk6 => ?_
  refine AWp.sr [] fun K7 hk8 => ?_
  simp
  apply hk8
  obtain ⟨hok9, hm10⟩ := chk_some hm
  clear hm
  obtain ⟨F11, hF12, hm13⟩ := joinB_some hm10
  clear hm10
  try dsimp only at hm13
  obtain ⟨out14, hl15, hmB16⟩ := bind1_some hm13
  clear hm13
  refine AWp.blockK fun Q17 nn18 ne19 nx20 nr21 => ?_
  refine AWp.loopF (fun n22 fr h => ∃ (i23 : Nat) (j24 : Int) (v25 : (List Tm)) (tg0_26 : Tag) (g4_26 : Nat), H = h ∧ (fr.env 0 = AV.sc (.int .i64 a0) ∧ fr.env 4 = AV.lptr 4 g4_26 0 ∧ fr.env 5 = AV.slice tg0_26 (List.map Tm.av v25) ∧ fr.env 8 = AV.slice .frz (List.map Tm.av a1) ∧ fr.env 9 = AV.sc (.int .i64 (llen a1)) ∧ fr.env 10 = AV.sc (.int .i64 j24) ∧ fr.gen 4 = g4_26 ∧ fr.box 4 = some [AV.sc (.int .i64 0), AV.sc (.int .i64 0), AV.sc (.int .i64 0), AV.slice .full [], AV.slice .full []]) ∧ OwnT fr.tab fr.tgen [18] tg0_26 (List.length v25) ∧ j24 = (i23 : Int) ∧ i23 + n22 = List.length a1 ∧ forR F11 (List.drop i23 a1) i23 v25 = some out14) (List.length a1) ?_ ?_
  · refine ⟨0, 0, [], .full, 1, ?_, ⟨?_, ?_, ?_, ?_, ?_, ?_, ?_, ?_⟩, OwnT.full, rfl, (by simp), hl15⟩ <;> first | rfl | simp
  rintro n22 fr26 h26 ⟨i23, j24, v25, tg0_26, g4_26, rfl, E26, o0_26, hj27, hi28, hl15⟩ K29 hK30
  rcases n22 with _ | n22
  · have hlt31 := ilt_notJ (l := a1) hj27 (by omega)
    refine AWp.sr [] fun K32 hk33 => ?_
    simp [E26, hlt31]
    apply hk33
    refine AWp.seqK fun K34 hk35 => ?_
    refine AWp.condK fun A36 B37 ga38 gb39 => ?_
    simp [E26, hlt31]
    apply gb39
    refine AWp.exit ?_
    apply ne19
    rw [List.drop_eq_nil_of_le (by omega), forR_nil] at hl15
    obtain rfl := Option.some.inj hl15
    rw [sumK_inl] at hmB16
    try dsimp only at hmB16
    apply hk6
    refine AWp.sr [] fun K40 hk41 => ?_
    simp [E26, hlt31]
    apply hk41
    refine AWp.ret ?_
    obtain rfl := Option.some.inj hmB16
    simp [retQ, E26, hlt31]
  have hlt31 := ilt_ofJ (l := a1) hj27 (by omega)
  obtain ⟨x42, hdn22, hg43⟩ := drop_ltJ (l := a1) hj27 (by omega)
  rw [hdn22, forR_cons] at hl15
  obtain ⟨c44, hb45, hk46⟩ := bind1_some hl15
  clear hl15
  rw [hF12, ← hj27] at hb45
  try dsimp only at hb45
  refine AWp.sr [] fun K47 hk48 => ?_
  simp [E26, hlt31, hg43]
  apply hk48
  refine AWp.seqK fun K49 hk50 => ?_
  refine AWp.condK fun A51 B52 ga53 gb54 => ?_
  simp [E26, hlt31, hg43]
  apply ga53
  refine AWp.skip ?_
  apply hk50
  refine AWp.seqK fun K55 hk56 => ?_
  refine AWp.blockK fun Q57 nn58 ne59 nx60 nr61 => ?_
  refine AWp.sr [] fun K62 hk63 => ?_
  simp [E26, hlt31, hg43]
  apply hk63
  refine AWp.region [] (by decide +kernel) ?_
  obtain ⟨x64, hx65, hm66⟩ := bind1_some hb45
  clear hb45
  try dsimp only at hm66
  simp [E26, hlt31, hg43]
  refine CallAt.fn (r_ref02_Copy T hx65) ?_
  obtain ⟨ha67, hm68⟩ := chk_some hm66
  clear hm66
  simp [E26, hlt31, hg43]
  refine AppAt2.own (f := Tm.av) v25 [x64] o0_26 ap32 (by intro x; simp) ha67 (by first | rfl | simp) (by first | rfl | simp) ?_
  simp [E26, hlt31, hg43]
  apply nn58
  apply hk56
  refine AWp.region [] (by decide +kernel) ?_
  simp [E26, hlt31, hg43]
  obtain rfl := Option.some.inj hm68
  rw [ctlK_next] at hk46
  refine hK30 _ _ n22 (Nat.lt_succ_self _) ⟨(i23 + 1), (iadd .i64 j24 1), (lapp v25 [x64]), (.loc 18 (fr26.tgen 18 + 1)), g4_26, ?_, ⟨?_, ?_, ?_, ?_, ?_, ?_, ?_, ?_⟩, (OwnT.mono (D := [18]) (OwnT.new (D := [18]) (d := 18) (by decide)) (by decide)), (iadd_idxJ hj27 (by omega) hok9), (by omega), hk46⟩ <;> first | rfl | simp [E26, hlt31, hg43]

theorem enters25 : entersB Tryd.prog 25 = true := by kernel_rfl

theorem r_ref02_T (T : Tabs) {H : Heap} {a0 : Int} {a1 : Ty} {a2 : (List Tm)} {r0 : Tm} (hm : ref02_T a0 a1 a2 = some r0) : ACall Tryd.prog T 25 [AV.sc (.int .i64 a0), Ty.av a1, AV.slice .frz (List.map Tm.av a2)] H (Tm.av r0) H := by
  rw [ref02_T] at hm
  refine ACallP.intro (fn := Tryd.f25) Tryd.func25 rfl enters25 (Nat.le_of_ble_eq_true rfl) ?_
  refine AWp.sr [] fun K1 hk2 => ?_
  simp
  apply hk2
  refine AWp.sr [] fun K3 hk4 => ?_
  obtain ⟨x5, hx6, hm7⟩ := bind1_some hm
  clear hm
  try dsimp only at hm7
  simp
  refine CallAt.fn (r_ref02_N T hx6) ?_
  simp
  apply hk4
  refine AWp.sr [] fun K8 hk9 => ?_
  obtain ⟨x10, hx11, hm12⟩ := bind1_some hm7
  clear hm7
  try dsimp only at hm12
  simp
  refine CallAt.fn (r_ref01_Copy T hx11) ?_
  simp
  apply hk9
  refine AWp.sr [] fun K13 hk14 => ?_
  simp
  apply hk14
  refine AWp.ret ?_
  obtain rfl := Option.some.inj hm12
  simp [retQ]

theorem enters110 : entersB Tryd.prog 110 = true := by kernel_rfl

theorem r_tree_Arity (T : Tabs) (hT : T 0 = some (AV.agg (List.map (fun n => AV.sc (Value.int .i64 n)) tree_arities))) {H : Heap} {a0 : Int} {r0 : Int} {r1 : Bool} (hm : tree_Arity a0 = some (r0, r1)) : ACall Tryd.prog T 110 [AV.sc (.int .i64 a0)] H (AV.tuple [AV.sc (.int .i64 r0), AV.sc (.bool r1)]) H := by
  rw [tree_Arity] at hm
  refine ACallP.intro (fn := Tryd.f110) Tryd.func110 rfl enters110 (Nat.le_of_ble_eq_true rfl) ?_
  refine AWp.sr [] fun K1 hk2 => ?_
  simp [hT]
  apply hk2
  refine AWp.seqK fun K3 hk4 => ?_
  refine AWp.seqP (fun fr h => H = h ∧ (fr.env 0 = AV.sc (.int .i64 a0) ∧ fr.env 9 = AV.sc (.bool (sel (ilt a0 1) true (ige a0 14))))) (fun K5 hk6 => ?_) ?_
  · refine AWp.region [] (by decide +kernel) ?_
    rcases Bool.eq_false_or_eq_true (ilt a0 1) with hc7 | hc7
    · simp [hT, hc7]
      refine hk6 _ _ ⟨?_, ⟨?_, ?_⟩⟩ <;> first | rfl | simp [hT, hc7]
    simp [hT, hc7]
    refine hk6 _ _ ⟨?_, ⟨?_, ?_⟩⟩ <;> first | rfl | simp [hT, hc7]
  rintro fr8 h8 ⟨rfl, E8⟩
  refine AWp.condK fun A9 B10 ga11 gb12 => ?_
  rcases ite_some hm with ⟨hc13, hm14⟩ | ⟨hc13, hm15⟩
  · clear hm
    simp [E8, hT, hc13]
    apply ga11
    refine AWp.sr [] fun K16 hk17 => ?_
    simp [E8, hT, hc13]
    apply hk17
    refine AWp.ret ?_
    simp only [Option.some.injEq, Prod.mk.injEq] at hm14
    obtain ⟨rfl, rfl⟩ := hm14
    simp [retQ, E8, hT, hc13]
  clear hm
  simp [E8, hT, hc13]
  apply gb12
  refine AWp.skip ?_
  apply hk4
  refine AWp.sr [] fun K18 hk19 => ?_
  obtain ⟨x20, hx21, hm22⟩ := bind1_some hm15
  clear hm15
  try dsimp only at hm22
  simp [E8, hT, hx21, hc13]
  apply hk19
  refine AWp.ret ?_
  simp only [Option.some.injEq, Prod.mk.injEq] at hm22
  obtain ⟨rfl, rfl⟩ := hm22
  simp [retQ, E8, hT, hx21, hc13]

theorem enters111 : entersB Tryd.prog 111 = true := by kernel_rfl

theorem r_tree_Typed (T : Tabs) {H : Heap} {a0 : Int} {r0 : Bool} (hm : tree_Typed a0 = some r0) : ACall Tryd.prog T 111 [AV.sc (.int .i64 a0)] H (AV.sc (.bool r0)) H := by
  rw [tree_Typed] at hm
  refine ACallP.intro (fn := Tryd.f111) Tryd.func111 rfl enters111 (Nat.le_of_ble_eq_true rfl) ?_
  refine AWp.sr [] fun K1 hk2 => ?_
  simp
  apply hk2
  refine AWp.seqP (fun fr h => H = h ∧ fr.env 2 = AV.sc (.bool (sel (ieq a0 2) true (sel (ieq a0 6) true (ieq a0 9))))) (fun K3 hk4 => ?_) ?_
  rotate_left
  · rintro fr5 h5 ⟨rfl, E5⟩
    refine AWp.ret ?_
    obtain rfl := Option.some.inj hm
    simp [retQ, E5]
  refine AWp.region [] (by decide +kernel) ?_
  rcases Bool.eq_false_or_eq_true (ieq a0 2) with hc6 | hc6
  · simp [hc6]
    refine hk4 _ _ ⟨?_, ?_⟩ <;> first | rfl | simp [hc6]
  rcases Bool.eq_false_or_eq_true (ieq a0 6) with hc7 | hc7
  · simp [hc6, hc7]
    refine hk4 _ _ ⟨?_, ?_⟩ <;> first | rfl | simp [hc6, hc7]
  simp [hc6, hc7]
  refine hk4 _ _ ⟨?_, ?_⟩ <;> first | rfl | simp [hc6, hc7]

theorem enters116 : entersB Tryd.prog 116 = true := by kernel_rfl

theorem rg_tree_typeNodes (T : Tabs) : ∀ (n : Nat), (∀ {H : Heap} {a0 : Ty} {r0 : Int} {r1 : Bool} (hm : tree_typeNodes n a0 = some (r0, r1)), ACall Tryd.prog T 116 [Ty.av a0] H (AV.tuple [AV.sc (.int .i64 r0), AV.sc (.bool r1)]) H) := by
  intro n
  induction n with
  | zero =>
    skip
    all_goals
      intros
      rename_i hm
      cases hm
  | succ n ih =>
    intro H a0 r0 r1 hm
    rw [tree_typeNodes] at hm
    refine ACallP.intro (fn := Tryd.f116) Tryd.func116 rfl enters116 (Nat.le_of_ble_eq_true rfl) ?_
    refine AWp.sr [] fun K1 hk2 => ?_
    simp
    apply hk2
    refine AWp.sr [] fun K3 hk4 => ?_
    simp
    apply hk4
    obtain ⟨j5, hj6, hm7⟩ := joinB_some hm
    clear hm
    refine AWp.seqP (fun fr h => ∃ (v8 : Int) (g1_61 : Nat), H = h ∧ (fr.env 1 = AV.lptr 1 g1_61 0 ∧ fr.env 4 = AV.sc (.int .i64 v8) ∧ fr.gen 1 = g1_61 ∧ fr.box 1 = some [AV.sc (.int .i64 a0.kind), AV.slice .frz (List.map Ty.av a0.args)]) ∧ j5 v8 = some (r0, r1)) (fun K9 hk10 => ?_) ?_
    · refine AWp.sr [] fun K11 hk12 => ?_
      simp
      apply hk12
      refine AWp.blockK fun Q13 nn14 ne15 nx16 nr17 => ?_
      refine AWp.seqP (fun fr h => ∃ (g1_34 : Nat), H = h ∧ (fr.env 1 = AV.lptr 1 g1_34 0 ∧ fr.env 4 = AV.sc (.int .i64 0) ∧ fr.env 11 = AV.sc (.int .i64 a0.kind) ∧ fr.env 12 = AV.sc (.bool (sel (ieq a0.kind 1) true (sel (ieq a0.kind 2) true (ieq a0.kind 5)))) ∧ fr.gen 1 = g1_34 ∧ fr.box 1 = some [AV.sc (.int .i64 a0.kind), AV.slice .frz (List.map Ty.av a0.args)])) (fun K18 hk19 => ?_) ?_
      · refine AWp.sr [] fun K20 hk21 => ?_
        simp
        apply hk21
        refine AWp.condK fun A22 B23 ga24 gb25 => ?_
        rcases Bool.eq_false_or_eq_true (ieq a0.kind 1) with hc26 | hc26
        · simp [hc26]
          apply ga24
          refine AWp.skip ?_
          refine hk19 _ _ ⟨1, ?_, ⟨?_, ?_, ?_, ?_, ?_, ?_⟩⟩ <;> first | rfl | simp [hc26]
        simp [hc26]
        apply gb25
        refine AWp.sr [] fun K27 hk28 => ?_
        simp [hc26]
        apply hk28
        refine AWp.condK fun A29 B30 ga31 gb32 => ?_
        rcases Bool.eq_false_or_eq_true (ieq a0.kind 2) with hc33 | hc33
        · simp [hc26, hc33]
          apply ga31
          refine AWp.skip ?_
          refine hk19 _ _ ⟨1, ?_, ⟨?_, ?_, ?_, ?_, ?_, ?_⟩⟩ <;> first | rfl | simp [hc26, hc33]
        simp [hc26, hc33]
        apply gb32
        refine AWp.region [] (by decide +kernel) ?_
        simp [hc26, hc33]
        refine hk19 _ _ ⟨1, ?_, ⟨?_, ?_, ?_, ?_, ?_, ?_⟩⟩ <;> first | rfl | simp [hc26, hc33]
      rintro fr34 h34 ⟨g1_34, rfl, E34⟩
      refine AWp.condK fun A35 B36 ga37 gb38 => ?_
      rcases ite_some hm7 with ⟨hc39, hm40⟩ | ⟨hc39, hm41⟩
      · clear hm7
        simp [E34, hc39]
        apply ga37
        refine AWp.skip ?_
        apply nn14
        refine hk10 _ _ ⟨0, g1_34, ?_, ⟨?_, ?_, ?_, ?_⟩, hm40⟩ <;> first | rfl | simp [E34, hc39]
      clear hm7
      simp [E34, hc39]
      apply gb38
      refine AWp.seqP (fun fr h => ∃ (g1_51 : Nat), H = h ∧ (fr.env 1 = AV.lptr 1 g1_51 0 ∧ fr.env 16 = AV.sc (.bool (sel (ieq a0.kind 3) true (ieq a0.kind 4))) ∧ fr.gen 1 = g1_51 ∧ fr.box 1 = some [AV.sc (.int .i64 a0.kind), AV.slice .frz (List.map Ty.av a0.args)])) (fun K42 hk43 => ?_) ?_
      · refine AWp.sr [] fun K44 hk45 => ?_
        simp [E34, hc39]
        apply hk45
        refine AWp.condK fun A46 B47 ga48 gb49 => ?_
        rcases Bool.eq_false_or_eq_true (ieq a0.kind 3) with hc50 | hc50
        · simp [E34, hc39, hc50]
          apply ga48
          refine AWp.skip ?_
          refine hk43 _ _ ⟨g1_34, ?_, ⟨?_, ?_, ?_, ?_⟩⟩ <;> first | rfl | simp [E34, hc39, hc50]
        simp [E34, hc39, hc50]
        apply gb49
        refine AWp.region [] (by decide +kernel) ?_
        simp [E34, hc39, hc50]
        refine hk43 _ _ ⟨g1_34, ?_, ⟨?_, ?_, ?_, ?_⟩⟩ <;> first | rfl | simp [E34, hc39, hc50]
      rintro fr51 h51 ⟨g1_51, rfl, E51⟩
      refine AWp.condK fun A52 B53 ga54 gb55 => ?_
      rcases ite_some hm41 with ⟨hc56, hm57⟩ | ⟨hc56, hm58⟩
      · clear hm41
        simp [E51, hc39, hc56]
        apply ga54
        refine AWp.region [] (by decide +kernel) ?_
        simp [E51, hc39, hc56]
        apply nn14
        refine hk10 _ _ ⟨2, g1_51, ?_, ⟨?_, ?_, ?_, ?_⟩, hm57⟩ <;> first | rfl | simp [E51, hc39, hc56]
      clear hm41
      simp [E51, hc39, hc56]
      apply gb55
      refine AWp.sr [] fun K59 hk60 => ?_
      simp [E51, hc39, hc56]
      apply hk60
      refine AWp.ret ?_
      apply nr17
      simp only [Option.some.injEq, Prod.mk.injEq] at hm58
      obtain ⟨rfl, rfl⟩ := hm58
      simp [retQ, E51, hc39, hc56]
    clear hm7
    rintro fr61 h61 ⟨v8, g1_61, rfl, E61, hm62⟩
    subst hj6
    refine AWp.seqK fun K63 hk64 => ?_
    refine AWp.sr [] fun K65 hk66 => ?_
    simp [E61]
    apply hk66
    refine AWp.condK fun A67 B68 ga69 gb70 => ?_
    rcases ite_some hm62 with ⟨hc71, hm72⟩ | ⟨hc71, hm73⟩
    · clear hm62
      simp [E61, hc71]
      apply ga69
      refine AWp.sr [] fun K74 hk75 => ?_
      simp [E61, hc71]
      apply hk75
      refine AWp.ret ?_
      simp only [Option.some.injEq, Prod.mk.injEq] at hm72
      obtain ⟨rfl, rfl⟩ := hm72
      simp [retQ, E61, hc71]
    clear hm62
    simp [E61, hc71]
    apply gb70
    refine AWp.skip ?_
    apply hk64
    refine AWp.sr [] fun K76 hk77 => ?_
    simp [E61, hc71]
    apply hk77
    refine AWp.seqK fun K78 hk79 => ?_
    refine AWp.sr [] fun K80 hk81 => ?_
    simp [E61, hc71]
    apply hk81
    obtain ⟨hok82, hm83⟩ := chk_some hm73
    clear hm73
    obtain ⟨F84, hF85, hm86⟩ := joinB_some hm83
    clear hm83
    try dsimp only at hm86
    obtain ⟨out87, hl88, hmB89⟩ := bind1_some hm86
    clear hm86
    refine AWp.blockK fun Q90 nn91 ne92 nx93 nr94 => ?_
    refine AWp.loopF (fun n95 fr h => ∃ (i96 : Nat) (j97 : Int) (v98 : Int), H = h ∧ (fr.env 5 = AV.sc (.int .i64 v98) ∧ fr.env 25 = AV.slice .frz (List.map Ty.av a0.args) ∧ fr.env 26 = AV.sc (.int .i64 (llen a0.args)) ∧ fr.env 27 = AV.sc (.int .i64 j97)) ∧ j97 = (i96 : Int) ∧ i96 + n95 = List.length a0.args ∧ forR F84 (List.drop i96 a0.args) i96 v98 = some out87) (List.length a0.args) ?_ ?_
    · refine ⟨0, 0, 1, ?_, ⟨?_, ?_, ?_, ?_⟩, rfl, (by simp), hl88⟩ <;> first | rfl | simp [E61, hc71]
    rintro n95 fr99 h99 ⟨i96, j97, v98, rfl, E99, hj100, hi101, hl88⟩ K102 hK103
    rcases n95 with _ | n95
    · have hlt104 := ilt_notJ (l := a0.args) hj100 (by omega)
      refine AWp.sr [] fun K105 hk106 => ?_
      simp [E99, hlt104, hc71]
      apply hk106
      refine AWp.seqK fun K107 hk108 => ?_
      refine AWp.condK fun A109 B110 ga111 gb112 => ?_
      simp [E99, hlt104, hc71]
      apply gb112
      refine AWp.exit ?_
      apply ne92
      rw [List.drop_eq_nil_of_le (by omega), forR_nil] at hl88
      obtain rfl := Option.some.inj hl88
      rw [sumK_inl] at hmB89
      try dsimp only at hmB89
      apply hk79
      refine AWp.sr [] fun K113 hk114 => ?_
      simp [E99, hlt104, hc71]
      apply hk114
      refine AWp.ret ?_
      simp only [Option.some.injEq, Prod.mk.injEq] at hmB89
      obtain ⟨rfl, rfl⟩ := hmB89
      simp [retQ, E99, hlt104, hc71]
    have hlt104 := ilt_ofJ (l := a0.args) hj100 (by omega)
    obtain ⟨x115, hdn95, hg116⟩ := drop_ltJ (l := a0.args) hj100 (by omega)
    rw [hdn95, forR_cons] at hl88
    obtain ⟨c117, hb118, hk119⟩ := bind1_some hl88
    clear hl88
    rw [hF85, ← hj100] at hb118
    try dsimp only at hb118
    refine AWp.sr [] fun K120 hk121 => ?_
    simp [E99, hlt104, hg116, hc71]
    apply hk121
    refine AWp.seqK fun K122 hk123 => ?_
    refine AWp.condK fun A124 B125 ga126 gb127 => ?_
    simp [E99, hlt104, hg116, hc71]
    apply ga126
    refine AWp.skip ?_
    apply hk123
    refine AWp.seqK fun K128 hk129 => ?_
    refine AWp.blockK fun Q130 nn131 ne132 nx133 nr134 => ?_
    refine AWp.sr [] fun K135 hk136 => ?_
    simp [E99, hlt104, hg116, hc71]
    apply hk136
    refine AWp.sr [] fun K137 hk138 => ?_
    obtain ⟨x139, x140, hx141, hm142⟩ := bind2_some hb118
    clear hb118
    try dsimp only at hm142
    simp [E99, hlt104, hg116, hc71]
    refine CallAt.fn (ih hx141) ?_
    simp [E99, hlt104, hg116, hc71]
    apply hk138
    refine AWp.seqK fun K143 hk144 => ?_
    refine AWp.sr [] fun K145 hk146 => ?_
    simp [E99, hlt104, hg116, hc71]
    apply hk146
    refine AWp.condK fun A147 B148 ga149 gb150 => ?_
    rcases ite_some hm142 with ⟨hc151, hm152⟩ | ⟨hc151, hm153⟩
    rotate_left
    · clear hm142
      simp [E99, hlt104, hg116, hc71, hc151]
      apply ga149
      refine AWp.sr [] fun K154 hk155 => ?_
      simp [E99, hlt104, hg116, hc71, hc151]
      apply hk155
      refine AWp.ret ?_
      apply nr134
      apply nr94
      obtain rfl := Option.some.inj hm153
      rw [ctlK_ret] at hk119
      obtain rfl := Option.some.inj hk119
      rw [sumK_inr] at hmB89
      try dsimp only at hmB89
      simp only [Option.some.injEq, Prod.mk.injEq] at hmB89
      obtain ⟨rfl, rfl⟩ := hmB89
      simp [retQ, E99, hlt104, hg116, hc71, hc151]
    clear hm142
    simp [E99, hlt104, hg116, hc71, hc151]
    apply gb150
    refine AWp.skip ?_
    apply hk144
    refine AWp.region [] (by decide +kernel) ?_
    simp [E99, hlt104, hg116, hc71, hc151]
    apply nn131
    apply hk129
    refine AWp.region [] (by decide +kernel) ?_
    simp [E99, hlt104, hg116, hc71, hc151]
    obtain rfl := Option.some.inj hm152
    rw [ctlK_next] at hk119
    refine hK103 _ _ n95 (Nat.lt_succ_self _) ⟨(i96 + 1), (iadd .i64 j97 1), (iadd .i64 v98 x139), ?_, ⟨?_, ?_, ?_, ?_⟩, (iadd_idxJ hj100 (by omega) hok82), (by omega), hk119⟩ <;> first | rfl | simp [E99, hlt104, hg116, hc71, hc151]
theorem r_tree_typeNodes (T : Tabs) {H : Heap} {a0 : Ty} {r0 : Int} {r1 : Bool} {n : Nat} (hm : tree_typeNodes n a0 = some (r0, r1)) : ACall Tryd.prog T 116 [Ty.av a0] H (AV.tuple [AV.sc (.int .i64 r0), AV.sc (.bool r1)]) H := (rg_tree_typeNodes T n) hm

theorem enters112 : entersB Tryd.prog 112 = true := by kernel_rfl

theorem r_tree_CheckType (T : Tabs) {H : Heap} {a0 : Ty} {r0 : Int} {r1 : Int} (hm : tree_CheckType a0 = some (r0, r1)) : ACall Tryd.prog T 112 [Ty.av a0] H (AV.tuple [AV.sc (.int .i64 r0), AV.sc (.int .i64 r1)]) H := by
  rw [tree_CheckType] at hm
  refine ACallP.intro (fn := Tryd.f112) Tryd.func112 rfl enters112 (Nat.le_of_ble_eq_true rfl) ?_
  refine AWp.sr [] fun K1 hk2 => ?_
  simp
  apply hk2
  refine AWp.sr [] fun K3 hk4 => ?_
  obtain ⟨x5, x6, hx7, hm8⟩ := bind2_some hm
  clear hm
  try dsimp only at hm8
  simp
  refine CallAt.fn (r_tree_typeNodes T hx7) ?_
  simp
  apply hk4
  refine AWp.seqK fun K9 hk10 => ?_
  refine AWp.blockK fun Q11 nn12 ne13 nx14 nr15 => ?_
  refine AWp.sr [] fun K16 hk17 => ?_
  simp
  apply hk17
  refine AWp.condK fun A18 B19 ga20 gb21 => ?_
  rcases ite_some hm8 with ⟨hc22, hm23⟩ | ⟨hc22, hm24⟩
  rotate_left
  · clear hm8
    simp [hc22]
    apply ga20
    refine AWp.sr [] fun K25 hk26 => ?_
    simp [hc22]
    apply hk26
    refine AWp.ret ?_
    apply nr15
    simp only [Option.some.injEq, Prod.mk.injEq] at hm24
    obtain ⟨rfl, rfl⟩ := hm24
    simp [retQ, hc22]
  clear hm8
  simp [hc22]
  apply gb21
  refine AWp.sr [] fun K27 hk28 => ?_
  simp [hc22]
  apply hk28
  refine AWp.condK fun A29 B30 ga31 gb32 => ?_
  rcases ite_some hm23 with ⟨hc33, hm34⟩ | ⟨hc33, hm35⟩
  · clear hm23
    simp [hc22, hc33]
    apply ga31
    refine AWp.sr [] fun K36 hk37 => ?_
    simp [hc22, hc33]
    apply hk37
    refine AWp.ret ?_
    apply nr15
    simp only [Option.some.injEq, Prod.mk.injEq] at hm34
    obtain ⟨rfl, rfl⟩ := hm34
    simp [retQ, hc22, hc33]
  clear hm23
  simp [hc22, hc33]
  apply gb32
  refine AWp.skip ?_
  apply nn12
  apply hk10
  refine AWp.sr [] fun K38 hk39 => ?_
  simp [hc22, hc33]
  apply hk39
  refine AWp.ret ?_
  simp only [Option.some.injEq, Prod.mk.injEq] at hm35
  obtain ⟨rfl, rfl⟩ := hm35
  simp [retQ, hc22, hc33]

theorem enters113 : entersB Tryd.prog 113 = true := by kernel_rfl

theorem r_tree_NoType (T : Tabs) {H : Heap} {a0 : Ty} {r0 : Bool} (hm : tree_NoType a0 = some r0) : ACall Tryd.prog T 113 [Ty.av a0] H (AV.sc (.bool r0)) H := by
  rw [tree_NoType] at hm
  refine ACallP.intro (fn := Tryd.f113) Tryd.func113 rfl enters113 (Nat.le_of_ble_eq_true rfl) ?_
  refine AWp.sr [] fun K1 hk2 => ?_
  simp
  apply hk2
  refine AWp.seqP (fun fr h => H = h ∧ fr.env 2 = AV.sc (.bool (sel (ieq a0.kind 0) (ieq (llen a0.args) 0) false))) (fun K3 hk4 => ?_) ?_
  rotate_left
  · rintro fr5 h5 ⟨rfl, E5⟩
    refine AWp.ret ?_
    obtain rfl := Option.some.inj hm
    simp [retQ, E5]
  refine AWp.region [] (by decide +kernel) ?_
  rcases Bool.eq_false_or_eq_true (ieq a0.kind 0) with hc6 | hc6
  · simp [hc6]
    refine hk4 _ _ ⟨?_, ?_⟩ <;> first | rfl | simp [hc6]
  simp [hc6]
  refine hk4 _ _ ⟨?_, ?_⟩ <;> first | rfl | simp [hc6]

theorem enters96 : entersB Tryd.prog 96 = true := by kernel_rfl

theorem rg_tree_termNodes (T : Tabs) (hT : T 0 = some (AV.agg (List.map (fun n => AV.sc (Value.int .i64 n)) tree_arities))) : ∀ (n : Nat), (∀ {H : Heap} {a0 : Tm} {r0 : Int} {r1 : Bool} (hm : tree_termNodes n a0 = some (r0, r1)), ACall Tryd.prog T 96 [Tm.av a0] H (AV.tuple [AV.sc (.int .i64 r0), AV.sc (.bool r1)]) H) := by
  intro n
  induction n with
  | zero =>
    skip
    all_goals
      intros
      rename_i hm
      cases hm
  | succ n ih =>
    intro H a0 r0 r1 hm
    rw [tree_termNodes] at hm
    refine ACallP.intro (fn := Tryd.f96) Tryd.func96 rfl enters96 (Nat.le_of_ble_eq_true rfl) ?_
    refine AWp.sr [] fun K1 hk2 => ?_
    simp [hT]
    apply hk2
    refine AWp.sr [] fun K3 hk4 => ?_
    obtain ⟨x5, x6, hx7, hm8⟩ := bind2_some hm
    clear hm
    try dsimp only at hm8
    simp [hT]
    refine CallAt.fn (r_tree_Arity T hT hx7) ?_
    simp [hT]
    apply hk4
    refine AWp.seqK fun K9 hk10 => ?_
    refine AWp.seqP (fun fr h => ∃ (g1_17 : Nat), H = h ∧ (fr.env 1 = AV.lptr 1 g1_17 0 ∧ fr.env 42 = AV.sc (.bool (sel x6 (sel (ine (llen a0.args) x5) true (sel (ilt a0.index 0) true (sel (ine a0.index 0) (ine a0.kind 1) false))) true)) ∧ fr.gen 1 = g1_17 ∧ fr.box 1 = some [AV.sc (.int .i64 a0.kind), AV.sc (.int .i64 a0.index), AV.sc (.int .i64 a0.typeF.kind), AV.slice .frz (List.map Ty.av a0.typeF.args), AV.slice .frz (List.map Tm.av a0.args)])) (fun K11 hk12 => ?_) ?_
    · refine AWp.region [] (by decide +kernel) ?_
      rcases Bool.eq_false_or_eq_true x6 with hc13 | hc13
      rotate_left
      · simp [hT, hc13]
        refine hk12 _ _ ⟨1, ?_, ⟨?_, ?_, ?_, ?_⟩⟩ <;> first | rfl | simp [hT, hc13]
      rcases Bool.eq_false_or_eq_true (ine (llen a0.args) x5) with hc14 | hc14
      · simp [hT, hc13, hc14]
        refine hk12 _ _ ⟨1, ?_, ⟨?_, ?_, ?_, ?_⟩⟩ <;> first | rfl | simp [hT, hc13, hc14]
      rcases Bool.eq_false_or_eq_true (ilt a0.index 0) with hc15 | hc15
      · simp [hT, hc13, hc14, hc15]
        refine hk12 _ _ ⟨1, ?_, ⟨?_, ?_, ?_, ?_⟩⟩ <;> first | rfl | simp [hT, hc13, hc14, hc15]
      rcases Bool.eq_false_or_eq_true (ine a0.index 0) with hc16 | hc16
      · simp [hT, hc13, hc14, hc15, hc16]
        refine hk12 _ _ ⟨1, ?_, ⟨?_, ?_, ?_, ?_⟩⟩ <;> first | rfl | simp [hT, hc13, hc14, hc15, hc16]
      simp [hT, hc13, hc14, hc15, hc16]
      refine hk12 _ _ ⟨1, ?_, ⟨?_, ?_, ?_, ?_⟩⟩ <;> first | rfl | simp [hT, hc13, hc14, hc15, hc16]
    rintro fr17 h17 ⟨g1_17, rfl, E17⟩
    refine AWp.condK fun A18 B19 ga20 gb21 => ?_
    rcases ite_some hm8 with ⟨hc22, hm23⟩ | ⟨hc22, hm24⟩
    · clear hm8
      simp [E17, hT, hc22]
      apply ga20
      refine AWp.sr [] fun K25 hk26 => ?_
      simp [E17, hT, hc22]
      apply hk26
      refine AWp.ret ?_
      simp only [Option.some.injEq, Prod.mk.injEq] at hm23
      obtain ⟨rfl, rfl⟩ := hm23
      simp [retQ, E17, hT, hc22]
    clear hm8
    simp [E17, hT, hc22]
    apply gb21
    refine AWp.skip ?_
    apply hk10
    obtain ⟨j27, hj28, hm29⟩ := joinB_some hm24
    clear hm24
    refine AWp.seqP (fun fr h => ∃ (g1_75 : Nat), H = h ∧ (fr.env 1 = AV.lptr 1 g1_75 0 ∧ fr.gen 1 = g1_75 ∧ fr.box 1 = some [AV.sc (.int .i64 a0.kind), AV.sc (.int .i64 a0.index), AV.sc (.int .i64 a0.typeF.kind), AV.slice .frz (List.map Ty.av a0.typeF.args), AV.slice .frz (List.map Tm.av a0.args)]) ∧ j27 = some (r0, r1)) (fun K30 hk31 => ?_) ?_
    · refine AWp.sr [] fun K32 hk33 => ?_
      obtain ⟨x34, hx35, hm36⟩ := bind1_some hm29
      clear hm29
      try dsimp only at hm36
      simp [E17, hT, hc22]
      refine CallAt.fn (r_tree_Typed T hx35) ?_
      simp [E17, hT, hc22]
      apply hk33
      refine AWp.condK fun A37 B38 ga39 gb40 => ?_
      rcases ite_some hm36 with ⟨hc41, hm42⟩ | ⟨hc41, hm43⟩
      rotate_left
      · clear hm36
        simp [E17, hT, hc22, hc41]
        apply gb40
        refine AWp.sr [] fun K44 hk45 => ?_
        obtain ⟨x46, hx47, hm48⟩ := bind1_some hm43
        clear hm43
        try dsimp only at hm48
        simp [E17, hT, hc22, hc41]
        refine CallAt.fn (r_tree_NoType T hx47) ?_
        simp [E17, hT, hc22, hc41]
        apply hk45
        refine AWp.condK fun A49 B50 ga51 gb52 => ?_
        rcases ite_some hm48 with ⟨hc53, hm54⟩ | ⟨hc53, hm55⟩
        · clear hm48
          simp [E17, hT, hc22, hc41, hc53]
          apply gb52
          refine AWp.skip ?_
          refine hk31 _ _ ⟨g1_17, ?_, ⟨?_, ?_, ?_⟩, hm54⟩ <;> first | rfl | simp [E17, hT, hc22, hc41, hc53]
        clear hm48
        simp [E17, hT, hc22, hc41, hc53]
        apply ga51
        refine AWp.sr [] fun K56 hk57 => ?_
        simp [E17, hT, hc22, hc41, hc53]
        apply hk57
        refine AWp.ret ?_
        simp only [Option.some.injEq, Prod.mk.injEq] at hm55
        obtain ⟨rfl, rfl⟩ := hm55
        simp [retQ, E17, hT, hc22, hc41, hc53]
      clear hm36
      simp [E17, hT, hc22, hc41]
      apply ga39
      refine AWp.sr [] fun K58 hk59 => ?_
      obtain ⟨x60, x61, hx62, hm63⟩ := bind2_some hm42
      clear hm42
      try dsimp only at hm63
      simp [E17, hT, hc22, hc41]
      refine CallAt.fn (r_tree_CheckType T hx62) ?_
      simp [E17, hT, hc22, hc41]
      apply hk59
      refine AWp.sr [] fun K64 hk65 => ?_
      simp [E17, hT, hc22, hc41]
      apply hk65
      refine AWp.condK fun A66 B67 ga68 gb69 => ?_
      rcases ite_some hm63 with ⟨hc70, hm71⟩ | ⟨hc70, hm72⟩
      rotate_left
      · clear hm63
        simp [E17, hT, hc22, hc41, hc70]
        apply gb69
        refine AWp.skip ?_
        refine hk31 _ _ ⟨g1_17, ?_, ⟨?_, ?_, ?_⟩, hm72⟩ <;> first | rfl | simp [E17, hT, hc22, hc41, hc70]
      clear hm63
      simp [E17, hT, hc22, hc41, hc70]
      apply ga68
      refine AWp.sr [] fun K73 hk74 => ?_
      simp [E17, hT, hc22, hc41, hc70]
      apply hk74
      refine AWp.ret ?_
      simp only [Option.some.injEq, Prod.mk.injEq] at hm71
      obtain ⟨rfl, rfl⟩ := hm71
      simp [retQ, E17, hT, hc22, hc41, hc70]
    clear hm29
    rintro fr75 h75 ⟨g1_75, rfl, E75, hm76⟩
    subst hj28
    refine AWp.sr [] fun K77 hk78 => ?_
    simp [E75, hT, hc22]
    apply hk78
    refine AWp.seqK fun K79 hk80 => ?_
    refine AWp.sr [] fun K81 hk82 => ?_
    simp [E75, hT, hc22]
    apply hk82
    obtain ⟨hok83, hm84⟩ := chk_some hm76
    clear hm76
    obtain ⟨F85, hF86, hm87⟩ := joinB_some hm84
    clear hm84
    try dsimp only at hm87
    obtain ⟨out88, hl89, hmB90⟩ := bind1_some hm87
    clear hm87
    refine AWp.blockK fun Q91 nn92 ne93 nx94 nr95 => ?_
    refine AWp.loopF (fun n96 fr h => ∃ (i97 : Nat) (j98 : Int) (v99 : Int), H = h ∧ (fr.env 8 = AV.sc (.int .i64 v99) ∧ fr.env 59 = AV.slice .frz (List.map Tm.av a0.args) ∧ fr.env 60 = AV.sc (.int .i64 (llen a0.args)) ∧ fr.env 61 = AV.sc (.int .i64 j98)) ∧ j98 = (i97 : Int) ∧ i97 + n96 = List.length a0.args ∧ forR F85 (List.drop i97 a0.args) i97 v99 = some out88) (List.length a0.args) ?_ ?_
    · refine ⟨0, 0, 1, ?_, ⟨?_, ?_, ?_, ?_⟩, rfl, (by simp), hl89⟩ <;> first | rfl | simp [E75, hT, hc22]
    rintro n96 fr100 h100 ⟨i97, j98, v99, rfl, E100, hj101, hi102, hl89⟩ K103 hK104
    rcases n96 with _ | n96
    · have hlt105 := ilt_notJ (l := a0.args) hj101 (by omega)
      refine AWp.sr [] fun K106 hk107 => ?_
      simp [E100, hT, hlt105, hc22]
      apply hk107
      refine AWp.seqK fun K108 hk109 => ?_
      refine AWp.condK fun A110 B111 ga112 gb113 => ?_
      simp [E100, hT, hlt105, hc22]
      apply gb113
      refine AWp.exit ?_
      apply ne93
      rw [List.drop_eq_nil_of_le (by omega), forR_nil] at hl89
      obtain rfl := Option.some.inj hl89
      rw [sumK_inl] at hmB90
      try dsimp only at hmB90
      apply hk80
      refine AWp.sr [] fun K114 hk115 => ?_
      simp [E100, hT, hlt105, hc22]
      apply hk115
      refine AWp.ret ?_
      simp only [Option.some.injEq, Prod.mk.injEq] at hmB90
      obtain ⟨rfl, rfl⟩ := hmB90
      simp [retQ, E100, hT, hlt105, hc22]
    have hlt105 := ilt_ofJ (l := a0.args) hj101 (by omega)
    obtain ⟨x116, hdn96, hg117⟩ := drop_ltJ (l := a0.args) hj101 (by omega)
    rw [hdn96, forR_cons] at hl89
    obtain ⟨c118, hb119, hk120⟩ := bind1_some hl89
    clear hl89
    rw [hF86, ← hj101] at hb119
    try dsimp only at hb119
    refine AWp.sr [] fun K121 hk122 => ?_
    simp [E100, hT, hlt105, hg117, hc22]
    apply hk122
    refine AWp.seqK fun K123 hk124 => ?_
    refine AWp.condK fun A125 B126 ga127 gb128 => ?_
    simp [E100, hT, hlt105, hg117, hc22]
    apply ga127
    refine AWp.skip ?_
    apply hk124
    refine AWp.seqK fun K129 hk130 => ?_
    refine AWp.blockK fun Q131 nn132 ne133 nx134 nr135 => ?_
    refine AWp.sr [] fun K136 hk137 => ?_
    simp [E100, hT, hlt105, hg117, hc22]
    apply hk137
    refine AWp.sr [] fun K138 hk139 => ?_
    obtain ⟨x140, x141, hx142, hm143⟩ := bind2_some hb119
    clear hb119
    try dsimp only at hm143
    simp [E100, hT, hlt105, hg117, hc22]
    refine CallAt.fn (ih hx142) ?_
    simp [E100, hT, hlt105, hg117, hc22]
    apply hk139
    refine AWp.seqK fun K144 hk145 => ?_
    refine AWp.sr [] fun K146 hk147 => ?_
    simp [E100, hT, hlt105, hg117, hc22]
    apply hk147
    refine AWp.condK fun A148 B149 ga150 gb151 => ?_
    rcases ite_some hm143 with ⟨hc152, hm153⟩ | ⟨hc152, hm154⟩
    rotate_left
    · clear hm143
      simp [E100, hT, hlt105, hg117, hc22, hc152]
      apply ga150
      refine AWp.sr [] fun K155 hk156 => ?_
      simp [E100, hT, hlt105, hg117, hc22, hc152]
      apply hk156
      refine AWp.ret ?_
      apply nr135
      apply nr95
      obtain rfl := Option.some.inj hm154
      rw [ctlK_ret] at hk120
      obtain rfl := Option.some.inj hk120
      rw [sumK_inr] at hmB90
      try dsimp only at hmB90
      simp only [Option.some.injEq, Prod.mk.injEq] at hmB90
      obtain ⟨rfl, rfl⟩ := hmB90
      simp [retQ, E100, hT, hlt105, hg117, hc22, hc152]
    clear hm143
    simp [E100, hT, hlt105, hg117, hc22, hc152]
    apply gb151
    refine AWp.skip ?_
    apply hk145
    refine AWp.region [] (by decide +kernel) ?_
    simp [E100, hT, hlt105, hg117, hc22, hc152]
    apply nn132
    apply hk130
    refine AWp.region [] (by decide +kernel) ?_
    simp [E100, hT, hlt105, hg117, hc22, hc152]
    obtain rfl := Option.some.inj hm153
    rw [ctlK_next] at hk120
    refine hK104 _ _ n96 (Nat.lt_succ_self _) ⟨(i97 + 1), (iadd .i64 j98 1), (iadd .i64 v99 x140), ?_, ⟨?_, ?_, ?_, ?_⟩, (iadd_idxJ hj101 (by omega) hok83), (by omega), hk120⟩ <;> first | rfl | simp [E100, hT, hlt105, hg117, hc22, hc152]
theorem r_tree_termNodes (T : Tabs) (hT : T 0 = some (AV.agg (List.map (fun n => AV.sc (Value.int .i64 n)) tree_arities))) {H : Heap} {a0 : Tm} {r0 : Int} {r1 : Bool} {n : Nat} (hm : tree_termNodes n a0 = some (r0, r1)) : ACall Tryd.prog T 96 [Tm.av a0] H (AV.tuple [AV.sc (.int .i64 r0), AV.sc (.bool r1)]) H := (rg_tree_termNodes T hT n) hm

end Go.Proofs.YtnabbjnhemmkhaaDoor
