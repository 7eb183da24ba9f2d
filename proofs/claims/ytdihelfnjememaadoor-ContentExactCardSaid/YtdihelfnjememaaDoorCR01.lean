/- The program's functions do what the models say. -/
import Derived.Test.YtdihelfnjememaaDoorCE
import Derived.Test.YtdihelfnjememaaDoorCM
set_option linter.unusedSimpArgs false
set_option linter.unusedVariables false
namespace Go.Proofs.YtdihelfnjememaaDoor
open Go Go.Abs Go.Mdl

theorem enters77 : entersB Tryd.prog 77 = true := by kernel_rfl
set_option maxRecDepth 20000 in
set_option maxHeartbeats 4000000 in
theorem rg_ref01_Copy (T : Tabs) : ∀ (n : Nat), (∀ {H : Heap} {a0 : Ty} {r0 : Ty} (hm : ref01_Copy n a0 = some r0), ACall Tryd.prog T 77 [Ty.av a0] H (Ty.av r0) H) := by
  intro n
  induction n with
  | zero =>
    skip
    all_goals
      intros
      rename_i hm
      cases hm
  | succ n ih =>
    intro H a0 r0 hm
    rw [ref01_Copy] at hm
    refine ACallP.intro (fn := Tryd.f77) Tryd.func77 rfl enters77 (Nat.le_of_ble_eq_true rfl) ?_
    refine AWp.seqK fun K1 hk2 => ?_
    refine AWp.region [] (by decide +kernel) ?_
    simp
    refine hk2 _ _ ?_
    refine AWp.seqK fun K3 hk4 => ?_
    refine AWp.region [] (by decide +kernel) ?_
    simp
    refine hk4 _ _ ?_
    refine AWp.seqK fun K91 hk92 => ?_
    refine AWp.seqK fun K93 hk94 => ?_
    refine AWp.region [] (by decide +kernel) ?_
    simp
    refine hk94 _ _ ?_
    obtain ⟨hok197, hm252⟩ := chk_some hm
    clear hm
    obtain ⟨F179, hF180, hm253⟩ := joinB_some hm252
    clear hm252
    try dsimp only at hm253
    obtain ⟨out181, hl182, hmB183⟩ := bind1_some hm253
    clear hm253
    refine AWp.blockK fun Q188 nn189 ne190 nx191 nr192 => ?_
    refine AWp.loopF (fun n187 fr h => ∃ (i96 : Nat) (j95 : Int) (v178 : (List Ty)) (tg0_177 : Tag) (g1_177 : Nat) (g2_177 : Nat), H = h ∧ fr.env 1 = AV.lptr 1 g1_177 0 ∧ fr.env 2 = AV.lptr 2 g2_177 0 ∧ fr.env 3 = AV.slice tg0_177 (List.map Ty.av v178) ∧ fr.env 7 = AV.slice .frz (List.map Ty.av a0.args) ∧ fr.env 8 = AV.sc (.int .i64 (llen a0.args)) ∧ fr.env 9 = AV.sc (.int .i64 j95) ∧ fr.gen 1 = g1_177 ∧ fr.box 1 = some [AV.sc (.int .i64 a0.kind), AV.slice .frz (List.map Ty.av a0.args)] ∧ fr.gen 2 = g2_177 ∧ fr.box 2 = some [AV.sc (.int .i64 0), AV.slice .full []] ∧ OwnT fr.tab fr.tgen [17] tg0_177 (List.length v178) ∧ j95 = (i96 : Int) ∧ i96 + n187 = List.length a0.args ∧ forR F179 (List.drop i96 a0.args) i96 v178 = some out181) (List.length a0.args) ?_ ?_
    · refine ⟨0, 0, [], .full, 1, 1, ?_, ?_, ?_, ?_, ?_, ?_, ?_, ?_, ?_, ?_, ?_, OwnT.full, rfl, (by simp), hl182⟩ <;> first | rfl | simp
    · rintro n187 fr177 h177 ⟨i96, j95, v178, tg0_177, g1_177, g2_177, rfl, e1_177, e2_177, e3_177, e7_177, e8_177, e9_177, g1e_177, b1_177, g2e_177, b2_177, o0_177, hj195, hi196, hl182⟩ K194 hK193
      rcases n187 with _ | n187
      · have hlt198 := ilt_notJ (l := a0.args) hj195 (by omega)
        refine AWp.seqK fun K238 hk239 => ?_
        refine AWp.region [] (by decide +kernel) ?_
        simp [e1_177, e2_177, e3_177, e7_177, e8_177, e9_177, g1e_177, b1_177, g2e_177, b2_177, hlt198]
        refine hk239 _ _ ?_
        refine AWp.seqK fun K244 hk245 => ?_
        refine AWp.condK rfl fun A246 B247 ga248 gb249 => ?_
        simp [e1_177, e2_177, e3_177, e7_177, e8_177, e9_177, g1e_177, b1_177, g2e_177, b2_177, hlt198]
        refine gb249 _ _ ?_
        refine AWp.exit ?_
        try simp only [thenQ_exit]
        refine ne190 _ _ ?_
        try simp only [thenQ_normal]
        rw [List.drop_eq_nil_of_le (by omega), forR_nil] at hl182
        obtain rfl := Option.some.inj hl182
        rw [sumK_inl] at hmB183
        try dsimp only at hmB183
        refine hk92 _ _ ?_
        refine AWp.seqK fun K250 hk251 => ?_
        refine AWp.region [] (by decide +kernel) ?_
        simp [e1_177, e2_177, e3_177, e7_177, e8_177, e9_177, g1e_177, b1_177, g2e_177, b2_177, hlt198]
        refine hk251 _ _ ?_
        refine AWp.ret ?_
        try simp only [thenQ_ret]
        obtain rfl := Option.some.inj hmB183
        simp [retQ, e1_177, e2_177, e3_177, e7_177, e8_177, e9_177, g1e_177, b1_177, g2e_177, b2_177, hlt198]
      · have hlt198 := ilt_ofJ (l := a0.args) hj195 (by omega)
        obtain ⟨x97, hdn187, hg199⟩ := drop_ltJ (l := a0.args) hj195 (by omega)
        rw [hdn187, forR_cons] at hl182
        obtain ⟨c184, hb186, hk185⟩ := bind1_some hl182
        clear hl182
        rw [hF180, ← hj195] at hb186
        try dsimp only at hb186
        refine AWp.seqK fun K200 hk201 => ?_
        refine AWp.region [] (by decide +kernel) ?_
        simp [e1_177, e2_177, e3_177, e7_177, e8_177, e9_177, g1e_177, b1_177, g2e_177, b2_177, hlt198, hg199]
        refine hk201 _ _ ?_
        refine AWp.seqK fun K206 hk207 => ?_
        refine AWp.condK rfl fun A208 B209 ga210 gb211 => ?_
        simp [e1_177, e2_177, e3_177, e7_177, e8_177, e9_177, g1e_177, b1_177, g2e_177, b2_177, hlt198, hg199]
        refine ga210 _ _ ?_
        refine AWp.skip ?_
        try simp only [thenQ_normal]
        refine hk207 _ _ ?_
        refine AWp.seqK fun K224 hk225 => ?_
        refine AWp.blockK fun Q226 nn227 ne228 nx229 nr230 => ?_
        refine AWp.seqK fun K231 hk232 => ?_
        refine AWp.region [] (by decide +kernel) ?_
        simp [e1_177, e2_177, e3_177, e7_177, e8_177, e9_177, g1e_177, b1_177, g2e_177, b2_177, hlt198, hg199]
        refine hk232 _ _ ?_
        refine AWp.region [] (by decide +kernel) ?_
        obtain ⟨x233, hx234, hm235⟩ := bind1_some hb186
        clear hb186
        try dsimp only at hm235
        simp [e1_177, e2_177, e3_177, e7_177, e8_177, e9_177, g1e_177, b1_177, g2e_177, b2_177, hlt198, hg199]
        refine CallAt.fn (ih hx234) ?_
        obtain ⟨ha236, hm237⟩ := chk_some hm235
        clear hm235
        simp [e1_177, e2_177, e3_177, e7_177, e8_177, e9_177, g1e_177, b1_177, g2e_177, b2_177, hlt198, hg199]
        refine AppAt.own (f := Ty.av) v178 [x233] o0_177 ap23 (by intro x; simp) ha236 (by first | rfl | simp) (by first | rfl | simp) ?_
        simp [e1_177, e2_177, e3_177, e7_177, e8_177, e9_177, g1e_177, b1_177, g2e_177, b2_177, hlt198, hg199]
        refine nn227 _ _ ?_
        try simp only [thenQ_normal]
        refine hk225 _ _ ?_
        refine AWp.region [] (by decide +kernel) ?_
        simp [e1_177, e2_177, e3_177, e7_177, e8_177, e9_177, g1e_177, b1_177, g2e_177, b2_177, hlt198, hg199]
        obtain rfl := Option.some.inj hm237
        rw [ctlK_next] at hk185
        refine hK193 _ _ n187 (Nat.lt_succ_self _) ⟨(i96 + 1), (iadd .i64 j95 1), (lapp v178 [x233]), (.loc 17 (fr177.tgen 17 + 1)), g1_177, g2_177, ?_, ?_, ?_, ?_, ?_, ?_, ?_, ?_, ?_, ?_, ?_, (OwnT.mono (D := [17]) (OwnT.new (D := [17]) (d := 17) (by decide)) (by decide)), (iadd_idxJ hj195 (by omega) hok197), (by omega), hk185⟩ <;> first | rfl | simp [e1_177, e2_177, e3_177, e7_177, e8_177, e9_177, g1e_177, b1_177, g2e_177, b2_177, hlt198, hg199]
theorem r_ref01_Copy (T : Tabs) {H : Heap} {a0 : Ty} {r0 : Ty} {n : Nat} (hm : ref01_Copy n a0 = some r0) : ACall Tryd.prog T 77 [Ty.av a0] H (Ty.av r0) H := (rg_ref01_Copy T n) hm

theorem enters78 : entersB Tryd.prog 78 = true := by kernel_rfl
set_option maxRecDepth 20000 in
set_option maxHeartbeats 4000000 in
theorem rg_ref02_Copy (T : Tabs) : ∀ (n : Nat), (∀ {H : Heap} {a0 : Tm} {r0 : Tm} (hm : ref02_Copy n a0 = some r0), ACall Tryd.prog T 78 [Tm.av a0] H (Tm.av r0) H) := by
  intro n
  induction n with
  | zero =>
    skip
    all_goals
      intros
      rename_i hm
      cases hm
  | succ n ih =>
    intro H a0 r0 hm
    rw [ref02_Copy] at hm
    refine ACallP.intro (fn := Tryd.f78) Tryd.func78 rfl enters78 (Nat.le_of_ble_eq_true rfl) ?_
    refine AWp.seqK fun K1 hk2 => ?_
    refine AWp.region [] (by decide +kernel) ?_
    simp
    refine hk2 _ _ ?_
    refine AWp.seqK fun K3 hk4 => ?_
    refine AWp.region [] (by decide +kernel) ?_
    simp
    refine hk4 _ _ ?_
    refine AWp.seqK fun K91 hk92 => ?_
    refine AWp.seqK fun K93 hk94 => ?_
    refine AWp.region [] (by decide +kernel) ?_
    simp
    refine hk94 _ _ ?_
    obtain ⟨hok197, hm258⟩ := chk_some hm
    clear hm
    obtain ⟨F179, hF180, hm259⟩ := joinB_some hm258
    clear hm258
    try dsimp only at hm259
    obtain ⟨out181, hl182, hmB183⟩ := bind1_some hm259
    clear hm259
    refine AWp.blockK fun Q188 nn189 ne190 nx191 nr192 => ?_
    refine AWp.loopF (fun n187 fr h => ∃ (i96 : Nat) (j95 : Int) (v178 : (List Tm)) (tg0_177 : Tag) (g1_177 : Nat) (g2_177 : Nat), H = h ∧ fr.env 1 = AV.lptr 1 g1_177 0 ∧ fr.env 2 = AV.lptr 2 g2_177 0 ∧ fr.env 3 = AV.slice tg0_177 (List.map Tm.av v178) ∧ fr.env 7 = AV.slice .frz (List.map Tm.av a0.args) ∧ fr.env 8 = AV.sc (.int .i64 (llen a0.args)) ∧ fr.env 9 = AV.sc (.int .i64 j95) ∧ fr.gen 1 = g1_177 ∧ fr.box 1 = some [AV.sc (.int .i64 a0.kind), AV.sc (.int .i64 a0.index), AV.sc (.int .i64 a0.typeF.kind), AV.slice .frz (List.map Ty.av a0.typeF.args), AV.slice .frz (List.map Tm.av a0.args)] ∧ fr.gen 2 = g2_177 ∧ fr.box 2 = some [AV.sc (.int .i64 0), AV.sc (.int .i64 0), AV.sc (.int .i64 0), AV.slice .full [], AV.slice .full []] ∧ OwnT fr.tab fr.tgen [17] tg0_177 (List.length v178) ∧ j95 = (i96 : Int) ∧ i96 + n187 = List.length a0.args ∧ forR F179 (List.drop i96 a0.args) i96 v178 = some out181) (List.length a0.args) ?_ ?_
    · refine ⟨0, 0, [], .full, 1, 1, ?_, ?_, ?_, ?_, ?_, ?_, ?_, ?_, ?_, ?_, ?_, OwnT.full, rfl, (by simp), hl182⟩ <;> first | rfl | simp
    · rintro n187 fr177 h177 ⟨i96, j95, v178, tg0_177, g1_177, g2_177, rfl, e1_177, e2_177, e3_177, e7_177, e8_177, e9_177, g1e_177, b1_177, g2e_177, b2_177, o0_177, hj195, hi196, hl182⟩ K194 hK193
      rcases n187 with _ | n187
      · have hlt198 := ilt_notJ (l := a0.args) hj195 (by omega)
        refine AWp.seqK fun K238 hk239 => ?_
        refine AWp.region [] (by decide +kernel) ?_
        simp [e1_177, e2_177, e3_177, e7_177, e8_177, e9_177, g1e_177, b1_177, g2e_177, b2_177, hlt198]
        refine hk239 _ _ ?_
        refine AWp.seqK fun K244 hk245 => ?_
        refine AWp.condK rfl fun A246 B247 ga248 gb249 => ?_
        simp [e1_177, e2_177, e3_177, e7_177, e8_177, e9_177, g1e_177, b1_177, g2e_177, b2_177, hlt198]
        refine gb249 _ _ ?_
        refine AWp.exit ?_
        try simp only [thenQ_exit]
        refine ne190 _ _ ?_
        try simp only [thenQ_normal]
        rw [List.drop_eq_nil_of_le (by omega), forR_nil] at hl182
        obtain rfl := Option.some.inj hl182
        rw [sumK_inl] at hmB183
        try dsimp only at hmB183
        refine hk92 _ _ ?_
        refine AWp.seqK fun K253 hk254 => ?_
        refine AWp.regionD [] false mixed (by decide +kernel) (by decide +kernel) ?_
        obtain ⟨x255, hx256, hm257⟩ := bind1_some hmB183
        clear hmB183
        try dsimp only at hm257
        simp [e1_177, e2_177, e3_177, e7_177, e8_177, e9_177, g1e_177, b1_177, g2e_177, b2_177, hlt198]
        refine CallAtD.fn (r_ref01_Copy T hx256) (by simp) ?_
        simp [e1_177, e2_177, e3_177, e7_177, e8_177, e9_177, g1e_177, b1_177, g2e_177, b2_177, hlt198]
        refine hk254 _ _ ?_
        refine AWp.ret ?_
        try simp only [thenQ_ret]
        obtain rfl := Option.some.inj hm257
        simp [retQ, e1_177, e2_177, e3_177, e7_177, e8_177, e9_177, g1e_177, b1_177, g2e_177, b2_177, hlt198]
      · have hlt198 := ilt_ofJ (l := a0.args) hj195 (by omega)
        obtain ⟨x97, hdn187, hg199⟩ := drop_ltJ (l := a0.args) hj195 (by omega)
        rw [hdn187, forR_cons] at hl182
        obtain ⟨c184, hb186, hk185⟩ := bind1_some hl182
        clear hl182
        rw [hF180, ← hj195] at hb186
        try dsimp only at hb186
        refine AWp.seqK fun K200 hk201 => ?_
        refine AWp.region [] (by decide +kernel) ?_
        simp [e1_177, e2_177, e3_177, e7_177, e8_177, e9_177, g1e_177, b1_177, g2e_177, b2_177, hlt198, hg199]
        refine hk201 _ _ ?_
        refine AWp.seqK fun K206 hk207 => ?_
        refine AWp.condK rfl fun A208 B209 ga210 gb211 => ?_
        simp [e1_177, e2_177, e3_177, e7_177, e8_177, e9_177, g1e_177, b1_177, g2e_177, b2_177, hlt198, hg199]
        refine ga210 _ _ ?_
        refine AWp.skip ?_
        try simp only [thenQ_normal]
        refine hk207 _ _ ?_
        refine AWp.seqK fun K224 hk225 => ?_
        refine AWp.blockK fun Q226 nn227 ne228 nx229 nr230 => ?_
        refine AWp.seqK fun K231 hk232 => ?_
        refine AWp.region [] (by decide +kernel) ?_
        simp [e1_177, e2_177, e3_177, e7_177, e8_177, e9_177, g1e_177, b1_177, g2e_177, b2_177, hlt198, hg199]
        refine hk232 _ _ ?_
        refine AWp.region [] (by decide +kernel) ?_
        obtain ⟨x233, hx234, hm235⟩ := bind1_some hb186
        clear hb186
        try dsimp only at hm235
        simp [e1_177, e2_177, e3_177, e7_177, e8_177, e9_177, g1e_177, b1_177, g2e_177, b2_177, hlt198, hg199]
        refine CallAt.fn (ih hx234) ?_
        obtain ⟨ha236, hm237⟩ := chk_some hm235
        clear hm235
        simp [e1_177, e2_177, e3_177, e7_177, e8_177, e9_177, g1e_177, b1_177, g2e_177, b2_177, hlt198, hg199]
        refine AppAt.own (f := Tm.av) v178 [x233] o0_177 ap26 (by intro x; simp) ha236 (by first | rfl | simp) (by first | rfl | simp) ?_
        simp [e1_177, e2_177, e3_177, e7_177, e8_177, e9_177, g1e_177, b1_177, g2e_177, b2_177, hlt198, hg199]
        refine nn227 _ _ ?_
        try simp only [thenQ_normal]
        refine hk225 _ _ ?_
        refine AWp.region [] (by decide +kernel) ?_
        simp [e1_177, e2_177, e3_177, e7_177, e8_177, e9_177, g1e_177, b1_177, g2e_177, b2_177, hlt198, hg199]
        obtain rfl := Option.some.inj hm237
        rw [ctlK_next] at hk185
        refine hK193 _ _ n187 (Nat.lt_succ_self _) ⟨(i96 + 1), (iadd .i64 j95 1), (lapp v178 [x233]), (.loc 17 (fr177.tgen 17 + 1)), g1_177, g2_177, ?_, ?_, ?_, ?_, ?_, ?_, ?_, ?_, ?_, ?_, ?_, (OwnT.mono (D := [17]) (OwnT.new (D := [17]) (d := 17) (by decide)) (by decide)), (iadd_idxJ hj195 (by omega) hok197), (by omega), hk185⟩ <;> first | rfl | simp [e1_177, e2_177, e3_177, e7_177, e8_177, e9_177, g1e_177, b1_177, g2e_177, b2_177, hlt198, hg199]
theorem r_ref02_Copy (T : Tabs) {H : Heap} {a0 : Tm} {r0 : Tm} {n : Nat} (hm : ref02_Copy n a0 = some r0) : ACall Tryd.prog T 78 [Tm.av a0] H (Tm.av r0) H := (rg_ref02_Copy T n) hm

theorem enters64 : entersB Tryd.prog 64 = true := by kernel_rfl
set_option maxRecDepth 20000 in
set_option maxHeartbeats 4000000 in
theorem r_ref02_N (T : Tabs) {H : Heap} {a0 : Int} {a1 : (List Tm)} {r0 : Tm} (hm : ref02_N a0 a1 = some r0) : ACall Tryd.prog T 64 [AV.sc (.int .i64 a0), AV.slice .frz (List.map Tm.av a1)] H (Tm.av r0) H := by
  rw [ref02_N] at hm
  refine ACallP.intro (fn := Tryd.f64) Tryd.func64 rfl enters64 (Nat.le_of_ble_eq_true rfl) ?_
  refine AWp.seqK fun K1 hk2 => ?_
  refine AWp.region [] (by decide +kernel) ?_
  simp
  refine hk2 _ _ ?_
  refine AWp.seqK fun K3 hk4 => ?_
  refine AWp.region [] (by decide +kernel) ?_
  simp
  refine hk4 _ _ ?_
  refine AWp.seqK fun K91 hk92 => ?_
  refine AWp.seqK fun K93 hk94 => ?_
  refine AWp.region [] (by decide +kernel) ?_
  simp
  refine hk94 _ _ ?_
  obtain ⟨hok197, hm252⟩ := chk_some hm
  clear hm
  obtain ⟨F179, hF180, hm253⟩ := joinB_some hm252
  clear hm252
  try dsimp only at hm253
  obtain ⟨out181, hl182, hmB183⟩ := bind1_some hm253
  clear hm253
  refine AWp.blockK fun Q188 nn189 ne190 nx191 nr192 => ?_
  refine AWp.loopF (fun n187 fr h => ∃ (i96 : Nat) (j95 : Int) (v178 : (List Tm)) (tg0_177 : Tag) (g4_177 : Nat), H = h ∧ fr.env 0 = AV.sc (.int .i64 a0) ∧ fr.env 4 = AV.lptr 4 g4_177 0 ∧ fr.env 5 = AV.slice tg0_177 (List.map Tm.av v178) ∧ fr.env 8 = AV.slice .frz (List.map Tm.av a1) ∧ fr.env 9 = AV.sc (.int .i64 (llen a1)) ∧ fr.env 10 = AV.sc (.int .i64 j95) ∧ fr.gen 4 = g4_177 ∧ fr.box 4 = some [AV.sc (.int .i64 0), AV.sc (.int .i64 0), AV.sc (.int .i64 0), AV.slice .full [], AV.slice .full []] ∧ OwnT fr.tab fr.tgen [18] tg0_177 (List.length v178) ∧ j95 = (i96 : Int) ∧ i96 + n187 = List.length a1 ∧ forR F179 (List.drop i96 a1) i96 v178 = some out181) (List.length a1) ?_ ?_
  · refine ⟨0, 0, [], .full, 1, ?_, ?_, ?_, ?_, ?_, ?_, ?_, ?_, ?_, OwnT.full, rfl, (by simp), hl182⟩ <;> first | rfl | simp
  · rintro n187 fr177 h177 ⟨i96, j95, v178, tg0_177, g4_177, rfl, e0_177, e4_177, e5_177, e8_177, e9_177, e10_177, g4e_177, b4_177, o0_177, hj195, hi196, hl182⟩ K194 hK193
    rcases n187 with _ | n187
    · have hlt198 := ilt_notJ (l := a1) hj195 (by omega)
      refine AWp.seqK fun K238 hk239 => ?_
      refine AWp.region [] (by decide +kernel) ?_
      simp [e0_177, e4_177, e5_177, e8_177, e9_177, e10_177, g4e_177, b4_177, hlt198]
      refine hk239 _ _ ?_
      refine AWp.seqK fun K244 hk245 => ?_
      refine AWp.condK rfl fun A246 B247 ga248 gb249 => ?_
      simp [e0_177, e4_177, e5_177, e8_177, e9_177, e10_177, g4e_177, b4_177, hlt198]
      refine gb249 _ _ ?_
      refine AWp.exit ?_
      try simp only [thenQ_exit]
      refine ne190 _ _ ?_
      try simp only [thenQ_normal]
      rw [List.drop_eq_nil_of_le (by omega), forR_nil] at hl182
      obtain rfl := Option.some.inj hl182
      rw [sumK_inl] at hmB183
      try dsimp only at hmB183
      refine hk92 _ _ ?_
      refine AWp.seqK fun K250 hk251 => ?_
      refine AWp.region [] (by decide +kernel) ?_
      simp [e0_177, e4_177, e5_177, e8_177, e9_177, e10_177, g4e_177, b4_177, hlt198]
      refine hk251 _ _ ?_
      refine AWp.ret ?_
      try simp only [thenQ_ret]
      obtain rfl := Option.some.inj hmB183
      simp [retQ, e0_177, e4_177, e5_177, e8_177, e9_177, e10_177, g4e_177, b4_177, hlt198]
    · have hlt198 := ilt_ofJ (l := a1) hj195 (by omega)
      obtain ⟨x97, hdn187, hg199⟩ := drop_ltJ (l := a1) hj195 (by omega)
      rw [hdn187, forR_cons] at hl182
      obtain ⟨c184, hb186, hk185⟩ := bind1_some hl182
      clear hl182
      rw [hF180, ← hj195] at hb186
      try dsimp only at hb186
      refine AWp.seqK fun K200 hk201 => ?_
      refine AWp.region [] (by decide +kernel) ?_
      simp [e0_177, e4_177, e5_177, e8_177, e9_177, e10_177, g4e_177, b4_177, hlt198, hg199]
      refine hk201 _ _ ?_
      refine AWp.seqK fun K206 hk207 => ?_
      refine AWp.condK rfl fun A208 B209 ga210 gb211 => ?_
      simp [e0_177, e4_177, e5_177, e8_177, e9_177, e10_177, g4e_177, b4_177, hlt198, hg199]
      refine ga210 _ _ ?_
      refine AWp.skip ?_
      try simp only [thenQ_normal]
      refine hk207 _ _ ?_
      refine AWp.seqK fun K224 hk225 => ?_
      refine AWp.blockK fun Q226 nn227 ne228 nx229 nr230 => ?_
      refine AWp.seqK fun K231 hk232 => ?_
      refine AWp.region [] (by decide +kernel) ?_
      simp [e0_177, e4_177, e5_177, e8_177, e9_177, e10_177, g4e_177, b4_177, hlt198, hg199]
      refine hk232 _ _ ?_
      refine AWp.region [] (by decide +kernel) ?_
      obtain ⟨x233, hx234, hm235⟩ := bind1_some hb186
      clear hb186
      try dsimp only at hm235
      simp [e0_177, e4_177, e5_177, e8_177, e9_177, e10_177, g4e_177, b4_177, hlt198, hg199]
      refine CallAt.fn (r_ref02_Copy T hx234) ?_
      obtain ⟨ha236, hm237⟩ := chk_some hm235
      clear hm235
      simp [e0_177, e4_177, e5_177, e8_177, e9_177, e10_177, g4e_177, b4_177, hlt198, hg199]
      refine AppAt.own (f := Tm.av) v178 [x233] o0_177 ap26 (by intro x; simp) ha236 (by first | rfl | simp) (by first | rfl | simp) ?_
      simp [e0_177, e4_177, e5_177, e8_177, e9_177, e10_177, g4e_177, b4_177, hlt198, hg199]
      refine nn227 _ _ ?_
      try simp only [thenQ_normal]
      refine hk225 _ _ ?_
      refine AWp.region [] (by decide +kernel) ?_
      simp [e0_177, e4_177, e5_177, e8_177, e9_177, e10_177, g4e_177, b4_177, hlt198, hg199]
      obtain rfl := Option.some.inj hm237
      rw [ctlK_next] at hk185
      refine hK193 _ _ n187 (Nat.lt_succ_self _) ⟨(i96 + 1), (iadd .i64 j95 1), (lapp v178 [x233]), (.loc 18 (fr177.tgen 18 + 1)), g4_177, ?_, ?_, ?_, ?_, ?_, ?_, ?_, ?_, ?_, (OwnT.mono (D := [18]) (OwnT.new (D := [18]) (d := 18) (by decide)) (by decide)), (iadd_idxJ hj195 (by omega) hok197), (by omega), hk185⟩ <;> first | rfl | simp [e0_177, e4_177, e5_177, e8_177, e9_177, e10_177, g4e_177, b4_177, hlt198, hg199]

theorem enters43 : entersB Tryd.prog 43 = true := by kernel_rfl
set_option maxRecDepth 20000 in
set_option maxHeartbeats 4000000 in
theorem r_ref07_Eq (T : Tabs) {H : Heap} {a0 : Tm} {a1 : Tm} {r0 : Fm} (hm : ref07_Eq a0 a1 = some r0) : ACall Tryd.prog T 43 [Tm.av a0, Tm.av a1] H (Fm.av r0) H := by
  rw [ref07_Eq] at hm
  refine ACallP.intro (fn := Tryd.f43) Tryd.func43 rfl enters43 (Nat.le_of_ble_eq_true rfl) ?_
  refine AWp.seqK fun K1 hk2 => ?_
  refine AWp.region [] (by decide +kernel) ?_
  simp
  refine hk2 _ _ ?_
  refine AWp.seqK fun K9 hk10 => ?_
  refine AWp.regionD [] false mixed (by decide +kernel) (by decide +kernel) ?_
  obtain ⟨x11, hx12, hm13⟩ := bind1_some hm
  clear hm
  try dsimp only at hm13
  simp
  refine CallAtD.fn (r_ref02_Copy T hx12) (by simp) ?_
  obtain ⟨x14, hx15, hm16⟩ := bind1_some hm13
  clear hm13
  try dsimp only at hm16
  simp
  refine CallAtD.fn (r_ref02_Copy T hx15) (by simp) ?_
  simp
  refine hk10 _ _ ?_
  refine AWp.ret ?_
  try simp only [thenQ_ret]
  have hf17 : AV.agg [AV.sc (.int .i64 1), AV.sc (.int .i64 0), AV.slice .frz [], AV.slice .frz [Tm.av x11, Tm.av x14], AV.slice .frz []] = Fm.av (Fm.mk 1 (Ty.mk 0 []) [x11, x14] []) := by rw [Fm.av_mk]; rfl
  have hf18 : AV.agg [AV.sc (.int .i64 1), AV.sc (.int .i64 0), AV.slice .frz [], AV.slice .frz [Tm.av x11, Tm.av x14], AV.slice .frz []] = Fm.av (Fm.mk 1 (Ty.mk 0 []) [x11, x14] []) := by rw [Fm.av_mk]; rfl
  obtain rfl := Option.some.inj hm16
  simp [retQ, hf17, hf18]

theorem enters36 : entersB Tryd.prog 36 = true := by kernel_rfl
set_option maxRecDepth 20000 in
set_option maxHeartbeats 4000000 in
theorem r_ref07_False (T : Tabs) {H : Heap}  {r0 : Fm} (hm : ref07_False = some r0) : ACall Tryd.prog T 36 [] H (Fm.av r0) H := by
  rw [ref07_False] at hm
  refine ACallP.intro (fn := Tryd.f36) Tryd.func36 rfl enters36 (Nat.le_of_ble_eq_true rfl) ?_
  refine AWp.seqK fun K1 hk2 => ?_
  refine AWp.region [] (by decide +kernel) ?_
  simp
  refine hk2 _ _ ?_
  refine AWp.seqK fun K15 hk16 => ?_
  refine AWp.region [] (by decide +kernel) ?_
  obtain ⟨x17, hx18, hm19⟩ := bind1_some hm
  clear hm
  try dsimp only at hm19
  simp
  refine CallAt.fn (r_ref02_N T hx18) ?_
  obtain ⟨x20, hx21, hm22⟩ := bind1_some hm19
  clear hm19
  try dsimp only at hm22
  simp
  refine CallAt.fn (r_ref02_N T hx21) ?_
  obtain ⟨x23, hx24, hm25⟩ := bind1_some hm22
  clear hm22
  try dsimp only at hm25
  simp
  refine CallAt.fn (r_ref02_N T hx24) ?_
  obtain ⟨x26, hx27, hm28⟩ := bind1_some hm25
  clear hm25
  try dsimp only at hm28
  simp
  refine CallAt.fn (r_ref07_Eq T hx27) ?_
  simp
  refine hk16 _ _ ?_
  refine AWp.ret ?_
  try simp only [thenQ_ret]
  obtain rfl := Option.some.inj hm28
  simp [retQ]

theorem enters111 : entersB Tryd.prog 111 = true := by kernel_rfl
set_option maxRecDepth 20000 in
set_option maxHeartbeats 4000000 in
theorem rg_tree_typeNodes (T : Tabs) : ∀ (n : Nat), (∀ {H : Heap} {a0 : Ty} {r0 : Int} {r1 : Bool} (hm : tree_typeNodes n a0 = some (r0, r1)), ACall Tryd.prog T 111 [Ty.av a0] H (AV.tuple [AV.sc (.int .i64 r0), AV.sc (.bool r1)]) H) := by
  intro n
  induction n with
  | zero =>
    skip
    all_goals
      intros
      rename_i hm
      cases hm
  | succ n ih =>
    intro H a0 r0 r1 hm
    rw [tree_typeNodes] at hm
    refine ACallP.intro (fn := Tryd.f111) Tryd.func111 rfl enters111 (Nat.le_of_ble_eq_true rfl) ?_
    refine AWp.seqK fun K1 hk2 => ?_
    refine AWp.region [] (by decide +kernel) ?_
    simp
    refine hk2 _ _ ?_
    refine AWp.seqK fun K3 hk4 => ?_
    refine AWp.region [] (by decide +kernel) ?_
    simp
    refine hk4 _ _ ?_
    obtain ⟨j92, hj93, hm94⟩ := joinB_some hm
    clear hm
    refine AWp.seqP (fun fr h => ∃ (v91 : Int) (g1_90 : Nat), H = h ∧ fr.env 1 = AV.lptr 1 g1_90 0 ∧ fr.env 4 = AV.sc (.int .i64 v91) ∧ fr.gen 1 = g1_90 ∧ fr.box 1 = some [AV.sc (.int .i64 a0.kind), AV.slice .frz (List.map Ty.av a0.args)] ∧ j92 v91 = some (r0, r1)) (fun K88 hk89 => ?_) ?_
    · refine AWp.seqK fun K96 hk97 => ?_
      refine AWp.region [] (by decide +kernel) ?_
      simp
      refine hk97 _ _ ?_
      refine AWp.blockK fun Q98 nn99 ne100 nx101 nr102 => ?_
      refine AWp.seqP (fun fr h => ∃ (g1_123 : Nat), H = h ∧ fr.env 1 = AV.lptr 1 g1_123 0 ∧ fr.env 4 = AV.sc (.int .i64 0) ∧ fr.env 11 = AV.sc (.int .i64 a0.kind) ∧ fr.env 12 = AV.sc (.bool (sel (ieq a0.kind 1) true (sel (ieq a0.kind 2) true (ieq a0.kind 5)))) ∧ fr.gen 1 = g1_123 ∧ fr.box 1 = some [AV.sc (.int .i64 a0.kind), AV.slice .frz (List.map Ty.av a0.args)]) (fun K121 hk122 => ?_) ?_
      · refine AWp.seqK fun K124 hk125 => ?_
        refine AWp.region [] (by decide +kernel) ?_
        simp
        refine hk125 _ _ ?_
        refine AWp.condK rfl fun A126 B127 ga128 gb129 => ?_
        rcases Bool.eq_false_or_eq_true (ieq a0.kind 1) with hc130 | hc130
        · simp [hc130]
          refine ga128 _ _ ?_
          refine AWp.skip ?_
          try simp only [thenQ_normal]
          refine hk122 _ _ ⟨1, ?_, ?_, ?_, ?_, ?_, ?_, ?_⟩ <;> first | rfl | simp [hc130]
        · simp [hc130]
          refine gb129 _ _ ?_
          refine AWp.seqK fun K133 hk134 => ?_
          refine AWp.region [] (by decide +kernel) ?_
          simp [hc130]
          refine hk134 _ _ ?_
          refine AWp.condK rfl fun A135 B136 ga137 gb138 => ?_
          rcases Bool.eq_false_or_eq_true (ieq a0.kind 2) with hc139 | hc139
          · simp [hc130, hc139]
            refine ga137 _ _ ?_
            refine AWp.skip ?_
            try simp only [thenQ_normal]
            refine hk122 _ _ ⟨1, ?_, ?_, ?_, ?_, ?_, ?_, ?_⟩ <;> first | rfl | simp [hc130, hc139]
          · simp [hc130, hc139]
            refine gb138 _ _ ?_
            refine AWp.region [] (by decide +kernel) ?_
            simp [hc130, hc139]
            refine hk122 _ _ ⟨1, ?_, ?_, ?_, ?_, ?_, ?_, ?_⟩ <;> first | rfl | simp [hc130, hc139]
      · rintro fr123 h123 ⟨g1_123, rfl, e1_123, e4_123, e11_123, e12_123, g1e_123, b1_123⟩
        refine AWp.condK rfl fun A142 B143 ga144 gb145 => ?_
        rcases ite_some hm94 with ⟨hc146, hm147⟩ | ⟨hc146, hm148⟩
        · clear hm94
          simp [e1_123, e4_123, e11_123, e12_123, g1e_123, b1_123, hc146]
          refine ga144 _ _ ?_
          refine AWp.skip ?_
          try simp only [thenQ_normal]
          refine nn99 _ _ ?_
          try simp only [thenQ_normal]
          refine hk89 _ _ ⟨0, g1_123, ?_, ?_, ?_, ?_, ?_, hm147⟩ <;> first | rfl | simp [e1_123, e4_123, e11_123, e12_123, g1e_123, b1_123, hc146]
        · clear hm94
          simp [e1_123, e4_123, e11_123, e12_123, g1e_123, b1_123, hc146]
          refine gb145 _ _ ?_
          refine AWp.seqP (fun fr h => ∃ (g1_160 : Nat), H = h ∧ fr.env 1 = AV.lptr 1 g1_160 0 ∧ fr.env 16 = AV.sc (.bool (sel (ieq a0.kind 3) true (ieq a0.kind 4))) ∧ fr.gen 1 = g1_160 ∧ fr.box 1 = some [AV.sc (.int .i64 a0.kind), AV.slice .frz (List.map Ty.av a0.args)]) (fun K158 hk159 => ?_) ?_
          · refine AWp.seqK fun K161 hk162 => ?_
            refine AWp.region [] (by decide +kernel) ?_
            simp [e1_123, e4_123, e11_123, e12_123, g1e_123, b1_123, hc146]
            refine hk162 _ _ ?_
            refine AWp.condK rfl fun A163 B164 ga165 gb166 => ?_
            rcases Bool.eq_false_or_eq_true (ieq a0.kind 3) with hc167 | hc167
            · simp [e1_123, e4_123, e11_123, e12_123, g1e_123, b1_123, hc146, hc167]
              refine ga165 _ _ ?_
              refine AWp.skip ?_
              try simp only [thenQ_normal]
              refine hk159 _ _ ⟨g1_123, ?_, ?_, ?_, ?_, ?_⟩ <;> first | rfl | simp [e1_123, e4_123, e11_123, e12_123, g1e_123, b1_123, hc146, hc167]
            · simp [e1_123, e4_123, e11_123, e12_123, g1e_123, b1_123, hc146, hc167]
              refine gb166 _ _ ?_
              refine AWp.region [] (by decide +kernel) ?_
              simp [e1_123, e4_123, e11_123, e12_123, g1e_123, b1_123, hc146, hc167]
              refine hk159 _ _ ⟨g1_123, ?_, ?_, ?_, ?_, ?_⟩ <;> first | rfl | simp [e1_123, e4_123, e11_123, e12_123, g1e_123, b1_123, hc146, hc167]
          · rintro fr160 h160 ⟨g1_160, rfl, e1_160, e16_160, g1e_160, b1_160⟩
            refine AWp.condK rfl fun A170 B171 ga172 gb173 => ?_
            rcases ite_some hm148 with ⟨hc174, hm175⟩ | ⟨hc174, hm176⟩
            · clear hm148
              simp [e1_160, e16_160, g1e_160, b1_160, hc146, hc174]
              refine ga172 _ _ ?_
              refine AWp.region [] (by decide +kernel) ?_
              simp [e1_160, e16_160, g1e_160, b1_160, hc146, hc174]
              refine nn99 _ _ ?_
              try simp only [thenQ_normal]
              refine hk89 _ _ ⟨2, g1_160, ?_, ?_, ?_, ?_, ?_, hm175⟩ <;> first | rfl | simp [e1_160, e16_160, g1e_160, b1_160, hc146, hc174]
            · clear hm148
              simp [e1_160, e16_160, g1e_160, b1_160, hc146, hc174]
              refine gb173 _ _ ?_
              refine AWp.seqK fun K177 hk178 => ?_
              refine AWp.region [] (by decide +kernel) ?_
              simp [e1_160, e16_160, g1e_160, b1_160, hc146, hc174]
              refine hk178 _ _ ?_
              refine AWp.ret ?_
              try simp only [thenQ_ret]
              refine nr102 _ _ ?_
              try simp only [thenQ_ret]
              simp only [Option.some.injEq, Prod.mk.injEq] at hm176
              obtain ⟨rfl, rfl⟩ := hm176
              simp [retQ, e1_160, e16_160, g1e_160, b1_160, hc146, hc174]
    · clear hm94
      rintro fr90 h90 ⟨v91, g1_90, rfl, e1_90, e4_90, g1e_90, b1_90, hm95⟩
      subst hj93
      refine AWp.seqK fun K190 hk191 => ?_
      refine AWp.seqK fun K192 hk193 => ?_
      refine AWp.region [] (by decide +kernel) ?_
      simp [e1_90, e4_90, g1e_90, b1_90]
      refine hk193 _ _ ?_
      refine AWp.condK rfl fun A194 B195 ga196 gb197 => ?_
      rcases ite_some hm95 with ⟨hc198, hm199⟩ | ⟨hc198, hm200⟩
      · clear hm95
        simp [e1_90, e4_90, g1e_90, b1_90, hc198]
        refine ga196 _ _ ?_
        refine AWp.seqK fun K201 hk202 => ?_
        refine AWp.region [] (by decide +kernel) ?_
        simp [e1_90, e4_90, g1e_90, b1_90, hc198]
        refine hk202 _ _ ?_
        refine AWp.ret ?_
        try simp only [thenQ_ret]
        simp only [Option.some.injEq, Prod.mk.injEq] at hm199
        obtain ⟨rfl, rfl⟩ := hm199
        simp [retQ, e1_90, e4_90, g1e_90, b1_90, hc198]
      · clear hm95
        simp [e1_90, e4_90, g1e_90, b1_90, hc198]
        refine gb197 _ _ ?_
        refine AWp.skip ?_
        try simp only [thenQ_normal]
        refine hk191 _ _ ?_
        refine AWp.seqK fun K203 hk204 => ?_
        refine AWp.region [] (by decide +kernel) ?_
        simp [e1_90, e4_90, g1e_90, b1_90, hc198]
        refine hk204 _ _ ?_
        refine AWp.seqK fun K407 hk408 => ?_
        refine AWp.seqK fun K409 hk410 => ?_
        refine AWp.region [] (by decide +kernel) ?_
        simp [e1_90, e4_90, g1e_90, b1_90, hc198]
        refine hk410 _ _ ?_
        obtain ⟨hok629, hm742⟩ := chk_some hm200
        clear hm200
        obtain ⟨F611, hF612, hm743⟩ := joinB_some hm742
        clear hm742
        try dsimp only at hm743
        obtain ⟨out613, hl614, hmB615⟩ := bind1_some hm743
        clear hm743
        refine AWp.blockK fun Q620 nn621 ne622 nx623 nr624 => ?_
        refine AWp.loopF (fun n619 fr h => ∃ (i412 : Nat) (j411 : Int) (v610 : Int), H = h ∧ fr.env 5 = AV.sc (.int .i64 v610) ∧ fr.env 25 = AV.slice .frz (List.map Ty.av a0.args) ∧ fr.env 26 = AV.sc (.int .i64 (llen a0.args)) ∧ fr.env 27 = AV.sc (.int .i64 j411) ∧ j411 = (i412 : Int) ∧ i412 + n619 = List.length a0.args ∧ forR F611 (List.drop i412 a0.args) i412 v610 = some out613) (List.length a0.args) ?_ ?_
        · refine ⟨0, 0, 1, ?_, ?_, ?_, ?_, ?_, rfl, (by simp), hl614⟩ <;> first | rfl | simp [e1_90, e4_90, g1e_90, b1_90, hc198]
        · rintro n619 fr609 h609 ⟨i412, j411, v610, rfl, e5_609, e25_609, e26_609, e27_609, hj627, hi628, hl614⟩ K626 hK625
          rcases n619 with _ | n619
          · have hlt630 := ilt_notJ (l := a0.args) hj627 (by omega)
            refine AWp.seqK fun K728 hk729 => ?_
            refine AWp.region [] (by decide +kernel) ?_
            simp [e5_609, e25_609, e26_609, e27_609, hlt630, hc198]
            refine hk729 _ _ ?_
            refine AWp.seqK fun K734 hk735 => ?_
            refine AWp.condK rfl fun A736 B737 ga738 gb739 => ?_
            simp [e5_609, e25_609, e26_609, e27_609, hlt630, hc198]
            refine gb739 _ _ ?_
            refine AWp.exit ?_
            try simp only [thenQ_exit]
            refine ne622 _ _ ?_
            try simp only [thenQ_normal]
            rw [List.drop_eq_nil_of_le (by omega), forR_nil] at hl614
            obtain rfl := Option.some.inj hl614
            rw [sumK_inl] at hmB615
            try dsimp only at hmB615
            refine hk408 _ _ ?_
            refine AWp.seqK fun K740 hk741 => ?_
            refine AWp.region [] (by decide +kernel) ?_
            simp [e5_609, e25_609, e26_609, e27_609, hlt630, hc198]
            refine hk741 _ _ ?_
            refine AWp.ret ?_
            try simp only [thenQ_ret]
            simp only [Option.some.injEq, Prod.mk.injEq] at hmB615
            obtain ⟨rfl, rfl⟩ := hmB615
            simp [retQ, e5_609, e25_609, e26_609, e27_609, hlt630, hc198]
          · have hlt630 := ilt_ofJ (l := a0.args) hj627 (by omega)
            obtain ⟨x413, hdn619, hg631⟩ := drop_ltJ (l := a0.args) hj627 (by omega)
            rw [hdn619, forR_cons] at hl614
            obtain ⟨c616, hb618, hk617⟩ := bind1_some hl614
            clear hl614
            rw [hF612, ← hj627] at hb618
            try dsimp only at hb618
            refine AWp.seqK fun K632 hk633 => ?_
            refine AWp.region [] (by decide +kernel) ?_
            simp [e5_609, e25_609, e26_609, e27_609, hlt630, hg631, hc198]
            refine hk633 _ _ ?_
            refine AWp.seqK fun K638 hk639 => ?_
            refine AWp.condK rfl fun A640 B641 ga642 gb643 => ?_
            simp [e5_609, e25_609, e26_609, e27_609, hlt630, hg631, hc198]
            refine ga642 _ _ ?_
            refine AWp.skip ?_
            try simp only [thenQ_normal]
            refine hk639 _ _ ?_
            refine AWp.seqK fun K685 hk686 => ?_
            refine AWp.blockK fun Q687 nn688 ne689 nx690 nr691 => ?_
            refine AWp.seqK fun K692 hk693 => ?_
            refine AWp.region [] (by decide +kernel) ?_
            simp [e5_609, e25_609, e26_609, e27_609, hlt630, hg631, hc198]
            refine hk693 _ _ ?_
            refine AWp.seqK fun K698 hk699 => ?_
            refine AWp.region [] (by decide +kernel) ?_
            obtain ⟨x700, x701, hx702, hm703⟩ := bind2_some hb618
            clear hb618
            try dsimp only at hm703
            simp [e5_609, e25_609, e26_609, e27_609, hlt630, hg631, hc198]
            refine CallAt.fn (ih hx702) ?_
            simp [e5_609, e25_609, e26_609, e27_609, hlt630, hg631, hc198]
            refine hk699 _ _ ?_
            refine AWp.seqK fun K715 hk716 => ?_
            refine AWp.seqK fun K717 hk718 => ?_
            refine AWp.region [] (by decide +kernel) ?_
            simp [e5_609, e25_609, e26_609, e27_609, hlt630, hg631, hc198]
            refine hk718 _ _ ?_
            refine AWp.condK rfl fun A719 B720 ga721 gb722 => ?_
            rcases ite_some hm703 with ⟨hc723, hm724⟩ | ⟨hc723, hm725⟩
            · clear hm703
              simp [e5_609, e25_609, e26_609, e27_609, hlt630, hg631, hc198, hc723]
              refine gb722 _ _ ?_
              refine AWp.skip ?_
              try simp only [thenQ_normal]
              refine hk716 _ _ ?_
              refine AWp.region [] (by decide +kernel) ?_
              simp [e5_609, e25_609, e26_609, e27_609, hlt630, hg631, hc198, hc723]
              refine nn688 _ _ ?_
              try simp only [thenQ_normal]
              refine hk686 _ _ ?_
              refine AWp.region [] (by decide +kernel) ?_
              simp [e5_609, e25_609, e26_609, e27_609, hlt630, hg631, hc198, hc723]
              obtain rfl := Option.some.inj hm724
              rw [ctlK_next] at hk617
              refine hK625 _ _ n619 (Nat.lt_succ_self _) ⟨(i412 + 1), (iadd .i64 j411 1), (iadd .i64 v610 x700), ?_, ?_, ?_, ?_, ?_, (iadd_idxJ hj627 (by omega) hok629), (by omega), hk617⟩ <;> first | rfl | simp [e5_609, e25_609, e26_609, e27_609, hlt630, hg631, hc198, hc723]
            · clear hm703
              simp [e5_609, e25_609, e26_609, e27_609, hlt630, hg631, hc198, hc723]
              refine ga721 _ _ ?_
              refine AWp.seqK fun K726 hk727 => ?_
              refine AWp.region [] (by decide +kernel) ?_
              simp [e5_609, e25_609, e26_609, e27_609, hlt630, hg631, hc198, hc723]
              refine hk727 _ _ ?_
              refine AWp.ret ?_
              try simp only [thenQ_ret]
              refine nr691 _ _ ?_
              try simp only [thenQ_ret]
              refine nr624 _ _ ?_
              try simp only [thenQ_ret]
              obtain rfl := Option.some.inj hm725
              rw [ctlK_ret] at hk617
              obtain rfl := Option.some.inj hk617
              rw [sumK_inr] at hmB615
              try dsimp only at hmB615
              simp only [Option.some.injEq, Prod.mk.injEq] at hmB615
              obtain ⟨rfl, rfl⟩ := hmB615
              simp [retQ, e5_609, e25_609, e26_609, e27_609, hlt630, hg631, hc198, hc723]
theorem r_tree_typeNodes (T : Tabs) {H : Heap} {a0 : Ty} {r0 : Int} {r1 : Bool} {n : Nat} (hm : tree_typeNodes n a0 = some (r0, r1)) : ACall Tryd.prog T 111 [Ty.av a0] H (AV.tuple [AV.sc (.int .i64 r0), AV.sc (.bool r1)]) H := (rg_tree_typeNodes T n) hm

theorem enters107 : entersB Tryd.prog 107 = true := by kernel_rfl
set_option maxRecDepth 20000 in
set_option maxHeartbeats 4000000 in
theorem r_tree_CheckType (T : Tabs) {H : Heap} {a0 : Ty} {r0 : Int} {r1 : Int} (hm : tree_CheckType a0 = some (r0, r1)) : ACall Tryd.prog T 107 [Ty.av a0] H (AV.tuple [AV.sc (.int .i64 r0), AV.sc (.int .i64 r1)]) H := by
  rw [tree_CheckType] at hm
  refine ACallP.intro (fn := Tryd.f107) Tryd.func107 rfl enters107 (Nat.le_of_ble_eq_true rfl) ?_
  refine AWp.seqK fun K1 hk2 => ?_
  refine AWp.region [] (by decide +kernel) ?_
  simp
  refine hk2 _ _ ?_
  refine AWp.seqK fun K7 hk8 => ?_
  refine AWp.region [] (by decide +kernel) ?_
  obtain ⟨x9, x10, hx11, hm12⟩ := bind2_some hm
  clear hm
  try dsimp only at hm12
  simp
  refine CallAt.fn (r_tree_typeNodes T hx11) ?_
  simp
  refine hk8 _ _ ?_
  refine AWp.seqK fun K40 hk41 => ?_
  refine AWp.blockK fun Q42 nn43 ne44 nx45 nr46 => ?_
  refine AWp.seqK fun K47 hk48 => ?_
  refine AWp.region [] (by decide +kernel) ?_
  simp
  refine hk48 _ _ ?_
  refine AWp.condK rfl fun A49 B50 ga51 gb52 => ?_
  rcases ite_some hm12 with ⟨hc53, hm54⟩ | ⟨hc53, hm55⟩
  · clear hm12
    simp [hc53]
    refine gb52 _ _ ?_
    refine AWp.seqK fun K56 hk57 => ?_
    refine AWp.region [] (by decide +kernel) ?_
    simp [hc53]
    refine hk57 _ _ ?_
    refine AWp.condK rfl fun A58 B59 ga60 gb61 => ?_
    rcases ite_some hm54 with ⟨hc62, hm63⟩ | ⟨hc62, hm64⟩
    · clear hm54
      simp [hc53, hc62]
      refine ga60 _ _ ?_
      refine AWp.seqK fun K65 hk66 => ?_
      refine AWp.region [] (by decide +kernel) ?_
      simp [hc53, hc62]
      refine hk66 _ _ ?_
      refine AWp.ret ?_
      try simp only [thenQ_ret]
      refine nr46 _ _ ?_
      try simp only [thenQ_ret]
      simp only [Option.some.injEq, Prod.mk.injEq] at hm63
      obtain ⟨rfl, rfl⟩ := hm63
      simp [retQ, hc53, hc62]
    · clear hm54
      simp [hc53, hc62]
      refine gb61 _ _ ?_
      refine AWp.skip ?_
      try simp only [thenQ_normal]
      refine nn43 _ _ ?_
      try simp only [thenQ_normal]
      refine hk41 _ _ ?_
      refine AWp.seqK fun K67 hk68 => ?_
      refine AWp.region [] (by decide +kernel) ?_
      simp [hc53, hc62]
      refine hk68 _ _ ?_
      refine AWp.ret ?_
      try simp only [thenQ_ret]
      simp only [Option.some.injEq, Prod.mk.injEq] at hm64
      obtain ⟨rfl, rfl⟩ := hm64
      simp [retQ, hc53, hc62]
  · clear hm12
    simp [hc53]
    refine ga51 _ _ ?_
    refine AWp.seqK fun K69 hk70 => ?_
    refine AWp.region [] (by decide +kernel) ?_
    simp [hc53]
    refine hk70 _ _ ?_
    refine AWp.ret ?_
    try simp only [thenQ_ret]
    refine nr46 _ _ ?_
    try simp only [thenQ_ret]
    simp only [Option.some.injEq, Prod.mk.injEq] at hm55
    obtain ⟨rfl, rfl⟩ := hm55
    simp [retQ, hc53]

theorem enters108 : entersB Tryd.prog 108 = true := by kernel_rfl
set_option maxRecDepth 20000 in
set_option maxHeartbeats 4000000 in
theorem r_tree_NoType (T : Tabs) {H : Heap} {a0 : Ty} {r0 : Bool} (hm : tree_NoType a0 = some r0) : ACall Tryd.prog T 108 [Ty.av a0] H (AV.sc (.bool r0)) H := by
  rw [tree_NoType] at hm
  refine ACallP.intro (fn := Tryd.f108) Tryd.func108 rfl enters108 (Nat.le_of_ble_eq_true rfl) ?_
  refine AWp.seqK fun K1 hk2 => ?_
  refine AWp.region [] (by decide +kernel) ?_
  simp
  refine hk2 _ _ ?_
  refine AWp.seqP (fun fr h => H = h ∧ fr.env 2 = AV.sc (.bool (sel (ieq a0.kind 0) (ieq (llen a0.args) 0) false))) (fun K6 hk7 => ?_) ?_
  · refine AWp.region [] (by decide +kernel) ?_
    rcases Bool.eq_false_or_eq_true (ieq a0.kind 0) with hc9 | hc9
    · simp [hc9]
      refine hk7 _ _ ⟨?_, ?_⟩ <;> first | rfl | simp [hc9]
    · simp [hc9]
      refine hk7 _ _ ⟨?_, ?_⟩ <;> first | rfl | simp [hc9]
  · rintro fr8 h8 ⟨rfl, e2_8⟩
    refine AWp.ret ?_
    try simp only [thenQ_ret]
    obtain rfl := Option.some.inj hm
    simp [retQ, e2_8]

theorem enters105 : entersB Tryd.prog 105 = true := by kernel_rfl
set_option maxRecDepth 20000 in
set_option maxHeartbeats 4000000 in
theorem r_tree_formed (T : Tabs) {H : Heap} {a0 : Fm} {r0 : Bool} (hm : tree_formed a0 = some r0) : ACall Tryd.prog T 105 [Fm.av a0] H (AV.sc (.bool r0)) H := by
  rw [tree_formed] at hm
  refine ACallP.intro (fn := Tryd.f105) Tryd.func105 rfl enters105 (Nat.le_of_ble_eq_true rfl) ?_
  refine AWp.seqK fun K1 hk2 => ?_
  refine AWp.region [] (by decide +kernel) ?_
  simp
  refine hk2 _ _ ?_
  refine AWp.seqK fun K3 hk4 => ?_
  refine AWp.region [] (by decide +kernel) ?_
  simp
  refine hk4 _ _ ?_
  obtain ⟨j121, hj122, hm123⟩ := joinB_some hm
  clear hm
  refine AWp.seqP (fun fr h => ∃ (v118 : Int) (v119 : Int) (v120 : Bool) (g1_117 : Nat), H = h ∧ fr.env 1 = AV.lptr 1 g1_117 0 ∧ fr.env 3 = AV.sc (.int .i64 v118) ∧ fr.env 4 = AV.sc (.int .i64 v119) ∧ fr.env 5 = AV.sc (.bool v120) ∧ fr.gen 1 = g1_117 ∧ fr.box 1 = some [AV.sc (.int .i64 a0.kind), AV.sc (.int .i64 a0.typeF.kind), AV.slice .frz (List.map Ty.av a0.typeF.args), AV.slice .frz (List.map Tm.av a0.terms), AV.slice .frz (List.map Fm.av a0.args)] ∧ j121 v118 v119 v120 = some r0) (fun K115 hk116 => ?_) ?_
  · refine AWp.seqK fun K125 hk126 => ?_
    refine AWp.region [] (by decide +kernel) ?_
    simp
    refine hk126 _ _ ?_
    refine AWp.blockK fun Q127 nn128 ne129 nx130 nr131 => ?_
    refine AWp.seqK fun K132 hk133 => ?_
    refine AWp.region [] (by decide +kernel) ?_
    simp
    refine hk133 _ _ ?_
    refine AWp.condK rfl fun A134 B135 ga136 gb137 => ?_
    rcases ite_some hm123 with ⟨hc138, hm139⟩ | ⟨hc138, hm140⟩
    · clear hm123
      simp [hc138]
      refine ga136 _ _ ?_
      refine AWp.region [] (by decide +kernel) ?_
      simp [hc138]
      refine nn128 _ _ ?_
      try simp only [thenQ_normal]
      refine hk116 _ _ ⟨2, 0, false, 1, ?_, ?_, ?_, ?_, ?_, ?_, ?_, hm139⟩ <;> first | rfl | simp [hc138]
    · clear hm123
      simp [hc138]
      refine gb137 _ _ ?_
      refine AWp.seqP (fun fr h => ∃ (g1_152 : Nat), H = h ∧ fr.env 1 = AV.lptr 1 g1_152 0 ∧ fr.env 3 = AV.sc (.int .i64 0) ∧ fr.env 5 = AV.sc (.bool false) ∧ fr.env 9 = AV.sc (.int .i64 a0.kind) ∧ fr.env 12 = AV.sc (.bool (sel (ieq a0.kind 2) true (ieq a0.kind 3))) ∧ fr.gen 1 = g1_152 ∧ fr.box 1 = some [AV.sc (.int .i64 a0.kind), AV.sc (.int .i64 a0.typeF.kind), AV.slice .frz (List.map Ty.av a0.typeF.args), AV.slice .frz (List.map Tm.av a0.terms), AV.slice .frz (List.map Fm.av a0.args)]) (fun K150 hk151 => ?_) ?_
      · refine AWp.seqK fun K153 hk154 => ?_
        refine AWp.region [] (by decide +kernel) ?_
        simp [hc138]
        refine hk154 _ _ ?_
        refine AWp.condK rfl fun A155 B156 ga157 gb158 => ?_
        rcases Bool.eq_false_or_eq_true (ieq a0.kind 2) with hc159 | hc159
        · simp [hc138, hc159]
          refine ga157 _ _ ?_
          refine AWp.skip ?_
          try simp only [thenQ_normal]
          refine hk151 _ _ ⟨1, ?_, ?_, ?_, ?_, ?_, ?_, ?_, ?_⟩ <;> first | rfl | simp [hc138, hc159]
        · simp [hc138, hc159]
          refine gb158 _ _ ?_
          refine AWp.region [] (by decide +kernel) ?_
          simp [hc138, hc159]
          refine hk151 _ _ ⟨1, ?_, ?_, ?_, ?_, ?_, ?_, ?_, ?_⟩ <;> first | rfl | simp [hc138, hc159]
      · rintro fr152 h152 ⟨g1_152, rfl, e1_152, e3_152, e5_152, e9_152, e12_152, g1e_152, b1_152⟩
        refine AWp.condK rfl fun A162 B163 ga164 gb165 => ?_
        rcases ite_some hm140 with ⟨hc166, hm167⟩ | ⟨hc166, hm168⟩
        · clear hm140
          simp [e1_152, e3_152, e5_152, e9_152, e12_152, g1e_152, b1_152, hc138, hc166]
          refine ga164 _ _ ?_
          refine AWp.region [] (by decide +kernel) ?_
          simp [e1_152, e3_152, e5_152, e9_152, e12_152, g1e_152, b1_152, hc138, hc166]
          refine nn128 _ _ ?_
          try simp only [thenQ_normal]
          refine hk116 _ _ ⟨0, 2, false, g1_152, ?_, ?_, ?_, ?_, ?_, ?_, ?_, hm167⟩ <;> first | rfl | simp [e1_152, e3_152, e5_152, e9_152, e12_152, g1e_152, b1_152, hc138, hc166]
        · clear hm140
          simp [e1_152, e3_152, e5_152, e9_152, e12_152, g1e_152, b1_152, hc138, hc166]
          refine gb165 _ _ ?_
          refine AWp.seqP (fun fr h => ∃ (g1_198 : Nat), H = h ∧ fr.env 1 = AV.lptr 1 g1_198 0 ∧ fr.env 3 = AV.sc (.int .i64 0) ∧ fr.env 15 = AV.sc (.bool (sel (ieq a0.kind 4) true (sel (ieq a0.kind 5) true (sel (ieq a0.kind 6) true (ieq a0.kind 7))))) ∧ fr.gen 1 = g1_198 ∧ fr.box 1 = some [AV.sc (.int .i64 a0.kind), AV.sc (.int .i64 a0.typeF.kind), AV.slice .frz (List.map Ty.av a0.typeF.args), AV.slice .frz (List.map Tm.av a0.terms), AV.slice .frz (List.map Fm.av a0.args)]) (fun K196 hk197 => ?_) ?_
          · refine AWp.seqK fun K199 hk200 => ?_
            refine AWp.region [] (by decide +kernel) ?_
            simp [e1_152, e3_152, e5_152, e9_152, e12_152, g1e_152, b1_152, hc138, hc166]
            refine hk200 _ _ ?_
            refine AWp.condK rfl fun A201 B202 ga203 gb204 => ?_
            rcases Bool.eq_false_or_eq_true (ieq a0.kind 4) with hc205 | hc205
            · simp [e1_152, e3_152, e5_152, e9_152, e12_152, g1e_152, b1_152, hc138, hc166, hc205]
              refine ga203 _ _ ?_
              refine AWp.skip ?_
              try simp only [thenQ_normal]
              refine hk197 _ _ ⟨g1_152, ?_, ?_, ?_, ?_, ?_, ?_⟩ <;> first | rfl | simp [e1_152, e3_152, e5_152, e9_152, e12_152, g1e_152, b1_152, hc138, hc166, hc205]
            · simp [e1_152, e3_152, e5_152, e9_152, e12_152, g1e_152, b1_152, hc138, hc166, hc205]
              refine gb204 _ _ ?_
              refine AWp.seqK fun K208 hk209 => ?_
              refine AWp.region [] (by decide +kernel) ?_
              simp [e1_152, e3_152, e5_152, e9_152, e12_152, g1e_152, b1_152, hc138, hc166, hc205]
              refine hk209 _ _ ?_
              refine AWp.condK rfl fun A210 B211 ga212 gb213 => ?_
              rcases Bool.eq_false_or_eq_true (ieq a0.kind 5) with hc214 | hc214
              · simp [e1_152, e3_152, e5_152, e9_152, e12_152, g1e_152, b1_152, hc138, hc166, hc205, hc214]
                refine ga212 _ _ ?_
                refine AWp.skip ?_
                try simp only [thenQ_normal]
                refine hk197 _ _ ⟨g1_152, ?_, ?_, ?_, ?_, ?_, ?_⟩ <;> first | rfl | simp [e1_152, e3_152, e5_152, e9_152, e12_152, g1e_152, b1_152, hc138, hc166, hc205, hc214]
              · simp [e1_152, e3_152, e5_152, e9_152, e12_152, g1e_152, b1_152, hc138, hc166, hc205, hc214]
                refine gb213 _ _ ?_
                refine AWp.seqK fun K217 hk218 => ?_
                refine AWp.region [] (by decide +kernel) ?_
                simp [e1_152, e3_152, e5_152, e9_152, e12_152, g1e_152, b1_152, hc138, hc166, hc205, hc214]
                refine hk218 _ _ ?_
                refine AWp.condK rfl fun A219 B220 ga221 gb222 => ?_
                rcases Bool.eq_false_or_eq_true (ieq a0.kind 6) with hc223 | hc223
                · simp [e1_152, e3_152, e5_152, e9_152, e12_152, g1e_152, b1_152, hc138, hc166, hc205, hc214, hc223]
                  refine ga221 _ _ ?_
                  refine AWp.skip ?_
                  try simp only [thenQ_normal]
                  refine hk197 _ _ ⟨g1_152, ?_, ?_, ?_, ?_, ?_, ?_⟩ <;> first | rfl | simp [e1_152, e3_152, e5_152, e9_152, e12_152, g1e_152, b1_152, hc138, hc166, hc205, hc214, hc223]
                · simp [e1_152, e3_152, e5_152, e9_152, e12_152, g1e_152, b1_152, hc138, hc166, hc205, hc214, hc223]
                  refine gb222 _ _ ?_
                  refine AWp.region [] (by decide +kernel) ?_
                  simp [e1_152, e3_152, e5_152, e9_152, e12_152, g1e_152, b1_152, hc138, hc166, hc205, hc214, hc223]
                  refine hk197 _ _ ⟨g1_152, ?_, ?_, ?_, ?_, ?_, ?_⟩ <;> first | rfl | simp [e1_152, e3_152, e5_152, e9_152, e12_152, g1e_152, b1_152, hc138, hc166, hc205, hc214, hc223]
          · rintro fr198 h198 ⟨g1_198, rfl, e1_198, e3_198, e15_198, g1e_198, b1_198⟩
            refine AWp.condK rfl fun A226 B227 ga228 gb229 => ?_
            rcases ite_some hm168 with ⟨hc230, hm231⟩ | ⟨hc230, hm232⟩
            · clear hm168
              simp [e1_198, e3_198, e15_198, g1e_198, b1_198, hc138, hc166, hc230]
              refine ga228 _ _ ?_
              refine AWp.region [] (by decide +kernel) ?_
              simp [e1_198, e3_198, e15_198, g1e_198, b1_198, hc138, hc166, hc230]
              refine nn128 _ _ ?_
              try simp only [thenQ_normal]
              refine hk116 _ _ ⟨0, 1, true, g1_198, ?_, ?_, ?_, ?_, ?_, ?_, ?_, hm231⟩ <;> first | rfl | simp [e1_198, e3_198, e15_198, g1e_198, b1_198, hc138, hc166, hc230]
            · clear hm168
              simp [e1_198, e3_198, e15_198, g1e_198, b1_198, hc138, hc166, hc230]
              refine gb229 _ _ ?_
              refine AWp.seqK fun K233 hk234 => ?_
              refine AWp.region [] (by decide +kernel) ?_
              simp [e1_198, e3_198, e15_198, g1e_198, b1_198, hc138, hc166, hc230]
              refine hk234 _ _ ?_
              refine AWp.ret ?_
              try simp only [thenQ_ret]
              refine nr131 _ _ ?_
              try simp only [thenQ_ret]
              obtain rfl := Option.some.inj hm232
              simp [retQ, e1_198, e3_198, e15_198, g1e_198, b1_198, hc138, hc166, hc230]
  · clear hm123
    rintro fr117 h117 ⟨v118, v119, v120, g1_117, rfl, e1_117, e3_117, e4_117, e5_117, g1e_117, b1_117, hm124⟩
    subst hj122
    obtain ⟨j285, hj286, hm287⟩ := joinB_some hm124
    clear hm124
    refine AWp.seqP (fun fr h => ∃ (g1_284 : Nat), H = h ∧ fr.env 1 = AV.lptr 1 g1_284 0 ∧ fr.env 3 = AV.sc (.int .i64 v118) ∧ fr.env 4 = AV.sc (.int .i64 v119) ∧ fr.gen 1 = g1_284 ∧ fr.box 1 = some [AV.sc (.int .i64 a0.kind), AV.sc (.int .i64 a0.typeF.kind), AV.slice .frz (List.map Ty.av a0.typeF.args), AV.slice .frz (List.map Tm.av a0.terms), AV.slice .frz (List.map Fm.av a0.args)] ∧ j285 = some r0) (fun K282 hk283 => ?_) ?_
    · refine AWp.seqK fun K289 hk290 => ?_
      refine AWp.region [] (by decide +kernel) ?_
      simp [e1_117, e3_117, e4_117, e5_117, g1e_117, b1_117]
      refine hk290 _ _ ?_
      refine AWp.condK rfl fun A291 B292 ga293 gb294 => ?_
      rcases ite_some hm287 with ⟨hc295, hm296⟩ | ⟨hc295, hm297⟩
      · clear hm287
        simp [e1_117, e3_117, e4_117, e5_117, g1e_117, b1_117, hc295]
        refine ga293 _ _ ?_
        refine AWp.seqK fun K302 hk303 => ?_
        refine AWp.region [] (by decide +kernel) ?_
        obtain ⟨x304, x305, hx306, hm307⟩ := bind2_some hm296
        clear hm296
        try dsimp only at hm307
        simp [e1_117, e3_117, e4_117, e5_117, g1e_117, b1_117, hc295]
        refine CallAt.fn (r_tree_CheckType T hx306) ?_
        simp [e1_117, e3_117, e4_117, e5_117, g1e_117, b1_117, hc295]
        refine hk303 _ _ ?_
        refine AWp.seqK fun K308 hk309 => ?_
        refine AWp.region [] (by decide +kernel) ?_
        simp [e1_117, e3_117, e4_117, e5_117, g1e_117, b1_117, hc295]
        refine hk309 _ _ ?_
        refine AWp.condK rfl fun A310 B311 ga312 gb313 => ?_
        rcases ite_some hm307 with ⟨hc314, hm315⟩ | ⟨hc314, hm316⟩
        · clear hm307
          simp [e1_117, e3_117, e4_117, e5_117, g1e_117, b1_117, hc295, hc314]
          refine ga312 _ _ ?_
          refine AWp.seqK fun K317 hk318 => ?_
          refine AWp.region [] (by decide +kernel) ?_
          simp [e1_117, e3_117, e4_117, e5_117, g1e_117, b1_117, hc295, hc314]
          refine hk318 _ _ ?_
          refine AWp.ret ?_
          try simp only [thenQ_ret]
          obtain rfl := Option.some.inj hm315
          simp [retQ, e1_117, e3_117, e4_117, e5_117, g1e_117, b1_117, hc295, hc314]
        · clear hm307
          simp [e1_117, e3_117, e4_117, e5_117, g1e_117, b1_117, hc295, hc314]
          refine gb313 _ _ ?_
          refine AWp.skip ?_
          try simp only [thenQ_normal]
          refine hk283 _ _ ⟨g1_117, ?_, ?_, ?_, ?_, ?_, ?_, hm316⟩ <;> first | rfl | simp [e1_117, e3_117, e4_117, e5_117, g1e_117, b1_117, hc295, hc314]
      · clear hm287
        simp [e1_117, e3_117, e4_117, e5_117, g1e_117, b1_117, hc295]
        refine gb294 _ _ ?_
        refine AWp.seqK fun K322 hk323 => ?_
        refine AWp.region [] (by decide +kernel) ?_
        obtain ⟨x324, hx325, hm326⟩ := bind1_some hm297
        clear hm297
        try dsimp only at hm326
        simp [e1_117, e3_117, e4_117, e5_117, g1e_117, b1_117, hc295]
        refine CallAt.fn (r_tree_NoType T hx325) ?_
        simp [e1_117, e3_117, e4_117, e5_117, g1e_117, b1_117, hc295]
        refine hk323 _ _ ?_
        refine AWp.condK rfl fun A327 B328 ga329 gb330 => ?_
        rcases ite_some hm326 with ⟨hc331, hm332⟩ | ⟨hc331, hm333⟩
        · clear hm326
          simp [e1_117, e3_117, e4_117, e5_117, g1e_117, b1_117, hc295, hc331]
          refine gb330 _ _ ?_
          refine AWp.skip ?_
          try simp only [thenQ_normal]
          refine hk283 _ _ ⟨g1_117, ?_, ?_, ?_, ?_, ?_, ?_, hm332⟩ <;> first | rfl | simp [e1_117, e3_117, e4_117, e5_117, g1e_117, b1_117, hc295, hc331]
        · clear hm326
          simp [e1_117, e3_117, e4_117, e5_117, g1e_117, b1_117, hc295, hc331]
          refine ga329 _ _ ?_
          refine AWp.seqK fun K334 hk335 => ?_
          refine AWp.region [] (by decide +kernel) ?_
          simp [e1_117, e3_117, e4_117, e5_117, g1e_117, b1_117, hc295, hc331]
          refine hk335 _ _ ?_
          refine AWp.ret ?_
          try simp only [thenQ_ret]
          obtain rfl := Option.some.inj hm333
          simp [retQ, e1_117, e3_117, e4_117, e5_117, g1e_117, b1_117, hc295, hc331]
    · clear hm287
      rintro fr284 h284 ⟨g1_284, rfl, e1_284, e3_284, e4_284, g1e_284, b1_284, hm288⟩
      subst hj286
      refine AWp.seqP (fun fr h => H = h ∧ fr.env 2 = AV.sc (.bool (sel (ieq (llen a0.terms) v118) (ieq (llen a0.args) v119) false))) (fun K339 hk340 => ?_) ?_
      · refine AWp.region [] (by decide +kernel) ?_
        rcases Bool.eq_false_or_eq_true (ieq (llen a0.terms) v118) with hc342 | hc342
        · simp [e1_284, e3_284, e4_284, g1e_284, b1_284, hc342]
          refine hk340 _ _ ⟨?_, ?_⟩ <;> first | rfl | simp [e1_284, e3_284, e4_284, g1e_284, b1_284, hc342]
        · simp [e1_284, e3_284, e4_284, g1e_284, b1_284, hc342]
          refine hk340 _ _ ⟨?_, ?_⟩ <;> first | rfl | simp [e1_284, e3_284, e4_284, g1e_284, b1_284, hc342]
      · rintro fr341 h341 ⟨rfl, e2_341⟩
        refine AWp.ret ?_
        try simp only [thenQ_ret]
        obtain rfl := Option.some.inj hm288
        simp [retQ, e2_341]

theorem enters109 : entersB Tryd.prog 109 = true := by kernel_rfl
set_option maxRecDepth 20000 in
set_option maxHeartbeats 4000000 in
theorem r_tree_Arity (T : Tabs) (hT : T 0 = some (AV.agg (List.map (fun n => AV.sc (Value.int .i64 n)) tree_arities))) {H : Heap} {a0 : Int} {r0 : Int} {r1 : Bool} (hm : tree_Arity a0 = some (r0, r1)) : ACall Tryd.prog T 109 [AV.sc (.int .i64 a0)] H (AV.tuple [AV.sc (.int .i64 r0), AV.sc (.bool r1)]) H := by
  rw [tree_Arity] at hm
  refine ACallP.intro (fn := Tryd.f109) Tryd.func109 rfl enters109 (Nat.le_of_ble_eq_true rfl) ?_
  refine AWp.seqK fun K1 hk2 => ?_
  refine AWp.region [] (by decide +kernel) ?_
  simp [hT]
  refine hk2 _ _ ?_
  refine AWp.seqK fun K21 hk22 => ?_
  refine AWp.seqP (fun fr h => H = h ∧ fr.env 0 = AV.sc (.int .i64 a0) ∧ fr.env 9 = AV.sc (.bool (sel (ilt a0 1) true (ige a0 14)))) (fun K26 hk27 => ?_) ?_
  · refine AWp.region [] (by decide +kernel) ?_
    rcases Bool.eq_false_or_eq_true (ilt a0 1) with hc29 | hc29
    · simp [hT, hc29]
      refine hk27 _ _ ⟨?_, ?_, ?_⟩ <;> first | rfl | simp [hT, hc29]
    · simp [hT, hc29]
      refine hk27 _ _ ⟨?_, ?_, ?_⟩ <;> first | rfl | simp [hT, hc29]
  · rintro fr28 h28 ⟨rfl, e0_28, e9_28⟩
    refine AWp.condK rfl fun A32 B33 ga34 gb35 => ?_
    rcases ite_some hm with ⟨hc36, hm37⟩ | ⟨hc36, hm38⟩
    · clear hm
      simp [e0_28, e9_28, hT, hc36]
      refine ga34 _ _ ?_
      refine AWp.seqK fun K39 hk40 => ?_
      refine AWp.region [] (by decide +kernel) ?_
      simp [e0_28, e9_28, hT, hc36]
      refine hk40 _ _ ?_
      refine AWp.ret ?_
      try simp only [thenQ_ret]
      simp only [Option.some.injEq, Prod.mk.injEq] at hm37
      obtain ⟨rfl, rfl⟩ := hm37
      simp [retQ, e0_28, e9_28, hT, hc36]
    · clear hm
      simp [e0_28, e9_28, hT, hc36]
      refine gb35 _ _ ?_
      refine AWp.skip ?_
      try simp only [thenQ_normal]
      refine hk22 _ _ ?_
      refine AWp.seqK fun K44 hk45 => ?_
      refine AWp.region [] (by decide +kernel) ?_
      obtain ⟨x46, hx47, hm48⟩ := bind1_some hm38
      clear hm38
      try dsimp only at hm48
      simp [e0_28, e9_28, hT, hx47, hc36]
      refine hk45 _ _ ?_
      refine AWp.ret ?_
      try simp only [thenQ_ret]
      simp only [Option.some.injEq, Prod.mk.injEq] at hm48
      obtain ⟨rfl, rfl⟩ := hm48
      simp [retQ, e0_28, e9_28, hT, hx47, hc36]

theorem enters110 : entersB Tryd.prog 110 = true := by kernel_rfl
set_option maxRecDepth 20000 in
set_option maxHeartbeats 4000000 in
theorem r_tree_Typed (T : Tabs) {H : Heap} {a0 : Int} {r0 : Bool} (hm : tree_Typed a0 = some r0) : ACall Tryd.prog T 110 [AV.sc (.int .i64 a0)] H (AV.sc (.bool r0)) H := by
  rw [tree_Typed] at hm
  refine ACallP.intro (fn := Tryd.f110) Tryd.func110 rfl enters110 (Nat.le_of_ble_eq_true rfl) ?_
  refine AWp.seqK fun K1 hk2 => ?_
  refine AWp.region [] (by decide +kernel) ?_
  simp
  refine hk2 _ _ ?_
  refine AWp.seqP (fun fr h => H = h ∧ fr.env 2 = AV.sc (.bool (sel (ieq a0 2) true (sel (ieq a0 6) true (ieq a0 9))))) (fun K9 hk10 => ?_) ?_
  · refine AWp.region [] (by decide +kernel) ?_
    rcases Bool.eq_false_or_eq_true (ieq a0 2) with hc12 | hc12
    · simp [hc12]
      refine hk10 _ _ ⟨?_, ?_⟩ <;> first | rfl | simp [hc12]
    · rcases Bool.eq_false_or_eq_true (ieq a0 6) with hc15 | hc15
      · simp [hc12, hc15]
        refine hk10 _ _ ⟨?_, ?_⟩ <;> first | rfl | simp [hc12, hc15]
      · simp [hc12, hc15]
        refine hk10 _ _ ⟨?_, ?_⟩ <;> first | rfl | simp [hc12, hc15]
  · rintro fr11 h11 ⟨rfl, e2_11⟩
    refine AWp.ret ?_
    try simp only [thenQ_ret]
    obtain rfl := Option.some.inj hm
    simp [retQ, e2_11]

theorem enters106 : entersB Tryd.prog 106 = true := by kernel_rfl
set_option maxRecDepth 20000 in
set_option maxHeartbeats 4000000 in
theorem rg_tree_termNodes (T : Tabs) (hT : T 0 = some (AV.agg (List.map (fun n => AV.sc (Value.int .i64 n)) tree_arities))) : ∀ (n : Nat), (∀ {H : Heap} {a0 : Tm} {r0 : Int} {r1 : Bool} (hm : tree_termNodes n a0 = some (r0, r1)), ACall Tryd.prog T 106 [Tm.av a0] H (AV.tuple [AV.sc (.int .i64 r0), AV.sc (.bool r1)]) H) := by
  intro n
  induction n with
  | zero =>
    skip
    all_goals
      intros
      rename_i hm
      cases hm
  | succ n ih =>
    intro H a0 r0 r1 hm
    rw [tree_termNodes] at hm
    refine ACallP.intro (fn := Tryd.f106) Tryd.func106 rfl enters106 (Nat.le_of_ble_eq_true rfl) ?_
    refine AWp.seqK fun K1 hk2 => ?_
    refine AWp.region [] (by decide +kernel) ?_
    simp [hT]
    refine hk2 _ _ ?_
    refine AWp.seqK fun K7 hk8 => ?_
    refine AWp.region [] (by decide +kernel) ?_
    obtain ⟨x9, x10, hx11, hm12⟩ := bind2_some hm
    clear hm
    try dsimp only at hm12
    simp [hT]
    refine CallAt.fn (r_tree_Arity T hT hx11) ?_
    simp [hT]
    refine hk8 _ _ ?_
    refine AWp.seqK fun K49 hk50 => ?_
    refine AWp.seqP (fun fr h => ∃ (g1_65 : Nat), H = h ∧ fr.env 1 = AV.lptr 1 g1_65 0 ∧ fr.env 42 = AV.sc (.bool (sel x10 (sel (ine (llen a0.args) x9) true (sel (ilt a0.index 0) true (sel (ine a0.index 0) (ine a0.kind 1) false))) true)) ∧ fr.gen 1 = g1_65 ∧ fr.box 1 = some [AV.sc (.int .i64 a0.kind), AV.sc (.int .i64 a0.index), AV.sc (.int .i64 a0.typeF.kind), AV.slice .frz (List.map Ty.av a0.typeF.args), AV.slice .frz (List.map Tm.av a0.args)]) (fun K63 hk64 => ?_) ?_
    · refine AWp.region [] (by decide +kernel) ?_
      rcases Bool.eq_false_or_eq_true x10 with hc66 | hc66
      · rcases Bool.eq_false_or_eq_true (ine (llen a0.args) x9) with hc69 | hc69
        · simp [hT, hc66, hc69]
          refine hk64 _ _ ⟨1, ?_, ?_, ?_, ?_, ?_⟩ <;> first | rfl | simp [hT, hc66, hc69]
        · rcases Bool.eq_false_or_eq_true (ilt a0.index 0) with hc72 | hc72
          · simp [hT, hc66, hc69, hc72]
            refine hk64 _ _ ⟨1, ?_, ?_, ?_, ?_, ?_⟩ <;> first | rfl | simp [hT, hc66, hc69, hc72]
          · rcases Bool.eq_false_or_eq_true (ine a0.index 0) with hc75 | hc75
            · simp [hT, hc66, hc69, hc72, hc75]
              refine hk64 _ _ ⟨1, ?_, ?_, ?_, ?_, ?_⟩ <;> first | rfl | simp [hT, hc66, hc69, hc72, hc75]
            · simp [hT, hc66, hc69, hc72, hc75]
              refine hk64 _ _ ⟨1, ?_, ?_, ?_, ?_, ?_⟩ <;> first | rfl | simp [hT, hc66, hc69, hc72, hc75]
      · simp [hT, hc66]
        refine hk64 _ _ ⟨1, ?_, ?_, ?_, ?_, ?_⟩ <;> first | rfl | simp [hT, hc66]
    · rintro fr65 h65 ⟨g1_65, rfl, e1_65, e42_65, g1e_65, b1_65⟩
      refine AWp.condK rfl fun A78 B79 ga80 gb81 => ?_
      rcases ite_some hm12 with ⟨hc82, hm83⟩ | ⟨hc82, hm84⟩
      · clear hm12
        simp [e1_65, e42_65, g1e_65, b1_65, hT, hc82]
        refine ga80 _ _ ?_
        refine AWp.seqK fun K85 hk86 => ?_
        refine AWp.region [] (by decide +kernel) ?_
        simp [e1_65, e42_65, g1e_65, b1_65, hT, hc82]
        refine hk86 _ _ ?_
        refine AWp.ret ?_
        try simp only [thenQ_ret]
        simp only [Option.some.injEq, Prod.mk.injEq] at hm83
        obtain ⟨rfl, rfl⟩ := hm83
        simp [retQ, e1_65, e42_65, g1e_65, b1_65, hT, hc82]
      · clear hm12
        simp [e1_65, e42_65, g1e_65, b1_65, hT, hc82]
        refine gb81 _ _ ?_
        refine AWp.skip ?_
        try simp only [thenQ_normal]
        refine hk50 _ _ ?_
        obtain ⟨j143, hj144, hm145⟩ := joinB_some hm84
        clear hm84
        refine AWp.seqP (fun fr h => ∃ (g1_142 : Nat), H = h ∧ fr.env 1 = AV.lptr 1 g1_142 0 ∧ fr.gen 1 = g1_142 ∧ fr.box 1 = some [AV.sc (.int .i64 a0.kind), AV.sc (.int .i64 a0.index), AV.sc (.int .i64 a0.typeF.kind), AV.slice .frz (List.map Ty.av a0.typeF.args), AV.slice .frz (List.map Tm.av a0.args)] ∧ j143 = some (r0, r1)) (fun K140 hk141 => ?_) ?_
        · refine AWp.seqK fun K150 hk151 => ?_
          refine AWp.region [] (by decide +kernel) ?_
          obtain ⟨x152, hx153, hm154⟩ := bind1_some hm145
          clear hm145
          try dsimp only at hm154
          simp [e1_65, e42_65, g1e_65, b1_65, hT, hc82]
          refine CallAt.fn (r_tree_Typed T hx153) ?_
          simp [e1_65, e42_65, g1e_65, b1_65, hT, hc82]
          refine hk151 _ _ ?_
          refine AWp.condK rfl fun A155 B156 ga157 gb158 => ?_
          rcases ite_some hm154 with ⟨hc159, hm160⟩ | ⟨hc159, hm161⟩
          · clear hm154
            simp [e1_65, e42_65, g1e_65, b1_65, hT, hc82, hc159]
            refine ga157 _ _ ?_
            refine AWp.seqK fun K166 hk167 => ?_
            refine AWp.region [] (by decide +kernel) ?_
            obtain ⟨x168, x169, hx170, hm171⟩ := bind2_some hm160
            clear hm160
            try dsimp only at hm171
            simp [e1_65, e42_65, g1e_65, b1_65, hT, hc82, hc159]
            refine CallAt.fn (r_tree_CheckType T hx170) ?_
            simp [e1_65, e42_65, g1e_65, b1_65, hT, hc82, hc159]
            refine hk167 _ _ ?_
            refine AWp.seqK fun K172 hk173 => ?_
            refine AWp.region [] (by decide +kernel) ?_
            simp [e1_65, e42_65, g1e_65, b1_65, hT, hc82, hc159]
            refine hk173 _ _ ?_
            refine AWp.condK rfl fun A174 B175 ga176 gb177 => ?_
            rcases ite_some hm171 with ⟨hc178, hm179⟩ | ⟨hc178, hm180⟩
            · clear hm171
              simp [e1_65, e42_65, g1e_65, b1_65, hT, hc82, hc159, hc178]
              refine ga176 _ _ ?_
              refine AWp.seqK fun K181 hk182 => ?_
              refine AWp.region [] (by decide +kernel) ?_
              simp [e1_65, e42_65, g1e_65, b1_65, hT, hc82, hc159, hc178]
              refine hk182 _ _ ?_
              refine AWp.ret ?_
              try simp only [thenQ_ret]
              simp only [Option.some.injEq, Prod.mk.injEq] at hm179
              obtain ⟨rfl, rfl⟩ := hm179
              simp [retQ, e1_65, e42_65, g1e_65, b1_65, hT, hc82, hc159, hc178]
            · clear hm171
              simp [e1_65, e42_65, g1e_65, b1_65, hT, hc82, hc159, hc178]
              refine gb177 _ _ ?_
              refine AWp.skip ?_
              try simp only [thenQ_normal]
              refine hk141 _ _ ⟨g1_65, ?_, ?_, ?_, ?_, hm180⟩ <;> first | rfl | simp [e1_65, e42_65, g1e_65, b1_65, hT, hc82, hc159, hc178]
          · clear hm154
            simp [e1_65, e42_65, g1e_65, b1_65, hT, hc82, hc159]
            refine gb158 _ _ ?_
            refine AWp.seqK fun K186 hk187 => ?_
            refine AWp.region [] (by decide +kernel) ?_
            obtain ⟨x188, hx189, hm190⟩ := bind1_some hm161
            clear hm161
            try dsimp only at hm190
            simp [e1_65, e42_65, g1e_65, b1_65, hT, hc82, hc159]
            refine CallAt.fn (r_tree_NoType T hx189) ?_
            simp [e1_65, e42_65, g1e_65, b1_65, hT, hc82, hc159]
            refine hk187 _ _ ?_
            refine AWp.condK rfl fun A191 B192 ga193 gb194 => ?_
            rcases ite_some hm190 with ⟨hc195, hm196⟩ | ⟨hc195, hm197⟩
            · clear hm190
              simp [e1_65, e42_65, g1e_65, b1_65, hT, hc82, hc159, hc195]
              refine gb194 _ _ ?_
              refine AWp.skip ?_
              try simp only [thenQ_normal]
              refine hk141 _ _ ⟨g1_65, ?_, ?_, ?_, ?_, hm196⟩ <;> first | rfl | simp [e1_65, e42_65, g1e_65, b1_65, hT, hc82, hc159, hc195]
            · clear hm190
              simp [e1_65, e42_65, g1e_65, b1_65, hT, hc82, hc159, hc195]
              refine ga193 _ _ ?_
              refine AWp.seqK fun K198 hk199 => ?_
              refine AWp.region [] (by decide +kernel) ?_
              simp [e1_65, e42_65, g1e_65, b1_65, hT, hc82, hc159, hc195]
              refine hk199 _ _ ?_
              refine AWp.ret ?_
              try simp only [thenQ_ret]
              simp only [Option.some.injEq, Prod.mk.injEq] at hm197
              obtain ⟨rfl, rfl⟩ := hm197
              simp [retQ, e1_65, e42_65, g1e_65, b1_65, hT, hc82, hc159, hc195]
        · clear hm145
          rintro fr142 h142 ⟨g1_142, rfl, e1_142, g1e_142, b1_142, hm146⟩
          subst hj144
          refine AWp.seqK fun K200 hk201 => ?_
          refine AWp.region [] (by decide +kernel) ?_
          simp [e1_142, g1e_142, b1_142, hT, hc82]
          refine hk201 _ _ ?_
          refine AWp.seqK fun K404 hk405 => ?_
          refine AWp.seqK fun K406 hk407 => ?_
          refine AWp.region [] (by decide +kernel) ?_
          simp [e1_142, g1e_142, b1_142, hT, hc82]
          refine hk407 _ _ ?_
          obtain ⟨hok626, hm739⟩ := chk_some hm146
          clear hm146
          obtain ⟨F608, hF609, hm740⟩ := joinB_some hm739
          clear hm739
          try dsimp only at hm740
          obtain ⟨out610, hl611, hmB612⟩ := bind1_some hm740
          clear hm740
          refine AWp.blockK fun Q617 nn618 ne619 nx620 nr621 => ?_
          refine AWp.loopF (fun n616 fr h => ∃ (i409 : Nat) (j408 : Int) (v607 : Int), H = h ∧ fr.env 8 = AV.sc (.int .i64 v607) ∧ fr.env 59 = AV.slice .frz (List.map Tm.av a0.args) ∧ fr.env 60 = AV.sc (.int .i64 (llen a0.args)) ∧ fr.env 61 = AV.sc (.int .i64 j408) ∧ j408 = (i409 : Int) ∧ i409 + n616 = List.length a0.args ∧ forR F608 (List.drop i409 a0.args) i409 v607 = some out610) (List.length a0.args) ?_ ?_
          · refine ⟨0, 0, 1, ?_, ?_, ?_, ?_, ?_, rfl, (by simp), hl611⟩ <;> first | rfl | simp [e1_142, g1e_142, b1_142, hT, hc82]
          · rintro n616 fr606 h606 ⟨i409, j408, v607, rfl, e8_606, e59_606, e60_606, e61_606, hj624, hi625, hl611⟩ K623 hK622
            rcases n616 with _ | n616
            · have hlt627 := ilt_notJ (l := a0.args) hj624 (by omega)
              refine AWp.seqK fun K725 hk726 => ?_
              refine AWp.region [] (by decide +kernel) ?_
              simp [e8_606, e59_606, e60_606, e61_606, hT, hlt627, hc82]
              refine hk726 _ _ ?_
              refine AWp.seqK fun K731 hk732 => ?_
              refine AWp.condK rfl fun A733 B734 ga735 gb736 => ?_
              simp [e8_606, e59_606, e60_606, e61_606, hT, hlt627, hc82]
              refine gb736 _ _ ?_
              refine AWp.exit ?_
              try simp only [thenQ_exit]
              refine ne619 _ _ ?_
              try simp only [thenQ_normal]
              rw [List.drop_eq_nil_of_le (by omega), forR_nil] at hl611
              obtain rfl := Option.some.inj hl611
              rw [sumK_inl] at hmB612
              try dsimp only at hmB612
              refine hk405 _ _ ?_
              refine AWp.seqK fun K737 hk738 => ?_
              refine AWp.region [] (by decide +kernel) ?_
              simp [e8_606, e59_606, e60_606, e61_606, hT, hlt627, hc82]
              refine hk738 _ _ ?_
              refine AWp.ret ?_
              try simp only [thenQ_ret]
              simp only [Option.some.injEq, Prod.mk.injEq] at hmB612
              obtain ⟨rfl, rfl⟩ := hmB612
              simp [retQ, e8_606, e59_606, e60_606, e61_606, hT, hlt627, hc82]
            · have hlt627 := ilt_ofJ (l := a0.args) hj624 (by omega)
              obtain ⟨x410, hdn616, hg628⟩ := drop_ltJ (l := a0.args) hj624 (by omega)
              rw [hdn616, forR_cons] at hl611
              obtain ⟨c613, hb615, hk614⟩ := bind1_some hl611
              clear hl611
              rw [hF609, ← hj624] at hb615
              try dsimp only at hb615
              refine AWp.seqK fun K629 hk630 => ?_
              refine AWp.region [] (by decide +kernel) ?_
              simp [e8_606, e59_606, e60_606, e61_606, hT, hlt627, hg628, hc82]
              refine hk630 _ _ ?_
              refine AWp.seqK fun K635 hk636 => ?_
              refine AWp.condK rfl fun A637 B638 ga639 gb640 => ?_
              simp [e8_606, e59_606, e60_606, e61_606, hT, hlt627, hg628, hc82]
              refine ga639 _ _ ?_
              refine AWp.skip ?_
              try simp only [thenQ_normal]
              refine hk636 _ _ ?_
              refine AWp.seqK fun K682 hk683 => ?_
              refine AWp.blockK fun Q684 nn685 ne686 nx687 nr688 => ?_
              refine AWp.seqK fun K689 hk690 => ?_
              refine AWp.region [] (by decide +kernel) ?_
              simp [e8_606, e59_606, e60_606, e61_606, hT, hlt627, hg628, hc82]
              refine hk690 _ _ ?_
              refine AWp.seqK fun K695 hk696 => ?_
              refine AWp.region [] (by decide +kernel) ?_
              obtain ⟨x697, x698, hx699, hm700⟩ := bind2_some hb615
              clear hb615
              try dsimp only at hm700
              simp [e8_606, e59_606, e60_606, e61_606, hT, hlt627, hg628, hc82]
              refine CallAt.fn (ih hx699) ?_
              simp [e8_606, e59_606, e60_606, e61_606, hT, hlt627, hg628, hc82]
              refine hk696 _ _ ?_
              refine AWp.seqK fun K712 hk713 => ?_
              refine AWp.seqK fun K714 hk715 => ?_
              refine AWp.region [] (by decide +kernel) ?_
              simp [e8_606, e59_606, e60_606, e61_606, hT, hlt627, hg628, hc82]
              refine hk715 _ _ ?_
              refine AWp.condK rfl fun A716 B717 ga718 gb719 => ?_
              rcases ite_some hm700 with ⟨hc720, hm721⟩ | ⟨hc720, hm722⟩
              · clear hm700
                simp [e8_606, e59_606, e60_606, e61_606, hT, hlt627, hg628, hc82, hc720]
                refine gb719 _ _ ?_
                refine AWp.skip ?_
                try simp only [thenQ_normal]
                refine hk713 _ _ ?_
                refine AWp.region [] (by decide +kernel) ?_
                simp [e8_606, e59_606, e60_606, e61_606, hT, hlt627, hg628, hc82, hc720]
                refine nn685 _ _ ?_
                try simp only [thenQ_normal]
                refine hk683 _ _ ?_
                refine AWp.region [] (by decide +kernel) ?_
                simp [e8_606, e59_606, e60_606, e61_606, hT, hlt627, hg628, hc82, hc720]
                obtain rfl := Option.some.inj hm721
                rw [ctlK_next] at hk614
                refine hK622 _ _ n616 (Nat.lt_succ_self _) ⟨(i409 + 1), (iadd .i64 j408 1), (iadd .i64 v607 x697), ?_, ?_, ?_, ?_, ?_, (iadd_idxJ hj624 (by omega) hok626), (by omega), hk614⟩ <;> first | rfl | simp [e8_606, e59_606, e60_606, e61_606, hT, hlt627, hg628, hc82, hc720]
              · clear hm700
                simp [e8_606, e59_606, e60_606, e61_606, hT, hlt627, hg628, hc82, hc720]
                refine ga718 _ _ ?_
                refine AWp.seqK fun K723 hk724 => ?_
                refine AWp.region [] (by decide +kernel) ?_
                simp [e8_606, e59_606, e60_606, e61_606, hT, hlt627, hg628, hc82, hc720]
                refine hk724 _ _ ?_
                refine AWp.ret ?_
                try simp only [thenQ_ret]
                refine nr688 _ _ ?_
                try simp only [thenQ_ret]
                refine nr621 _ _ ?_
                try simp only [thenQ_ret]
                obtain rfl := Option.some.inj hm722
                rw [ctlK_ret] at hk614
                obtain rfl := Option.some.inj hk614
                rw [sumK_inr] at hmB612
                try dsimp only at hmB612
                simp only [Option.some.injEq, Prod.mk.injEq] at hmB612
                obtain ⟨rfl, rfl⟩ := hmB612
                simp [retQ, e8_606, e59_606, e60_606, e61_606, hT, hlt627, hg628, hc82, hc720]
theorem r_tree_termNodes (T : Tabs) (hT : T 0 = some (AV.agg (List.map (fun n => AV.sc (Value.int .i64 n)) tree_arities))) {H : Heap} {a0 : Tm} {r0 : Int} {r1 : Bool} {n : Nat} (hm : tree_termNodes n a0 = some (r0, r1)) : ACall Tryd.prog T 106 [Tm.av a0] H (AV.tuple [AV.sc (.int .i64 r0), AV.sc (.bool r1)]) H := (rg_tree_termNodes T hT n) hm

end Go.Proofs.YtdihelfnjememaaDoor
