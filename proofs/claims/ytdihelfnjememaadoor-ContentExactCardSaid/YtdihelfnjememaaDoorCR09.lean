/- The program's functions do what the models say. -/
import Derived.Test.YtdihelfnjememaaDoorCR08
import Derived.Test.YtdihelfnjememaaDoorCM
set_option linter.unusedSimpArgs false
set_option linter.unusedVariables false
namespace Go.Proofs.YtdihelfnjememaaDoor
open Go Go.Abs Go.Mdl

theorem enters87 : entersB Tryd.prog 87 = true := by kernel_rfl
set_option maxRecDepth 20000 in
set_option maxHeartbeats 4000000 in
theorem r_ref07_below (T : Tabs) {H : Heap} {a0 : Fm} {r0 : Int} (hm : ref07_below a0 = some r0) : ACall Tryd.prog T 87 [Fm.av a0] H (AV.sc (.int .i64 r0)) H := by
  rw [ref07_below] at hm
  refine ACallP.intro (fn := Tryd.f87) Tryd.func87 rfl enters87 (Nat.le_of_ble_eq_true rfl) ?_
  refine AWp.seqK fun K1 hk2 => ?_
  refine AWp.region [] (by decide +kernel) ?_
  simp
  refine hk2 _ _ ?_
  refine AWp.seqK fun K20 hk21 => ?_
  refine AWp.seqK fun K25 hk26 => ?_
  refine AWp.region [] (by decide +kernel) ?_
  obtain ⟨x27, hx28, hm29⟩ := bind1_some hm
  clear hm
  try dsimp only at hm29
  simp
  refine CallAt.fn (r_ref07_quantifier T hx28) ?_
  simp
  refine hk26 _ _ ?_
  refine AWp.condK rfl fun A30 B31 ga32 gb33 => ?_
  rcases ite_some hm29 with ⟨hc34, hm35⟩ | ⟨hc34, hm36⟩
  · clear hm29
    simp [hc34]
    refine ga32 _ _ ?_
    refine AWp.seqK fun K37 hk38 => ?_
    refine AWp.region [] (by decide +kernel) ?_
    simp [hc34]
    refine hk38 _ _ ?_
    refine AWp.ret ?_
    try simp only [thenQ_ret]
    obtain rfl := Option.some.inj hm35
    simp [retQ, hc34]
  · clear hm29
    simp [hc34]
    refine gb33 _ _ ?_
    refine AWp.skip ?_
    try simp only [thenQ_normal]
    refine hk21 _ _ ?_
    refine AWp.seqK fun K39 hk40 => ?_
    refine AWp.region [] (by decide +kernel) ?_
    simp [hc34]
    refine hk40 _ _ ?_
    refine AWp.ret ?_
    try simp only [thenQ_ret]
    obtain rfl := Option.some.inj hm36
    simp [retQ, hc34]

theorem enters54 : entersB Tryd.prog 54 = true := by kernel_rfl
set_option maxRecDepth 20000 in
set_option maxHeartbeats 4000000 in
theorem rg_ref07_Up (T : Tabs) : ∀ (n : Nat), (∀ {H : Heap} {a0 : Fm} {a1 : Int} {a2 : Int} {r0 : Fm} (hm : ref07_Up n a0 a1 a2 = some r0), ACall Tryd.prog T 54 [Fm.av a0, AV.sc (.int .i64 a1), AV.sc (.int .i64 a2)] H (Fm.av r0) H) := by
  intro n
  induction n with
  | zero =>
    skip
    all_goals
      intros
      rename_i hm
      cases hm
  | succ n ih =>
    intro H a0 a1 a2 r0 hm
    rw [ref07_Up] at hm
    refine ACallP.intro (fn := Tryd.f54) Tryd.func54 rfl enters54 (Nat.le_of_ble_eq_true rfl) ?_
    refine AWp.seqK fun K1 hk2 => ?_
    refine AWp.region [] (by decide +kernel) ?_
    simp
    refine hk2 _ _ ?_
    refine AWp.seqK fun K3 hk4 => ?_
    refine AWp.region [] (by decide +kernel) ?_
    simp
    refine hk4 _ _ ?_
    refine AWp.seqK fun K91 hk92 => ?_
    refine AWp.seqK fun K93 hk94 => ?_
    refine AWp.region [] (by decide +kernel) ?_
    simp
    refine hk94 _ _ ?_
    obtain ⟨hok197, hm529⟩ := chk_some hm
    clear hm
    obtain ⟨F179, hF180, hm530⟩ := joinB_some hm529
    clear hm529
    try dsimp only at hm530
    obtain ⟨out181, hl182, hmB183⟩ := bind1_some hm530
    clear hm530
    refine AWp.blockK fun Q188 nn189 ne190 nx191 nr192 => ?_
    refine AWp.loopF (fun n187 fr h => ∃ (i96 : Nat) (j95 : Int) (v178 : (List Tm)) (tg0_177 : Tag) (g3_177 : Nat) (g6_177 : Nat) (g7_177 : Nat), H = h ∧ fr.env 1 = AV.sc (.int .i64 a1) ∧ fr.env 2 = AV.sc (.int .i64 a2) ∧ fr.env 3 = AV.lptr 3 g3_177 0 ∧ fr.env 6 = AV.lptr 6 g6_177 0 ∧ fr.env 7 = AV.lptr 7 g7_177 0 ∧ fr.env 18 = AV.slice .frz (List.map Tm.av a0.terms) ∧ fr.env 19 = AV.sc (.int .i64 (llen a0.terms)) ∧ fr.env 20 = AV.sc (.int .i64 j95) ∧ fr.gen 3 = g3_177 ∧ fr.box 3 = some [AV.sc (.int .i64 a0.kind), AV.sc (.int .i64 a0.typeF.kind), AV.slice .frz (List.map Ty.av a0.typeF.args), AV.slice .frz (List.map Tm.av a0.terms), AV.slice .frz (List.map Fm.av a0.args)] ∧ fr.gen 6 = g6_177 ∧ fr.box 6 = some [AV.sc (.int .i64 0), AV.sc (.int .i64 0), AV.slice .full [], AV.slice .full [], AV.slice .full []] ∧ fr.gen 7 = g7_177 ∧ fr.box 7 = some [AV.sc (.int .i64 a0.kind), AV.sc (.int .i64 a0.typeF.kind), AV.slice .frz (List.map Ty.av a0.typeF.args), AV.slice tg0_177 (List.map Tm.av v178), AV.slice .full []] ∧ OwnT fr.tab fr.tgen [31] tg0_177 (List.length v178) ∧ j95 = (i96 : Int) ∧ i96 + n187 = List.length a0.terms ∧ forR F179 (List.drop i96 a0.terms) i96 v178 = some out181) (List.length a0.terms) ?_ ?_
    · refine ⟨0, 0, [], .full, 1, 1, 1, ?_, ?_, ?_, ?_, ?_, ?_, ?_, ?_, ?_, ?_, ?_, ?_, ?_, ?_, ?_, OwnT.full, rfl, (by simp), hl182⟩ <;> first | rfl | simp
    · rintro n187 fr177 h177 ⟨i96, j95, v178, tg0_177, g3_177, g6_177, g7_177, rfl, e1_177, e2_177, e3_177, e6_177, e7_177, e18_177, e19_177, e20_177, g3e_177, b3_177, g6e_177, b6_177, g7e_177, b7_177, o0_177, hj195, hi196, hl182⟩ K194 hK193
      rcases n187 with _ | n187
      · have hlt198 := ilt_notJ (l := a0.terms) hj195 (by omega)
        refine AWp.seqK fun K238 hk239 => ?_
        refine AWp.region [] (by decide +kernel) ?_
        simp [e1_177, e2_177, e3_177, e6_177, e7_177, e18_177, e19_177, e20_177, g3e_177, b3_177, g6e_177, b6_177, g7e_177, b7_177, hlt198]
        refine hk239 _ _ ?_
        refine AWp.seqK fun K244 hk245 => ?_
        refine AWp.condK rfl fun A246 B247 ga248 gb249 => ?_
        simp [e1_177, e2_177, e3_177, e6_177, e7_177, e18_177, e19_177, e20_177, g3e_177, b3_177, g6e_177, b6_177, g7e_177, b7_177, hlt198]
        refine gb249 _ _ ?_
        refine AWp.exit ?_
        try simp only [thenQ_exit]
        refine ne190 _ _ ?_
        try simp only [thenQ_normal]
        rw [List.drop_eq_nil_of_le (by omega), forR_nil] at hl182
        obtain rfl := Option.some.inj hl182
        rw [sumK_inl] at hmB183
        try dsimp only at hmB183
        refine hk92 _ _ ?_
        refine AWp.seqK fun K348 hk349 => ?_
        refine AWp.seqK fun K350 hk351 => ?_
        refine AWp.region [] (by decide +kernel) ?_
        simp [e1_177, e2_177, e3_177, e6_177, e7_177, e18_177, e19_177, e20_177, g3e_177, b3_177, g6e_177, b6_177, g7e_177, b7_177, hlt198]
        refine hk351 _ _ ?_
        obtain ⟨hok466, hm527⟩ := chk_some hmB183
        clear hmB183
        obtain ⟨F448, hF449, hm528⟩ := joinB_some hm527
        clear hm527
        try dsimp only at hm528
        obtain ⟨out450, hl451, hmB452⟩ := bind1_some hm528
        clear hm528
        refine AWp.blockK fun Q457 nn458 ne459 nx460 nr461 => ?_
        refine AWp.loopF (fun n456 fr h => ∃ (i353 : Nat) (j352 : Int) (v447 : (List Fm)) (tg0_446 : Tag) (tg1_446 : Tag) (g3_446 : Nat) (g6_446 : Nat) (g7_446 : Nat), H = h ∧ fr.env 1 = AV.sc (.int .i64 a1) ∧ fr.env 2 = AV.sc (.int .i64 a2) ∧ fr.env 3 = AV.lptr 3 g3_446 0 ∧ fr.env 6 = AV.lptr 6 g6_446 0 ∧ fr.env 7 = AV.lptr 7 g7_446 0 ∧ fr.env 35 = AV.slice .frz (List.map Fm.av a0.args) ∧ fr.env 36 = AV.sc (.int .i64 (llen a0.args)) ∧ fr.env 37 = AV.sc (.int .i64 j352) ∧ fr.gen 3 = g3_446 ∧ fr.box 3 = some [AV.sc (.int .i64 a0.kind), AV.sc (.int .i64 a0.typeF.kind), AV.slice .frz (List.map Ty.av a0.typeF.args), AV.slice .frz (List.map Tm.av a0.terms), AV.slice .frz (List.map Fm.av a0.args)] ∧ fr.gen 6 = g6_446 ∧ fr.box 6 = some [AV.sc (.int .i64 0), AV.sc (.int .i64 0), AV.slice .full [], AV.slice .full [], AV.slice .full []] ∧ fr.gen 7 = g7_446 ∧ fr.box 7 = some [AV.sc (.int .i64 a0.kind), AV.sc (.int .i64 a0.typeF.kind), AV.slice .frz (List.map Ty.av a0.typeF.args), AV.slice tg0_446 (List.map Tm.av v178), AV.slice tg1_446 (List.map Fm.av v447)] ∧ OwnT fr.tab fr.tgen [31] tg0_446 (List.length v178) ∧ OwnT fr.tab fr.tgen [51] tg1_446 (List.length v447) ∧ j352 = (i353 : Int) ∧ i353 + n456 = List.length a0.args ∧ forR F448 (List.drop i353 a0.args) i353 v447 = some out450) (List.length a0.args) ?_ ?_
        · refine ⟨0, 0, [], tg0_177, .full, g3_177, g6_177, g7_177, ?_, ?_, ?_, ?_, ?_, ?_, ?_, ?_, ?_, ?_, ?_, ?_, ?_, ?_, ?_, (OwnT.mono (D := [31]) o0_177 (by decide)), OwnT.full, rfl, (by simp), hl451⟩ <;> first | rfl | simp [e1_177, e2_177, e3_177, e6_177, e7_177, e18_177, e19_177, e20_177, g3e_177, b3_177, g6e_177, b6_177, g7e_177, b7_177, hlt198]
        · rintro n456 fr446 h446 ⟨i353, j352, v447, tg0_446, tg1_446, g3_446, g6_446, g7_446, rfl, e1_446, e2_446, e3_446, e6_446, e7_446, e35_446, e36_446, e37_446, g3e_446, b3_446, g6e_446, b6_446, g7e_446, b7_446, o0_446, o1_446, hj464, hi465, hl451⟩ K463 hK462
          rcases n456 with _ | n456
          · have hlt467 := ilt_notJ (l := a0.args) hj464 (by omega)
            refine AWp.seqK fun K513 hk514 => ?_
            refine AWp.region [] (by decide +kernel) ?_
            simp [e1_446, e2_446, e3_446, e6_446, e7_446, e35_446, e36_446, e37_446, g3e_446, b3_446, g6e_446, b6_446, g7e_446, b7_446, hlt198, hlt467]
            refine hk514 _ _ ?_
            refine AWp.seqK fun K519 hk520 => ?_
            refine AWp.condK rfl fun A521 B522 ga523 gb524 => ?_
            simp [e1_446, e2_446, e3_446, e6_446, e7_446, e35_446, e36_446, e37_446, g3e_446, b3_446, g6e_446, b6_446, g7e_446, b7_446, hlt198, hlt467]
            refine gb524 _ _ ?_
            refine AWp.exit ?_
            try simp only [thenQ_exit]
            refine ne459 _ _ ?_
            try simp only [thenQ_normal]
            rw [List.drop_eq_nil_of_le (by omega), forR_nil] at hl451
            obtain rfl := Option.some.inj hl451
            rw [sumK_inl] at hmB452
            try dsimp only at hmB452
            refine hk349 _ _ ?_
            refine AWp.seqK fun K525 hk526 => ?_
            refine AWp.region [] (by decide +kernel) ?_
            simp [e1_446, e2_446, e3_446, e6_446, e7_446, e35_446, e36_446, e37_446, g3e_446, b3_446, g6e_446, b6_446, g7e_446, b7_446, hlt198, hlt467]
            refine hk526 _ _ ?_
            refine AWp.ret ?_
            try simp only [thenQ_ret]
            obtain rfl := Option.some.inj hmB452
            simp [retQ, e1_446, e2_446, e3_446, e6_446, e7_446, e35_446, e36_446, e37_446, g3e_446, b3_446, g6e_446, b6_446, g7e_446, b7_446, hlt198, hlt467]
          · have hlt467 := ilt_ofJ (l := a0.args) hj464 (by omega)
            obtain ⟨x354, hdn456, hg468⟩ := drop_ltJ (l := a0.args) hj464 (by omega)
            rw [hdn456, forR_cons] at hl451
            obtain ⟨c453, hb455, hk454⟩ := bind1_some hl451
            clear hl451
            rw [hF449, ← hj464] at hb455
            try dsimp only at hb455
            refine AWp.seqK fun K469 hk470 => ?_
            refine AWp.region [] (by decide +kernel) ?_
            simp [e1_446, e2_446, e3_446, e6_446, e7_446, e35_446, e36_446, e37_446, g3e_446, b3_446, g6e_446, b6_446, g7e_446, b7_446, hlt198, hlt467, hg468]
            refine hk470 _ _ ?_
            refine AWp.seqK fun K475 hk476 => ?_
            refine AWp.condK rfl fun A477 B478 ga479 gb480 => ?_
            simp [e1_446, e2_446, e3_446, e6_446, e7_446, e35_446, e36_446, e37_446, g3e_446, b3_446, g6e_446, b6_446, g7e_446, b7_446, hlt198, hlt467, hg468]
            refine ga479 _ _ ?_
            refine AWp.skip ?_
            try simp only [thenQ_normal]
            refine hk476 _ _ ?_
            refine AWp.seqK fun K496 hk497 => ?_
            refine AWp.blockK fun Q498 nn499 ne500 nx501 nr502 => ?_
            refine AWp.seqK fun K503 hk504 => ?_
            refine AWp.region [] (by decide +kernel) ?_
            simp [e1_446, e2_446, e3_446, e6_446, e7_446, e35_446, e36_446, e37_446, g3e_446, b3_446, g6e_446, b6_446, g7e_446, b7_446, hlt198, hlt467, hg468]
            refine hk504 _ _ ?_
            refine AWp.regionD [] false mixed (by decide +kernel) (by decide +kernel) ?_
            obtain ⟨x505, hx506, hm507⟩ := bind1_some hb455
            clear hb455
            try dsimp only at hm507
            simp [e1_446, e2_446, e3_446, e6_446, e7_446, e35_446, e36_446, e37_446, g3e_446, b3_446, g6e_446, b6_446, g7e_446, b7_446, hlt198, hlt467, hg468]
            refine CallAtD.fn (r_ref07_below T hx506) (by simp) ?_
            obtain ⟨x508, hx509, hm510⟩ := bind1_some hm507
            clear hm507
            try dsimp only at hm510
            simp [e1_446, e2_446, e3_446, e6_446, e7_446, e35_446, e36_446, e37_446, g3e_446, b3_446, g6e_446, b6_446, g7e_446, b7_446, hlt198, hlt467, hg468]
            refine CallAtD.fn (ih hx509) (by simp) ?_
            obtain ⟨ha511, hm512⟩ := chk_some hm510
            clear hm510
            simp [e1_446, e2_446, e3_446, e6_446, e7_446, e35_446, e36_446, e37_446, g3e_446, b3_446, g6e_446, b6_446, g7e_446, b7_446, hlt198, hlt467, hg468]
            refine AppAt.own (f := Fm.av) v447 [x508] o1_446 ap27 (by intro x; simp) ha511 (by first | rfl | simp) (by first | rfl | simp) ?_
            simp [e1_446, e2_446, e3_446, e6_446, e7_446, e35_446, e36_446, e37_446, g3e_446, b3_446, g6e_446, b6_446, g7e_446, b7_446, hlt198, hlt467, hg468]
            refine nn499 _ _ ?_
            try simp only [thenQ_normal]
            refine hk497 _ _ ?_
            refine AWp.region [] (by decide +kernel) ?_
            simp [e1_446, e2_446, e3_446, e6_446, e7_446, e35_446, e36_446, e37_446, g3e_446, b3_446, g6e_446, b6_446, g7e_446, b7_446, hlt198, hlt467, hg468]
            obtain rfl := Option.some.inj hm512
            rw [ctlK_next] at hk454
            refine hK462 _ _ n456 (Nat.lt_succ_self _) ⟨(i353 + 1), (iadd .i64 j352 1), (lapp v447 [x508]), tg0_446, (.loc 51 (fr446.tgen 51 + 1)), g3_446, g6_446, g7_446, ?_, ?_, ?_, ?_, ?_, ?_, ?_, ?_, ?_, ?_, ?_, ?_, ?_, ?_, ?_, (OwnT.mono (D := [31]) (OwnT.other o0_446 o1_446 (by decide) (by decide)) (by decide)), (OwnT.mono (D := [51]) (OwnT.new (D := [51]) (d := 51) (by decide)) (by decide)), (iadd_idxJ hj464 (by omega) hok466), (by omega), hk454⟩ <;> first | rfl | simp [e1_446, e2_446, e3_446, e6_446, e7_446, e35_446, e36_446, e37_446, g3e_446, b3_446, g6e_446, b6_446, g7e_446, b7_446, hlt198, hlt467, hg468]
      · have hlt198 := ilt_ofJ (l := a0.terms) hj195 (by omega)
        obtain ⟨x97, hdn187, hg199⟩ := drop_ltJ (l := a0.terms) hj195 (by omega)
        rw [hdn187, forR_cons] at hl182
        obtain ⟨c184, hb186, hk185⟩ := bind1_some hl182
        clear hl182
        rw [hF180, ← hj195] at hb186
        try dsimp only at hb186
        refine AWp.seqK fun K200 hk201 => ?_
        refine AWp.region [] (by decide +kernel) ?_
        simp [e1_177, e2_177, e3_177, e6_177, e7_177, e18_177, e19_177, e20_177, g3e_177, b3_177, g6e_177, b6_177, g7e_177, b7_177, hlt198, hg199]
        refine hk201 _ _ ?_
        refine AWp.seqK fun K206 hk207 => ?_
        refine AWp.condK rfl fun A208 B209 ga210 gb211 => ?_
        simp [e1_177, e2_177, e3_177, e6_177, e7_177, e18_177, e19_177, e20_177, g3e_177, b3_177, g6e_177, b6_177, g7e_177, b7_177, hlt198, hg199]
        refine ga210 _ _ ?_
        refine AWp.skip ?_
        try simp only [thenQ_normal]
        refine hk207 _ _ ?_
        refine AWp.seqK fun K224 hk225 => ?_
        refine AWp.blockK fun Q226 nn227 ne228 nx229 nr230 => ?_
        refine AWp.seqK fun K231 hk232 => ?_
        refine AWp.region [] (by decide +kernel) ?_
        simp [e1_177, e2_177, e3_177, e6_177, e7_177, e18_177, e19_177, e20_177, g3e_177, b3_177, g6e_177, b6_177, g7e_177, b7_177, hlt198, hg199]
        refine hk232 _ _ ?_
        refine AWp.regionD [] false mixed (by decide +kernel) (by decide +kernel) ?_
        obtain ⟨x233, hx234, hm235⟩ := bind1_some hb186
        clear hb186
        try dsimp only at hm235
        simp [e1_177, e2_177, e3_177, e6_177, e7_177, e18_177, e19_177, e20_177, g3e_177, b3_177, g6e_177, b6_177, g7e_177, b7_177, hlt198, hg199]
        refine CallAtD.fn (r_ref03_Up T hx234) (by simp) ?_
        obtain ⟨ha236, hm237⟩ := chk_some hm235
        clear hm235
        simp [e1_177, e2_177, e3_177, e6_177, e7_177, e18_177, e19_177, e20_177, g3e_177, b3_177, g6e_177, b6_177, g7e_177, b7_177, hlt198, hg199]
        refine AppAt.own (f := Tm.av) v178 [x233] o0_177 ap26 (by intro x; simp) ha236 (by first | rfl | simp) (by first | rfl | simp) ?_
        simp [e1_177, e2_177, e3_177, e6_177, e7_177, e18_177, e19_177, e20_177, g3e_177, b3_177, g6e_177, b6_177, g7e_177, b7_177, hlt198, hg199]
        refine nn227 _ _ ?_
        try simp only [thenQ_normal]
        refine hk225 _ _ ?_
        refine AWp.region [] (by decide +kernel) ?_
        simp [e1_177, e2_177, e3_177, e6_177, e7_177, e18_177, e19_177, e20_177, g3e_177, b3_177, g6e_177, b6_177, g7e_177, b7_177, hlt198, hg199]
        obtain rfl := Option.some.inj hm237
        rw [ctlK_next] at hk185
        refine hK193 _ _ n187 (Nat.lt_succ_self _) ⟨(i96 + 1), (iadd .i64 j95 1), (lapp v178 [x233]), (.loc 31 (fr177.tgen 31 + 1)), g3_177, g6_177, g7_177, ?_, ?_, ?_, ?_, ?_, ?_, ?_, ?_, ?_, ?_, ?_, ?_, ?_, ?_, ?_, (OwnT.mono (D := [31]) (OwnT.new (D := [31]) (d := 31) (by decide)) (by decide)), (iadd_idxJ hj195 (by omega) hok197), (by omega), hk185⟩ <;> first | rfl | simp [e1_177, e2_177, e3_177, e6_177, e7_177, e18_177, e19_177, e20_177, g3e_177, b3_177, g6e_177, b6_177, g7e_177, b7_177, hlt198, hg199]
theorem r_ref07_Up (T : Tabs) {H : Heap} {a0 : Fm} {a1 : Int} {a2 : Int} {r0 : Fm} {n : Nat} (hm : ref07_Up n a0 a1 a2 = some r0) : ACall Tryd.prog T 54 [Fm.av a0, AV.sc (.int .i64 a1), AV.sc (.int .i64 a2)] H (Fm.av r0) H := (rg_ref07_Up T n) hm

theorem enters27 : entersB Tryd.prog 27 = true := by kernel_rfl
set_option maxRecDepth 20000 in
set_option maxHeartbeats 4000000 in
theorem r_ref07_Lift (T : Tabs) {H : Heap} {a0 : Fm} {a1 : Int} {a2 : Int} {r0 : Fm} {r1 : Int} (hm : ref07_Lift a0 a1 a2 = some (r0, r1)) : ACall Tryd.prog T 27 [Fm.av a0, AV.sc (.int .i64 a1), AV.sc (.int .i64 a2)] H (AV.tuple [Fm.av r0, AV.sc (.int .i64 r1)]) H := by
  rw [ref07_Lift] at hm
  refine ACallP.intro (fn := Tryd.f27) Tryd.func27 rfl enters27 (Nat.le_of_ble_eq_true rfl) ?_
  refine AWp.seqK fun K1 hk2 => ?_
  refine AWp.region [] (by decide +kernel) ?_
  simp
  refine hk2 _ _ ?_
  refine AWp.seqK fun K22 hk23 => ?_
  refine AWp.seqK fun K27 hk28 => ?_
  refine AWp.region [] (by decide +kernel) ?_
  obtain ⟨x29, hx30, hm31⟩ := bind1_some hm
  clear hm
  try dsimp only at hm31
  simp
  refine CallAt.fn (r_ref07_Check T hx30) ?_
  simp
  refine hk28 _ _ ?_
  refine AWp.seqK fun K32 hk33 => ?_
  refine AWp.region [] (by decide +kernel) ?_
  simp
  refine hk33 _ _ ?_
  refine AWp.condK rfl fun A34 B35 ga36 gb37 => ?_
  rcases ite_some hm31 with ⟨hc38, hm39⟩ | ⟨hc38, hm40⟩
  · clear hm31
    simp [hc38]
    refine ga36 _ _ ?_
    refine AWp.seqK fun K41 hk42 => ?_
    refine AWp.region [] (by decide +kernel) ?_
    simp [hc38]
    refine hk42 _ _ ?_
    refine AWp.ret ?_
    try simp only [thenQ_ret]
    simp only [Option.some.injEq, Prod.mk.injEq] at hm39
    obtain ⟨rfl, rfl⟩ := hm39
    simp [retQ, hc38]
  · clear hm31
    simp [hc38]
    refine gb37 _ _ ?_
    refine AWp.skip ?_
    try simp only [thenQ_normal]
    refine hk23 _ _ ?_
    refine AWp.seqK fun K90 hk91 => ?_
    obtain ⟨j111, hj112, hm113⟩ := joinB_some hm40
    clear hm40
    refine AWp.seqP (fun fr h => ∃ (v110 : Bool) (g3_109 : Nat) (g6_109 : Nat), H = h ∧ fr.env 1 = AV.sc (.int .i64 a1) ∧ fr.env 2 = AV.sc (.int .i64 a2) ∧ fr.env 3 = AV.lptr 3 g3_109 0 ∧ fr.env 6 = AV.lptr 6 g6_109 0 ∧ fr.env 33 = AV.sc (.bool v110) ∧ fr.gen 3 = g3_109 ∧ fr.box 3 = some [AV.sc (.int .i64 a0.kind), AV.sc (.int .i64 a0.typeF.kind), AV.slice .frz (List.map Ty.av a0.typeF.args), AV.slice .frz (List.map Tm.av a0.terms), AV.slice .frz (List.map Fm.av a0.args)] ∧ fr.gen 6 = g6_109 ∧ fr.box 6 = some [AV.sc (.int .i64 0), AV.sc (.int .i64 0), AV.slice .full [], AV.slice .full [], AV.slice .full []] ∧ j111 v110 = some (r0, r1)) (fun K107 hk108 => ?_) ?_
    · refine AWp.region [] (by decide +kernel) ?_
      rcases ite_some hm113 with ⟨hc115, hm116⟩ | ⟨hc115, hm117⟩
      · clear hm113
        simp [hc38, hc115]
        refine hk108 _ _ ⟨true, 1, 1, ?_, ?_, ?_, ?_, ?_, ?_, ?_, ?_, ?_, ?_, hm116⟩ <;> first | rfl | simp [hc38, hc115]
      · clear hm113
        rcases ite_some hm117 with ⟨hc118, hm119⟩ | ⟨hc118, hm120⟩
        · clear hm117
          simp [hc38, hc115, hc118]
          refine hk108 _ _ ⟨true, 1, 1, ?_, ?_, ?_, ?_, ?_, ?_, ?_, ?_, ?_, ?_, hm119⟩ <;> first | rfl | simp [hc38, hc115, hc118]
        · clear hm117
          rcases ite_some hm120 with ⟨hc121, hm122⟩ | ⟨hc121, hm123⟩
          · clear hm120
            simp [hc38, hc115, hc118, hc121]
            refine hk108 _ _ ⟨true, 1, 1, ?_, ?_, ?_, ?_, ?_, ?_, ?_, ?_, ?_, ?_, hm122⟩ <;> first | rfl | simp [hc38, hc115, hc118, hc121]
          · clear hm120
            rcases ite_some hm123 with ⟨hc124, hm125⟩ | ⟨hc124, hm126⟩
            · clear hm123
              simp [hc38, hc115, hc118, hc121, hc124]
              refine hk108 _ _ ⟨true, 1, 1, ?_, ?_, ?_, ?_, ?_, ?_, ?_, ?_, ?_, ?_, hm125⟩ <;> first | rfl | simp [hc38, hc115, hc118, hc121, hc124]
            · clear hm123
              obtain ⟨x127, hx128, hm129⟩ := bind1_some hm126
              clear hm126
              try dsimp only at hm129
              simp [hc38, hc115, hc118, hc121, hc124]
              refine CallAt.fn (r_ref07_Least T hx128) ?_
              simp [hc38, hc115, hc118, hc121, hc124]
              refine hk108 _ _ ⟨(bnot x127), 1, 1, ?_, ?_, ?_, ?_, ?_, ?_, ?_, ?_, ?_, ?_, hm129⟩ <;> first | rfl | simp [hc38, hc115, hc118, hc121, hc124]
    · clear hm113
      rintro fr109 h109 ⟨v110, g3_109, g6_109, rfl, e1_109, e2_109, e3_109, e6_109, e33_109, g3e_109, b3_109, g6e_109, b6_109, hm114⟩
      subst hj112
      refine AWp.condK rfl fun A130 B131 ga132 gb133 => ?_
      rcases ite_some hm114 with ⟨hc134, hm135⟩ | ⟨hc134, hm136⟩
      · clear hm114
        simp [e1_109, e2_109, e3_109, e6_109, e33_109, g3e_109, b3_109, g6e_109, b6_109, hc38, hc134]
        refine ga132 _ _ ?_
        refine AWp.seqK fun K137 hk138 => ?_
        refine AWp.region [] (by decide +kernel) ?_
        simp [e1_109, e2_109, e3_109, e6_109, e33_109, g3e_109, b3_109, g6e_109, b6_109, hc38, hc134]
        refine hk138 _ _ ?_
        refine AWp.ret ?_
        try simp only [thenQ_ret]
        simp only [Option.some.injEq, Prod.mk.injEq] at hm135
        obtain ⟨rfl, rfl⟩ := hm135
        simp [retQ, e1_109, e2_109, e3_109, e6_109, e33_109, g3e_109, b3_109, g6e_109, b6_109, hc38, hc134]
      · clear hm114
        simp [e1_109, e2_109, e3_109, e6_109, e33_109, g3e_109, b3_109, g6e_109, b6_109, hc38, hc134]
        refine gb133 _ _ ?_
        refine AWp.skip ?_
        try simp only [thenQ_normal]
        refine hk91 _ _ ?_
        refine AWp.seqK fun K145 hk146 => ?_
        refine AWp.region [] (by decide +kernel) ?_
        obtain ⟨x147, hx148, hm149⟩ := bind1_some hm136
        clear hm136
        try dsimp only at hm149
        simp [e1_109, e2_109, e3_109, e6_109, e33_109, g3e_109, b3_109, g6e_109, b6_109, hc38, hc134]
        refine CallAt.fn (r_ref07_Up T hx148) ?_
        obtain ⟨x150, hx151, hm152⟩ := bind1_some hm149
        clear hm149
        try dsimp only at hm152
        simp [e1_109, e2_109, e3_109, e6_109, e33_109, g3e_109, b3_109, g6e_109, b6_109, hc38, hc134]
        refine CallAt.fn (r_ref07_Copy T hx151) ?_
        simp [e1_109, e2_109, e3_109, e6_109, e33_109, g3e_109, b3_109, g6e_109, b6_109, hc38, hc134]
        refine hk146 _ _ ?_
        refine AWp.ret ?_
        try simp only [thenQ_ret]
        simp only [Option.some.injEq, Prod.mk.injEq] at hm152
        obtain ⟨rfl, rfl⟩ := hm152
        simp [retQ, e1_109, e2_109, e3_109, e6_109, e33_109, g3e_109, b3_109, g6e_109, b6_109, hc38, hc134]

theorem enters56 : entersB Tryd.prog 56 = true := by kernel_rfl
set_option maxRecDepth 20000 in
set_option maxHeartbeats 4000000 in
theorem r_ref02_Check (T : Tabs) {H : Heap} {a0 : Tm} {r0 : Int} (hm : ref02_Check a0 = some r0) : ACall Tryd.prog T 56 [Tm.av a0] H (AV.sc (.int .i64 r0)) H := by
  rw [ref02_Check] at hm
  refine ACallP.intro (fn := Tryd.f56) Tryd.func56 rfl enters56 (Nat.le_of_ble_eq_true rfl) ?_
  refine AWp.seqK fun K1 hk2 => ?_
  refine AWp.region [] (by decide +kernel) ?_
  simp
  refine hk2 _ _ ?_
  refine AWp.seqK fun K20 hk21 => ?_
  refine AWp.seqK fun K25 hk26 => ?_
  refine AWp.region [] (by decide +kernel) ?_
  obtain ⟨x27, hx28, hm29⟩ := bind1_some hm
  clear hm
  try dsimp only at hm29
  simp
  refine CallAt.fn (r_ref02_Shape T hx28) ?_
  simp
  refine hk26 _ _ ?_
  refine AWp.condK rfl fun A30 B31 ga32 gb33 => ?_
  rcases ite_some hm29 with ⟨hc34, hm35⟩ | ⟨hc34, hm36⟩
  · clear hm29
    simp [hc34]
    refine gb33 _ _ ?_
    refine AWp.skip ?_
    try simp only [thenQ_normal]
    refine hk21 _ _ ?_
    refine AWp.seqK fun K54 hk55 => ?_
    refine AWp.seqK fun K59 hk60 => ?_
    refine AWp.region [] (by decide +kernel) ?_
    obtain ⟨x61, hx62, hm63⟩ := bind1_some hm35
    clear hm35
    try dsimp only at hm63
    simp [hc34]
    refine CallAt.fn (r_ref02_Count T hx62) ?_
    simp [hc34]
    refine hk60 _ _ ?_
    refine AWp.condK rfl fun A64 B65 ga66 gb67 => ?_
    rcases ite_some hm63 with ⟨hc68, hm69⟩ | ⟨hc68, hm70⟩
    · clear hm63
      simp [hc34, hc68]
      refine ga66 _ _ ?_
      refine AWp.seqK fun K71 hk72 => ?_
      refine AWp.region [] (by decide +kernel) ?_
      simp [hc34, hc68]
      refine hk72 _ _ ?_
      refine AWp.ret ?_
      try simp only [thenQ_ret]
      obtain rfl := Option.some.inj hm69
      simp [retQ, hc34, hc68]
    · clear hm63
      simp [hc34, hc68]
      refine gb67 _ _ ?_
      refine AWp.skip ?_
      try simp only [thenQ_normal]
      refine hk55 _ _ ?_
      refine AWp.seqK fun K73 hk74 => ?_
      refine AWp.region [] (by decide +kernel) ?_
      simp [hc34, hc68]
      refine hk74 _ _ ?_
      refine AWp.ret ?_
      try simp only [thenQ_ret]
      obtain rfl := Option.some.inj hm70
      simp [retQ, hc34, hc68]
  · clear hm29
    simp [hc34]
    refine ga32 _ _ ?_
    refine AWp.seqK fun K75 hk76 => ?_
    refine AWp.region [] (by decide +kernel) ?_
    simp [hc34]
    refine hk76 _ _ ?_
    refine AWp.ret ?_
    try simp only [thenQ_ret]
    obtain rfl := Option.some.inj hm36
    simp [retQ, hc34]

theorem enters89 : entersB Tryd.prog 89 = true := by kernel_rfl
set_option maxRecDepth 20000 in
set_option maxHeartbeats 4000000 in
theorem rg_ref03_Times (T : Tabs) : ∀ (n : Nat), (∀ {H : Heap} {a0 : Tm} {a1 : Int} {r0 : Int} (hm : ref03_Times n a0 a1 = some r0), ACall Tryd.prog T 89 [Tm.av a0, AV.sc (.int .i64 a1)] H (AV.sc (.int .i64 r0)) H) := by
  intro n
  induction n with
  | zero =>
    skip
    all_goals
      intros
      rename_i hm
      cases hm
  | succ n ih =>
    intro H a0 a1 r0 hm
    rw [ref03_Times] at hm
    refine ACallP.intro (fn := Tryd.f89) Tryd.func89 rfl enters89 (Nat.le_of_ble_eq_true rfl) ?_
    refine AWp.seqK fun K1 hk2 => ?_
    refine AWp.region [] (by decide +kernel) ?_
    simp
    refine hk2 _ _ ?_
    refine AWp.seqK fun K3 hk4 => ?_
    refine AWp.region [] (by decide +kernel) ?_
    simp
    refine hk4 _ _ ?_
    refine AWp.seqP (fun fr h => ∃ (g2_23 : Nat), H = h ∧ fr.env 1 = AV.sc (.int .i64 a1) ∧ fr.env 2 = AV.lptr 2 g2_23 0 ∧ fr.env 5 = AV.sc (.int .i64 (sel (sel (ieq a0.kind 1) (ieq a0.index a1) false) (iadd .i64 0 1) 0)) ∧ fr.gen 2 = g2_23 ∧ fr.box 2 = some [AV.sc (.int .i64 a0.kind), AV.sc (.int .i64 a0.index), AV.sc (.int .i64 a0.typeF.kind), AV.slice .frz (List.map Ty.av a0.typeF.args), AV.slice .frz (List.map Tm.av a0.args)]) (fun K21 hk22 => ?_) ?_
    · refine AWp.seqP (fun fr h => ∃ (g2_29 : Nat), H = h ∧ fr.env 1 = AV.sc (.int .i64 a1) ∧ fr.env 2 = AV.lptr 2 g2_29 0 ∧ fr.env 5 = AV.sc (.int .i64 0) ∧ fr.env 16 = AV.sc (.bool (sel (ieq a0.kind 1) (ieq a0.index a1) false)) ∧ fr.gen 2 = g2_29 ∧ fr.box 2 = some [AV.sc (.int .i64 a0.kind), AV.sc (.int .i64 a0.index), AV.sc (.int .i64 a0.typeF.kind), AV.slice .frz (List.map Ty.av a0.typeF.args), AV.slice .frz (List.map Tm.av a0.args)]) (fun K27 hk28 => ?_) ?_
      · refine AWp.region [] (by decide +kernel) ?_
        rcases Bool.eq_false_or_eq_true (ieq a0.kind 1) with hc30 | hc30
        · simp [hc30]
          refine hk28 _ _ ⟨1, ?_, ?_, ?_, ?_, ?_, ?_, ?_⟩ <;> first | rfl | simp [hc30]
        · simp [hc30]
          refine hk28 _ _ ⟨1, ?_, ?_, ?_, ?_, ?_, ?_, ?_⟩ <;> first | rfl | simp [hc30]
      · rintro fr29 h29 ⟨g2_29, rfl, e1_29, e2_29, e5_29, e16_29, g2e_29, b2_29⟩
        refine AWp.condK rfl fun A33 B34 ga35 gb36 => ?_
        rcases Bool.eq_false_or_eq_true (sel (ieq a0.kind 1) (ieq a0.index a1) false) with hc37 | hc37
        · simp [e1_29, e2_29, e5_29, e16_29, g2e_29, b2_29, hc37]
          refine ga35 _ _ ?_
          refine AWp.region [] (by decide +kernel) ?_
          simp [e1_29, e2_29, e5_29, e16_29, g2e_29, b2_29, hc37]
          refine hk22 _ _ ⟨g2_29, ?_, ?_, ?_, ?_, ?_, ?_⟩ <;> first | rfl | simp [e1_29, e2_29, e5_29, e16_29, g2e_29, b2_29, hc37]
        · simp [e1_29, e2_29, e5_29, e16_29, g2e_29, b2_29, hc37]
          refine gb36 _ _ ?_
          refine AWp.skip ?_
          try simp only [thenQ_normal]
          refine hk22 _ _ ⟨g2_29, ?_, ?_, ?_, ?_, ?_, ?_⟩ <;> first | rfl | simp [e1_29, e2_29, e5_29, e16_29, g2e_29, b2_29, hc37]
    · rintro fr23 h23 ⟨g2_23, rfl, e1_23, e2_23, e5_23, g2e_23, b2_23⟩
      refine AWp.seqK fun K130 hk131 => ?_
      refine AWp.seqK fun K132 hk133 => ?_
      refine AWp.region [] (by decide +kernel) ?_
      simp [e1_23, e2_23, e5_23, g2e_23, b2_23]
      refine hk133 _ _ ?_
      obtain ⟨hok240, hm297⟩ := chk_some hm
      clear hm
      obtain ⟨F222, hF223, hm298⟩ := joinB_some hm297
      clear hm297
      try dsimp only at hm298
      obtain ⟨out224, hl225, hmB226⟩ := bind1_some hm298
      clear hm298
      refine AWp.blockK fun Q231 nn232 ne233 nx234 nr235 => ?_
      refine AWp.loopF (fun n230 fr h => ∃ (i135 : Nat) (j134 : Int) (v221 : Int) (g2_220 : Nat), H = h ∧ fr.env 1 = AV.sc (.int .i64 a1) ∧ fr.env 2 = AV.lptr 2 g2_220 0 ∧ fr.env 5 = AV.sc (.int .i64 v221) ∧ fr.env 20 = AV.slice .frz (List.map Tm.av a0.args) ∧ fr.env 21 = AV.sc (.int .i64 (llen a0.args)) ∧ fr.env 22 = AV.sc (.int .i64 j134) ∧ fr.gen 2 = g2_220 ∧ fr.box 2 = some [AV.sc (.int .i64 a0.kind), AV.sc (.int .i64 a0.index), AV.sc (.int .i64 a0.typeF.kind), AV.slice .frz (List.map Ty.av a0.typeF.args), AV.slice .frz (List.map Tm.av a0.args)] ∧ j134 = (i135 : Int) ∧ i135 + n230 = List.length a0.args ∧ forR F222 (List.drop i135 a0.args) i135 v221 = some out224) (List.length a0.args) ?_ ?_
      · refine ⟨0, 0, (sel (sel (ieq a0.kind 1) (ieq a0.index a1) false) (iadd .i64 0 1) 0), g2_23, ?_, ?_, ?_, ?_, ?_, ?_, ?_, ?_, ?_, rfl, (by simp), hl225⟩ <;> first | rfl | simp [e1_23, e2_23, e5_23, g2e_23, b2_23]
      · rintro n230 fr220 h220 ⟨i135, j134, v221, g2_220, rfl, e1_220, e2_220, e5_220, e20_220, e21_220, e22_220, g2e_220, b2_220, hj238, hi239, hl225⟩ K237 hK236
        rcases n230 with _ | n230
        · have hlt241 := ilt_notJ (l := a0.args) hj238 (by omega)
          refine AWp.seqK fun K283 hk284 => ?_
          refine AWp.region [] (by decide +kernel) ?_
          simp [e1_220, e2_220, e5_220, e20_220, e21_220, e22_220, g2e_220, b2_220, hlt241]
          refine hk284 _ _ ?_
          refine AWp.seqK fun K289 hk290 => ?_
          refine AWp.condK rfl fun A291 B292 ga293 gb294 => ?_
          simp [e1_220, e2_220, e5_220, e20_220, e21_220, e22_220, g2e_220, b2_220, hlt241]
          refine gb294 _ _ ?_
          refine AWp.exit ?_
          try simp only [thenQ_exit]
          refine ne233 _ _ ?_
          try simp only [thenQ_normal]
          rw [List.drop_eq_nil_of_le (by omega), forR_nil] at hl225
          obtain rfl := Option.some.inj hl225
          rw [sumK_inl] at hmB226
          try dsimp only at hmB226
          refine hk131 _ _ ?_
          refine AWp.seqK fun K295 hk296 => ?_
          refine AWp.region [] (by decide +kernel) ?_
          simp [e1_220, e2_220, e5_220, e20_220, e21_220, e22_220, g2e_220, b2_220, hlt241]
          refine hk296 _ _ ?_
          refine AWp.ret ?_
          try simp only [thenQ_ret]
          obtain rfl := Option.some.inj hmB226
          simp [retQ, e1_220, e2_220, e5_220, e20_220, e21_220, e22_220, g2e_220, b2_220, hlt241]
        · have hlt241 := ilt_ofJ (l := a0.args) hj238 (by omega)
          obtain ⟨x136, hdn230, hg242⟩ := drop_ltJ (l := a0.args) hj238 (by omega)
          rw [hdn230, forR_cons] at hl225
          obtain ⟨c227, hb229, hk228⟩ := bind1_some hl225
          clear hl225
          rw [hF223, ← hj238] at hb229
          try dsimp only at hb229
          refine AWp.seqK fun K243 hk244 => ?_
          refine AWp.region [] (by decide +kernel) ?_
          simp [e1_220, e2_220, e5_220, e20_220, e21_220, e22_220, g2e_220, b2_220, hlt241, hg242]
          refine hk244 _ _ ?_
          refine AWp.seqK fun K249 hk250 => ?_
          refine AWp.condK rfl fun A251 B252 ga253 gb254 => ?_
          simp [e1_220, e2_220, e5_220, e20_220, e21_220, e22_220, g2e_220, b2_220, hlt241, hg242]
          refine ga253 _ _ ?_
          refine AWp.skip ?_
          try simp only [thenQ_normal]
          refine hk250 _ _ ?_
          refine AWp.seqK fun K268 hk269 => ?_
          refine AWp.blockK fun Q270 nn271 ne272 nx273 nr274 => ?_
          refine AWp.seqK fun K275 hk276 => ?_
          refine AWp.region [] (by decide +kernel) ?_
          simp [e1_220, e2_220, e5_220, e20_220, e21_220, e22_220, g2e_220, b2_220, hlt241, hg242]
          refine hk276 _ _ ?_
          refine AWp.regionD [] false mixed (by decide +kernel) (by decide +kernel) ?_
          obtain ⟨x277, hx278, hm279⟩ := bind1_some hb229
          clear hb229
          try dsimp only at hm279
          simp [e1_220, e2_220, e5_220, e20_220, e21_220, e22_220, g2e_220, b2_220, hlt241, hg242]
          refine CallAtD.fn (r_ref03_below T hx278) (by simp) ?_
          obtain ⟨x280, hx281, hm282⟩ := bind1_some hm279
          clear hm279
          try dsimp only at hm282
          simp [e1_220, e2_220, e5_220, e20_220, e21_220, e22_220, g2e_220, b2_220, hlt241, hg242]
          refine CallAtD.fn (ih hx281) (by simp) ?_
          simp [e1_220, e2_220, e5_220, e20_220, e21_220, e22_220, g2e_220, b2_220, hlt241, hg242]
          refine nn271 _ _ ?_
          try simp only [thenQ_normal]
          refine hk269 _ _ ?_
          refine AWp.region [] (by decide +kernel) ?_
          simp [e1_220, e2_220, e5_220, e20_220, e21_220, e22_220, g2e_220, b2_220, hlt241, hg242]
          obtain rfl := Option.some.inj hm282
          rw [ctlK_next] at hk228
          refine hK236 _ _ n230 (Nat.lt_succ_self _) ⟨(i135 + 1), (iadd .i64 j134 1), (iadd .i64 v221 x280), g2_220, ?_, ?_, ?_, ?_, ?_, ?_, ?_, ?_, ?_, (iadd_idxJ hj238 (by omega) hok240), (by omega), hk228⟩ <;> first | rfl | simp [e1_220, e2_220, e5_220, e20_220, e21_220, e22_220, g2e_220, b2_220, hlt241, hg242]
theorem r_ref03_Times (T : Tabs) {H : Heap} {a0 : Tm} {a1 : Int} {r0 : Int} {n : Nat} (hm : ref03_Times n a0 a1 = some r0) : ACall Tryd.prog T 89 [Tm.av a0, AV.sc (.int .i64 a1)] H (AV.sc (.int .i64 r0)) H := (rg_ref03_Times T n) hm

theorem enters59 : entersB Tryd.prog 59 = true := by kernel_rfl
set_option maxRecDepth 20000 in
set_option maxHeartbeats 4000000 in
theorem rg_ref07_times (T : Tabs) : ∀ (n : Nat), (∀ {H : Heap} {a0 : Fm} {a1 : Int} {r0 : Int} (hm : ref07_times n a0 a1 = some r0), ACall Tryd.prog T 59 [Fm.av a0, AV.sc (.int .i64 a1)] H (AV.sc (.int .i64 r0)) H) := by
  intro n
  induction n with
  | zero =>
    skip
    all_goals
      intros
      rename_i hm
      cases hm
  | succ n ih =>
    intro H a0 a1 r0 hm
    rw [ref07_times] at hm
    refine ACallP.intro (fn := Tryd.f59) Tryd.func59 rfl enters59 (Nat.le_of_ble_eq_true rfl) ?_
    refine AWp.seqK fun K1 hk2 => ?_
    refine AWp.region [] (by decide +kernel) ?_
    simp
    refine hk2 _ _ ?_
    refine AWp.seqK fun K3 hk4 => ?_
    refine AWp.region [] (by decide +kernel) ?_
    simp
    refine hk4 _ _ ?_
    refine AWp.seqK fun K83 hk84 => ?_
    refine AWp.seqK fun K85 hk86 => ?_
    refine AWp.region [] (by decide +kernel) ?_
    simp
    refine hk86 _ _ ?_
    obtain ⟨hok181, hm489⟩ := chk_some hm
    clear hm
    obtain ⟨F163, hF164, hm490⟩ := joinB_some hm489
    clear hm489
    try dsimp only at hm490
    obtain ⟨out165, hl166, hmB167⟩ := bind1_some hm490
    clear hm490
    refine AWp.blockK fun Q172 nn173 ne174 nx175 nr176 => ?_
    refine AWp.loopF (fun n171 fr h => ∃ (i88 : Nat) (j87 : Int) (v162 : Int) (g2_161 : Nat), H = h ∧ fr.env 1 = AV.sc (.int .i64 a1) ∧ fr.env 2 = AV.lptr 2 g2_161 0 ∧ fr.env 5 = AV.sc (.int .i64 v162) ∧ fr.env 11 = AV.slice .frz (List.map Tm.av a0.terms) ∧ fr.env 12 = AV.sc (.int .i64 (llen a0.terms)) ∧ fr.env 13 = AV.sc (.int .i64 j87) ∧ fr.gen 2 = g2_161 ∧ fr.box 2 = some [AV.sc (.int .i64 a0.kind), AV.sc (.int .i64 a0.typeF.kind), AV.slice .frz (List.map Ty.av a0.typeF.args), AV.slice .frz (List.map Tm.av a0.terms), AV.slice .frz (List.map Fm.av a0.args)] ∧ j87 = (i88 : Int) ∧ i88 + n171 = List.length a0.terms ∧ forR F163 (List.drop i88 a0.terms) i88 v162 = some out165) (List.length a0.terms) ?_ ?_
    · refine ⟨0, 0, 0, 1, ?_, ?_, ?_, ?_, ?_, ?_, ?_, ?_, ?_, rfl, (by simp), hl166⟩ <;> first | rfl | simp
    · rintro n171 fr161 h161 ⟨i88, j87, v162, g2_161, rfl, e1_161, e2_161, e5_161, e11_161, e12_161, e13_161, g2e_161, b2_161, hj179, hi180, hl166⟩ K178 hK177
      rcases n171 with _ | n171
      · have hlt182 := ilt_notJ (l := a0.terms) hj179 (by omega)
        refine AWp.seqK fun K218 hk219 => ?_
        refine AWp.region [] (by decide +kernel) ?_
        simp [e1_161, e2_161, e5_161, e11_161, e12_161, e13_161, g2e_161, b2_161, hlt182]
        refine hk219 _ _ ?_
        refine AWp.seqK fun K224 hk225 => ?_
        refine AWp.condK rfl fun A226 B227 ga228 gb229 => ?_
        simp [e1_161, e2_161, e5_161, e11_161, e12_161, e13_161, g2e_161, b2_161, hlt182]
        refine gb229 _ _ ?_
        refine AWp.exit ?_
        try simp only [thenQ_exit]
        refine ne174 _ _ ?_
        try simp only [thenQ_normal]
        rw [List.drop_eq_nil_of_le (by omega), forR_nil] at hl166
        obtain rfl := Option.some.inj hl166
        rw [sumK_inl] at hmB167
        try dsimp only at hmB167
        refine hk84 _ _ ?_
        refine AWp.seqK fun K320 hk321 => ?_
        refine AWp.seqK fun K322 hk323 => ?_
        refine AWp.region [] (by decide +kernel) ?_
        simp [e1_161, e2_161, e5_161, e11_161, e12_161, e13_161, g2e_161, b2_161, hlt182]
        refine hk323 _ _ ?_
        obtain ⟨hok430, hm487⟩ := chk_some hmB167
        clear hmB167
        obtain ⟨F412, hF413, hm488⟩ := joinB_some hm487
        clear hm487
        try dsimp only at hm488
        obtain ⟨out414, hl415, hmB416⟩ := bind1_some hm488
        clear hm488
        refine AWp.blockK fun Q421 nn422 ne423 nx424 nr425 => ?_
        refine AWp.loopF (fun n420 fr h => ∃ (i325 : Nat) (j324 : Int) (v411 : Int) (g2_410 : Nat), H = h ∧ fr.env 1 = AV.sc (.int .i64 a1) ∧ fr.env 2 = AV.lptr 2 g2_410 0 ∧ fr.env 5 = AV.sc (.int .i64 v411) ∧ fr.env 24 = AV.slice .frz (List.map Fm.av a0.args) ∧ fr.env 25 = AV.sc (.int .i64 (llen a0.args)) ∧ fr.env 26 = AV.sc (.int .i64 j324) ∧ fr.gen 2 = g2_410 ∧ fr.box 2 = some [AV.sc (.int .i64 a0.kind), AV.sc (.int .i64 a0.typeF.kind), AV.slice .frz (List.map Ty.av a0.typeF.args), AV.slice .frz (List.map Tm.av a0.terms), AV.slice .frz (List.map Fm.av a0.args)] ∧ j324 = (i325 : Int) ∧ i325 + n420 = List.length a0.args ∧ forR F412 (List.drop i325 a0.args) i325 v411 = some out414) (List.length a0.args) ?_ ?_
        · refine ⟨0, 0, v162, g2_161, ?_, ?_, ?_, ?_, ?_, ?_, ?_, ?_, ?_, rfl, (by simp), hl415⟩ <;> first | rfl | simp [e1_161, e2_161, e5_161, e11_161, e12_161, e13_161, g2e_161, b2_161, hlt182]
        · rintro n420 fr410 h410 ⟨i325, j324, v411, g2_410, rfl, e1_410, e2_410, e5_410, e24_410, e25_410, e26_410, g2e_410, b2_410, hj428, hi429, hl415⟩ K427 hK426
          rcases n420 with _ | n420
          · have hlt431 := ilt_notJ (l := a0.args) hj428 (by omega)
            refine AWp.seqK fun K473 hk474 => ?_
            refine AWp.region [] (by decide +kernel) ?_
            simp [e1_410, e2_410, e5_410, e24_410, e25_410, e26_410, g2e_410, b2_410, hlt182, hlt431]
            refine hk474 _ _ ?_
            refine AWp.seqK fun K479 hk480 => ?_
            refine AWp.condK rfl fun A481 B482 ga483 gb484 => ?_
            simp [e1_410, e2_410, e5_410, e24_410, e25_410, e26_410, g2e_410, b2_410, hlt182, hlt431]
            refine gb484 _ _ ?_
            refine AWp.exit ?_
            try simp only [thenQ_exit]
            refine ne423 _ _ ?_
            try simp only [thenQ_normal]
            rw [List.drop_eq_nil_of_le (by omega), forR_nil] at hl415
            obtain rfl := Option.some.inj hl415
            rw [sumK_inl] at hmB416
            try dsimp only at hmB416
            refine hk321 _ _ ?_
            refine AWp.seqK fun K485 hk486 => ?_
            refine AWp.region [] (by decide +kernel) ?_
            simp [e1_410, e2_410, e5_410, e24_410, e25_410, e26_410, g2e_410, b2_410, hlt182, hlt431]
            refine hk486 _ _ ?_
            refine AWp.ret ?_
            try simp only [thenQ_ret]
            obtain rfl := Option.some.inj hmB416
            simp [retQ, e1_410, e2_410, e5_410, e24_410, e25_410, e26_410, g2e_410, b2_410, hlt182, hlt431]
          · have hlt431 := ilt_ofJ (l := a0.args) hj428 (by omega)
            obtain ⟨x326, hdn420, hg432⟩ := drop_ltJ (l := a0.args) hj428 (by omega)
            rw [hdn420, forR_cons] at hl415
            obtain ⟨c417, hb419, hk418⟩ := bind1_some hl415
            clear hl415
            rw [hF413, ← hj428] at hb419
            try dsimp only at hb419
            refine AWp.seqK fun K433 hk434 => ?_
            refine AWp.region [] (by decide +kernel) ?_
            simp [e1_410, e2_410, e5_410, e24_410, e25_410, e26_410, g2e_410, b2_410, hlt182, hlt431, hg432]
            refine hk434 _ _ ?_
            refine AWp.seqK fun K439 hk440 => ?_
            refine AWp.condK rfl fun A441 B442 ga443 gb444 => ?_
            simp [e1_410, e2_410, e5_410, e24_410, e25_410, e26_410, g2e_410, b2_410, hlt182, hlt431, hg432]
            refine ga443 _ _ ?_
            refine AWp.skip ?_
            try simp only [thenQ_normal]
            refine hk440 _ _ ?_
            refine AWp.seqK fun K458 hk459 => ?_
            refine AWp.blockK fun Q460 nn461 ne462 nx463 nr464 => ?_
            refine AWp.seqK fun K465 hk466 => ?_
            refine AWp.region [] (by decide +kernel) ?_
            simp [e1_410, e2_410, e5_410, e24_410, e25_410, e26_410, g2e_410, b2_410, hlt182, hlt431, hg432]
            refine hk466 _ _ ?_
            refine AWp.regionD [] false mixed (by decide +kernel) (by decide +kernel) ?_
            obtain ⟨x467, hx468, hm469⟩ := bind1_some hb419
            clear hb419
            try dsimp only at hm469
            simp [e1_410, e2_410, e5_410, e24_410, e25_410, e26_410, g2e_410, b2_410, hlt182, hlt431, hg432]
            refine CallAtD.fn (r_ref07_below T hx468) (by simp) ?_
            obtain ⟨x470, hx471, hm472⟩ := bind1_some hm469
            clear hm469
            try dsimp only at hm472
            simp [e1_410, e2_410, e5_410, e24_410, e25_410, e26_410, g2e_410, b2_410, hlt182, hlt431, hg432]
            refine CallAtD.fn (ih hx471) (by simp) ?_
            simp [e1_410, e2_410, e5_410, e24_410, e25_410, e26_410, g2e_410, b2_410, hlt182, hlt431, hg432]
            refine nn461 _ _ ?_
            try simp only [thenQ_normal]
            refine hk459 _ _ ?_
            refine AWp.region [] (by decide +kernel) ?_
            simp [e1_410, e2_410, e5_410, e24_410, e25_410, e26_410, g2e_410, b2_410, hlt182, hlt431, hg432]
            obtain rfl := Option.some.inj hm472
            rw [ctlK_next] at hk418
            refine hK426 _ _ n420 (Nat.lt_succ_self _) ⟨(i325 + 1), (iadd .i64 j324 1), (iadd .i64 v411 x470), g2_410, ?_, ?_, ?_, ?_, ?_, ?_, ?_, ?_, ?_, (iadd_idxJ hj428 (by omega) hok430), (by omega), hk418⟩ <;> first | rfl | simp [e1_410, e2_410, e5_410, e24_410, e25_410, e26_410, g2e_410, b2_410, hlt182, hlt431, hg432]
      · have hlt182 := ilt_ofJ (l := a0.terms) hj179 (by omega)
        obtain ⟨x89, hdn171, hg183⟩ := drop_ltJ (l := a0.terms) hj179 (by omega)
        rw [hdn171, forR_cons] at hl166
        obtain ⟨c168, hb170, hk169⟩ := bind1_some hl166
        clear hl166
        rw [hF164, ← hj179] at hb170
        try dsimp only at hb170
        refine AWp.seqK fun K184 hk185 => ?_
        refine AWp.region [] (by decide +kernel) ?_
        simp [e1_161, e2_161, e5_161, e11_161, e12_161, e13_161, g2e_161, b2_161, hlt182, hg183]
        refine hk185 _ _ ?_
        refine AWp.seqK fun K190 hk191 => ?_
        refine AWp.condK rfl fun A192 B193 ga194 gb195 => ?_
        simp [e1_161, e2_161, e5_161, e11_161, e12_161, e13_161, g2e_161, b2_161, hlt182, hg183]
        refine ga194 _ _ ?_
        refine AWp.skip ?_
        try simp only [thenQ_normal]
        refine hk191 _ _ ?_
        refine AWp.seqK fun K206 hk207 => ?_
        refine AWp.blockK fun Q208 nn209 ne210 nx211 nr212 => ?_
        refine AWp.seqK fun K213 hk214 => ?_
        refine AWp.region [] (by decide +kernel) ?_
        simp [e1_161, e2_161, e5_161, e11_161, e12_161, e13_161, g2e_161, b2_161, hlt182, hg183]
        refine hk214 _ _ ?_
        refine AWp.region [] (by decide +kernel) ?_
        obtain ⟨x215, hx216, hm217⟩ := bind1_some hb170
        clear hb170
        try dsimp only at hm217
        simp [e1_161, e2_161, e5_161, e11_161, e12_161, e13_161, g2e_161, b2_161, hlt182, hg183]
        refine CallAt.fn (r_ref03_Times T hx216) ?_
        simp [e1_161, e2_161, e5_161, e11_161, e12_161, e13_161, g2e_161, b2_161, hlt182, hg183]
        refine nn209 _ _ ?_
        try simp only [thenQ_normal]
        refine hk207 _ _ ?_
        refine AWp.region [] (by decide +kernel) ?_
        simp [e1_161, e2_161, e5_161, e11_161, e12_161, e13_161, g2e_161, b2_161, hlt182, hg183]
        obtain rfl := Option.some.inj hm217
        rw [ctlK_next] at hk169
        refine hK177 _ _ n171 (Nat.lt_succ_self _) ⟨(i88 + 1), (iadd .i64 j87 1), (iadd .i64 v162 x215), g2_161, ?_, ?_, ?_, ?_, ?_, ?_, ?_, ?_, ?_, (iadd_idxJ hj179 (by omega) hok181), (by omega), hk169⟩ <;> first | rfl | simp [e1_161, e2_161, e5_161, e11_161, e12_161, e13_161, g2e_161, b2_161, hlt182, hg183]
theorem r_ref07_times (T : Tabs) {H : Heap} {a0 : Fm} {a1 : Int} {r0 : Int} {n : Nat} (hm : ref07_times n a0 a1 = some r0) : ACall Tryd.prog T 59 [Fm.av a0, AV.sc (.int .i64 a1)] H (AV.sc (.int .i64 r0)) H := (rg_ref07_times T n) hm

theorem enters90 : entersB Tryd.prog 90 = true := by kernel_rfl
set_option maxRecDepth 20000 in
set_option maxHeartbeats 4000000 in
theorem rg_ref03_In (T : Tabs) : ∀ (n : Nat), (∀ {H : Heap} {a0 : Tm} {a1 : Int} {a2 : Int} {a3 : Tm} {r0 : Tm} (hm : ref03_In n a0 a1 a2 a3 = some r0), ACall Tryd.prog T 90 [Tm.av a0, AV.sc (.int .i64 a1), AV.sc (.int .i64 a2), Tm.av a3] H (Tm.av r0) H) := by
  intro n
  induction n with
  | zero =>
    skip
    all_goals
      intros
      rename_i hm
      cases hm
  | succ n ih =>
    intro H a0 a1 a2 a3 r0 hm
    rw [ref03_In] at hm
    refine ACallP.intro (fn := Tryd.f90) Tryd.func90 rfl enters90 (Nat.le_of_ble_eq_true rfl) ?_
    refine AWp.seqK fun K1 hk2 => ?_
    refine AWp.region [] (by decide +kernel) ?_
    simp
    refine hk2 _ _ ?_
    refine AWp.seqK fun K86 hk87 => ?_
    refine AWp.seqK fun K88 hk89 => ?_
    refine AWp.region [] (by decide +kernel) ?_
    simp
    refine hk89 _ _ ?_
    refine AWp.condK rfl fun A90 B91 ga92 gb93 => ?_
    rcases ite_some hm with ⟨hc94, hm95⟩ | ⟨hc94, hm96⟩
    · clear hm
      simp [hc94]
      refine ga92 _ _ ?_
      refine AWp.seqK fun K114 hk115 => ?_
      refine AWp.seqK fun K116 hk117 => ?_
      refine AWp.region [] (by decide +kernel) ?_
      simp [hc94]
      refine hk117 _ _ ?_
      refine AWp.condK rfl fun A118 B119 ga120 gb121 => ?_
      rcases ite_some hm95 with ⟨hc122, hm123⟩ | ⟨hc122, hm124⟩
      · clear hm95
        simp [hc94, hc122]
        refine ga120 _ _ ?_
        refine AWp.seqK fun K128 hk129 => ?_
        refine AWp.region [] (by decide +kernel) ?_
        obtain ⟨x130, hx131, hm132⟩ := bind1_some hm123
        clear hm123
        try dsimp only at hm132
        simp [hc94, hc122]
        refine CallAt.fn (r_ref03_Up T hx131) ?_
        simp [hc94, hc122]
        refine hk129 _ _ ?_
        refine AWp.ret ?_
        try simp only [thenQ_ret]
        obtain rfl := Option.some.inj hm132
        simp [retQ, hc94, hc122]
      · clear hm95
        simp [hc94, hc122]
        refine gb121 _ _ ?_
        refine AWp.skip ?_
        try simp only [thenQ_normal]
        refine hk115 _ _ ?_
        refine AWp.seqK fun K150 hk151 => ?_
        refine AWp.seqK fun K152 hk153 => ?_
        refine AWp.region [] (by decide +kernel) ?_
        simp [hc94, hc122]
        refine hk153 _ _ ?_
        refine AWp.condK rfl fun A154 B155 ga156 gb157 => ?_
        rcases ite_some hm124 with ⟨hc158, hm159⟩ | ⟨hc158, hm160⟩
        · clear hm124
          simp [hc94, hc122, hc158]
          refine ga156 _ _ ?_
          refine AWp.seqK fun K164 hk165 => ?_
          refine AWp.region [] (by decide +kernel) ?_
          obtain ⟨x166, hx167, hm168⟩ := bind1_some hm159
          clear hm159
          try dsimp only at hm168
          simp [hc94, hc122, hc158]
          refine CallAt.fn (r_ref02_Var T hx167) ?_
          simp [hc94, hc122, hc158]
          refine hk165 _ _ ?_
          refine AWp.ret ?_
          try simp only [thenQ_ret]
          obtain rfl := Option.some.inj hm168
          simp [retQ, hc94, hc122, hc158]
        · clear hm124
          simp [hc94, hc122, hc158]
          refine gb157 _ _ ?_
          refine AWp.skip ?_
          try simp only [thenQ_normal]
          refine hk151 _ _ ?_
          refine AWp.seqK fun K169 hk170 => ?_
          refine AWp.region [] (by decide +kernel) ?_
          simp [hc94, hc122, hc158]
          refine hk170 _ _ ?_
          refine AWp.ret ?_
          try simp only [thenQ_ret]
          obtain rfl := Option.some.inj hm160
          simp [retQ, hc94, hc122, hc158]
    · clear hm
      simp [hc94]
      refine gb93 _ _ ?_
      refine AWp.skip ?_
      try simp only [thenQ_normal]
      refine hk87 _ _ ?_
      refine AWp.seqK fun K171 hk172 => ?_
      refine AWp.region [] (by decide +kernel) ?_
      simp [hc94]
      refine hk172 _ _ ?_
      refine AWp.seqK fun K271 hk272 => ?_
      refine AWp.seqK fun K273 hk274 => ?_
      refine AWp.region [] (by decide +kernel) ?_
      simp [hc94]
      refine hk274 _ _ ?_
      obtain ⟨hok389, hm450⟩ := chk_some hm96
      clear hm96
      obtain ⟨F371, hF372, hm451⟩ := joinB_some hm450
      clear hm450
      try dsimp only at hm451
      obtain ⟨out373, hl374, hmB375⟩ := bind1_some hm451
      clear hm451
      refine AWp.blockK fun Q380 nn381 ne382 nx383 nr384 => ?_
      refine AWp.loopF (fun n379 fr h => ∃ (i276 : Nat) (j275 : Int) (v370 : (List Tm)) (tg0_369 : Tag) (g4_369 : Nat) (g7_369 : Nat) (g8_369 : Nat) (g9_369 : Nat), H = h ∧ fr.env 1 = AV.sc (.int .i64 a1) ∧ fr.env 2 = AV.sc (.int .i64 a2) ∧ fr.env 4 = AV.lptr 4 g4_369 0 ∧ fr.env 7 = AV.lptr 7 g7_369 0 ∧ fr.env 8 = AV.lptr 8 g8_369 0 ∧ fr.env 9 = AV.lptr 9 g9_369 0 ∧ fr.env 45 = AV.slice .frz (List.map Tm.av a0.args) ∧ fr.env 46 = AV.sc (.int .i64 (llen a0.args)) ∧ fr.env 47 = AV.sc (.int .i64 j275) ∧ fr.gen 4 = g4_369 ∧ fr.box 4 = some [AV.sc (.int .i64 a0.kind), AV.sc (.int .i64 a0.index), AV.sc (.int .i64 a0.typeF.kind), AV.slice .frz (List.map Ty.av a0.typeF.args), AV.slice .frz (List.map Tm.av a0.args)] ∧ fr.gen 7 = g7_369 ∧ fr.box 7 = some [AV.sc (.int .i64 a3.kind), AV.sc (.int .i64 a3.index), AV.sc (.int .i64 a3.typeF.kind), AV.slice .frz (List.map Ty.av a3.typeF.args), AV.slice .frz (List.map Tm.av a3.args)] ∧ fr.gen 8 = g8_369 ∧ fr.box 8 = some [AV.sc (.int .i64 0), AV.sc (.int .i64 0), AV.sc (.int .i64 0), AV.slice .full [], AV.slice .full []] ∧ fr.gen 9 = g9_369 ∧ fr.box 9 = some [AV.sc (.int .i64 a0.kind), AV.sc (.int .i64 a0.index), AV.sc (.int .i64 a0.typeF.kind), AV.slice .frz (List.map Ty.av a0.typeF.args), AV.slice tg0_369 (List.map Tm.av v370)] ∧ OwnT fr.tab fr.tgen [62] tg0_369 (List.length v370) ∧ j275 = (i276 : Int) ∧ i276 + n379 = List.length a0.args ∧ forR F371 (List.drop i276 a0.args) i276 v370 = some out373) (List.length a0.args) ?_ ?_
      · refine ⟨0, 0, [], .full, 1, 1, 1, 1, ?_, ?_, ?_, ?_, ?_, ?_, ?_, ?_, ?_, ?_, ?_, ?_, ?_, ?_, ?_, ?_, ?_, ?_, OwnT.full, rfl, (by simp), hl374⟩ <;> first | rfl | simp [hc94]
      · rintro n379 fr369 h369 ⟨i276, j275, v370, tg0_369, g4_369, g7_369, g8_369, g9_369, rfl, e1_369, e2_369, e4_369, e7_369, e8_369, e9_369, e45_369, e46_369, e47_369, g4e_369, b4_369, g7e_369, b7_369, g8e_369, b8_369, g9e_369, b9_369, o0_369, hj387, hi388, hl374⟩ K386 hK385
        rcases n379 with _ | n379
        · have hlt390 := ilt_notJ (l := a0.args) hj387 (by omega)
          refine AWp.seqK fun K436 hk437 => ?_
          refine AWp.region [] (by decide +kernel) ?_
          simp [e1_369, e2_369, e4_369, e7_369, e8_369, e9_369, e45_369, e46_369, e47_369, g4e_369, b4_369, g7e_369, b7_369, g8e_369, b8_369, g9e_369, b9_369, hlt390, hc94]
          refine hk437 _ _ ?_
          refine AWp.seqK fun K442 hk443 => ?_
          refine AWp.condK rfl fun A444 B445 ga446 gb447 => ?_
          simp [e1_369, e2_369, e4_369, e7_369, e8_369, e9_369, e45_369, e46_369, e47_369, g4e_369, b4_369, g7e_369, b7_369, g8e_369, b8_369, g9e_369, b9_369, hlt390, hc94]
          refine gb447 _ _ ?_
          refine AWp.exit ?_
          try simp only [thenQ_exit]
          refine ne382 _ _ ?_
          try simp only [thenQ_normal]
          rw [List.drop_eq_nil_of_le (by omega), forR_nil] at hl374
          obtain rfl := Option.some.inj hl374
          rw [sumK_inl] at hmB375
          try dsimp only at hmB375
          refine hk272 _ _ ?_
          refine AWp.seqK fun K448 hk449 => ?_
          refine AWp.region [] (by decide +kernel) ?_
          simp [e1_369, e2_369, e4_369, e7_369, e8_369, e9_369, e45_369, e46_369, e47_369, g4e_369, b4_369, g7e_369, b7_369, g8e_369, b8_369, g9e_369, b9_369, hlt390, hc94]
          refine hk449 _ _ ?_
          refine AWp.ret ?_
          try simp only [thenQ_ret]
          obtain rfl := Option.some.inj hmB375
          simp [retQ, e1_369, e2_369, e4_369, e7_369, e8_369, e9_369, e45_369, e46_369, e47_369, g4e_369, b4_369, g7e_369, b7_369, g8e_369, b8_369, g9e_369, b9_369, hlt390, hc94]
        · have hlt390 := ilt_ofJ (l := a0.args) hj387 (by omega)
          obtain ⟨x277, hdn379, hg391⟩ := drop_ltJ (l := a0.args) hj387 (by omega)
          rw [hdn379, forR_cons] at hl374
          obtain ⟨c376, hb378, hk377⟩ := bind1_some hl374
          clear hl374
          rw [hF372, ← hj387] at hb378
          try dsimp only at hb378
          refine AWp.seqK fun K392 hk393 => ?_
          refine AWp.region [] (by decide +kernel) ?_
          simp [e1_369, e2_369, e4_369, e7_369, e8_369, e9_369, e45_369, e46_369, e47_369, g4e_369, b4_369, g7e_369, b7_369, g8e_369, b8_369, g9e_369, b9_369, hlt390, hg391, hc94]
          refine hk393 _ _ ?_
          refine AWp.seqK fun K398 hk399 => ?_
          refine AWp.condK rfl fun A400 B401 ga402 gb403 => ?_
          simp [e1_369, e2_369, e4_369, e7_369, e8_369, e9_369, e45_369, e46_369, e47_369, g4e_369, b4_369, g7e_369, b7_369, g8e_369, b8_369, g9e_369, b9_369, hlt390, hg391, hc94]
          refine ga402 _ _ ?_
          refine AWp.skip ?_
          try simp only [thenQ_normal]
          refine hk399 _ _ ?_
          refine AWp.seqK fun K419 hk420 => ?_
          refine AWp.blockK fun Q421 nn422 ne423 nx424 nr425 => ?_
          refine AWp.seqK fun K426 hk427 => ?_
          refine AWp.region [] (by decide +kernel) ?_
          simp [e1_369, e2_369, e4_369, e7_369, e8_369, e9_369, e45_369, e46_369, e47_369, g4e_369, b4_369, g7e_369, b7_369, g8e_369, b8_369, g9e_369, b9_369, hlt390, hg391, hc94]
          refine hk427 _ _ ?_
          refine AWp.regionD [] false mixed (by decide +kernel) (by decide +kernel) ?_
          obtain ⟨x428, hx429, hm430⟩ := bind1_some hb378
          clear hb378
          try dsimp only at hm430
          simp [e1_369, e2_369, e4_369, e7_369, e8_369, e9_369, e45_369, e46_369, e47_369, g4e_369, b4_369, g7e_369, b7_369, g8e_369, b8_369, g9e_369, b9_369, hlt390, hg391, hc94]
          refine CallAtD.fn (r_ref03_below T hx429) (by simp) ?_
          obtain ⟨x431, hx432, hm433⟩ := bind1_some hm430
          clear hm430
          try dsimp only at hm433
          simp [e1_369, e2_369, e4_369, e7_369, e8_369, e9_369, e45_369, e46_369, e47_369, g4e_369, b4_369, g7e_369, b7_369, g8e_369, b8_369, g9e_369, b9_369, hlt390, hg391, hc94]
          refine CallAtD.fn (ih hx432) (by simp) ?_
          obtain ⟨ha434, hm435⟩ := chk_some hm433
          clear hm433
          simp [e1_369, e2_369, e4_369, e7_369, e8_369, e9_369, e45_369, e46_369, e47_369, g4e_369, b4_369, g7e_369, b7_369, g8e_369, b8_369, g9e_369, b9_369, hlt390, hg391, hc94]
          refine AppAt.own (f := Tm.av) v370 [x431] o0_369 ap26 (by intro x; simp) ha434 (by first | rfl | simp) (by first | rfl | simp) ?_
          simp [e1_369, e2_369, e4_369, e7_369, e8_369, e9_369, e45_369, e46_369, e47_369, g4e_369, b4_369, g7e_369, b7_369, g8e_369, b8_369, g9e_369, b9_369, hlt390, hg391, hc94]
          refine nn422 _ _ ?_
          try simp only [thenQ_normal]
          refine hk420 _ _ ?_
          refine AWp.region [] (by decide +kernel) ?_
          simp [e1_369, e2_369, e4_369, e7_369, e8_369, e9_369, e45_369, e46_369, e47_369, g4e_369, b4_369, g7e_369, b7_369, g8e_369, b8_369, g9e_369, b9_369, hlt390, hg391, hc94]
          obtain rfl := Option.some.inj hm435
          rw [ctlK_next] at hk377
          refine hK385 _ _ n379 (Nat.lt_succ_self _) ⟨(i276 + 1), (iadd .i64 j275 1), (lapp v370 [x431]), (.loc 62 (fr369.tgen 62 + 1)), g4_369, g7_369, g8_369, g9_369, ?_, ?_, ?_, ?_, ?_, ?_, ?_, ?_, ?_, ?_, ?_, ?_, ?_, ?_, ?_, ?_, ?_, ?_, (OwnT.mono (D := [62]) (OwnT.new (D := [62]) (d := 62) (by decide)) (by decide)), (iadd_idxJ hj387 (by omega) hok389), (by omega), hk377⟩ <;> first | rfl | simp [e1_369, e2_369, e4_369, e7_369, e8_369, e9_369, e45_369, e46_369, e47_369, g4e_369, b4_369, g7e_369, b7_369, g8e_369, b8_369, g9e_369, b9_369, hlt390, hg391, hc94]
theorem r_ref03_In (T : Tabs) {H : Heap} {a0 : Tm} {a1 : Int} {a2 : Int} {a3 : Tm} {r0 : Tm} {n : Nat} (hm : ref03_In n a0 a1 a2 a3 = some r0) : ACall Tryd.prog T 90 [Tm.av a0, AV.sc (.int .i64 a1), AV.sc (.int .i64 a2), Tm.av a3] H (Tm.av r0) H := (rg_ref03_In T n) hm

theorem enters61 : entersB Tryd.prog 61 = true := by kernel_rfl
set_option maxRecDepth 20000 in
set_option maxHeartbeats 4000000 in
theorem rg_ref07_In (T : Tabs) : ∀ (n : Nat), (∀ {H : Heap} {a0 : Fm} {a1 : Int} {a2 : Int} {a3 : Tm} {r0 : Fm} (hm : ref07_In n a0 a1 a2 a3 = some r0), ACall Tryd.prog T 61 [Fm.av a0, AV.sc (.int .i64 a1), AV.sc (.int .i64 a2), Tm.av a3] H (Fm.av r0) H) := by
  intro n
  induction n with
  | zero =>
    skip
    all_goals
      intros
      rename_i hm
      cases hm
  | succ n ih =>
    intro H a0 a1 a2 a3 r0 hm
    rw [ref07_In] at hm
    refine ACallP.intro (fn := Tryd.f61) Tryd.func61 rfl enters61 (Nat.le_of_ble_eq_true rfl) ?_
    refine AWp.seqK fun K1 hk2 => ?_
    refine AWp.region [] (by decide +kernel) ?_
    simp
    refine hk2 _ _ ?_
    refine AWp.seqK fun K3 hk4 => ?_
    refine AWp.region [] (by decide +kernel) ?_
    simp
    refine hk4 _ _ ?_
    refine AWp.seqK fun K91 hk92 => ?_
    refine AWp.seqK fun K93 hk94 => ?_
    refine AWp.region [] (by decide +kernel) ?_
    simp
    refine hk94 _ _ ?_
    obtain ⟨hok197, hm529⟩ := chk_some hm
    clear hm
    obtain ⟨F179, hF180, hm530⟩ := joinB_some hm529
    clear hm529
    try dsimp only at hm530
    obtain ⟨out181, hl182, hmB183⟩ := bind1_some hm530
    clear hm530
    refine AWp.blockK fun Q188 nn189 ne190 nx191 nr192 => ?_
    refine AWp.loopF (fun n187 fr h => ∃ (i96 : Nat) (j95 : Int) (v178 : (List Tm)) (tg0_177 : Tag) (g4_177 : Nat) (g7_177 : Nat) (g8_177 : Nat) (g9_177 : Nat), H = h ∧ fr.env 1 = AV.sc (.int .i64 a1) ∧ fr.env 2 = AV.sc (.int .i64 a2) ∧ fr.env 4 = AV.lptr 4 g4_177 0 ∧ fr.env 7 = AV.lptr 7 g7_177 0 ∧ fr.env 8 = AV.lptr 8 g8_177 0 ∧ fr.env 9 = AV.lptr 9 g9_177 0 ∧ fr.env 20 = AV.slice .frz (List.map Tm.av a0.terms) ∧ fr.env 21 = AV.sc (.int .i64 (llen a0.terms)) ∧ fr.env 22 = AV.sc (.int .i64 j95) ∧ fr.gen 4 = g4_177 ∧ fr.box 4 = some [AV.sc (.int .i64 a0.kind), AV.sc (.int .i64 a0.typeF.kind), AV.slice .frz (List.map Ty.av a0.typeF.args), AV.slice .frz (List.map Tm.av a0.terms), AV.slice .frz (List.map Fm.av a0.args)] ∧ fr.gen 7 = g7_177 ∧ fr.box 7 = some [AV.sc (.int .i64 a3.kind), AV.sc (.int .i64 a3.index), AV.sc (.int .i64 a3.typeF.kind), AV.slice .frz (List.map Ty.av a3.typeF.args), AV.slice .frz (List.map Tm.av a3.args)] ∧ fr.gen 8 = g8_177 ∧ fr.box 8 = some [AV.sc (.int .i64 0), AV.sc (.int .i64 0), AV.slice .full [], AV.slice .full [], AV.slice .full []] ∧ fr.gen 9 = g9_177 ∧ fr.box 9 = some [AV.sc (.int .i64 a0.kind), AV.sc (.int .i64 a0.typeF.kind), AV.slice .frz (List.map Ty.av a0.typeF.args), AV.slice tg0_177 (List.map Tm.av v178), AV.slice .full []] ∧ OwnT fr.tab fr.tgen [34] tg0_177 (List.length v178) ∧ j95 = (i96 : Int) ∧ i96 + n187 = List.length a0.terms ∧ forR F179 (List.drop i96 a0.terms) i96 v178 = some out181) (List.length a0.terms) ?_ ?_
    · refine ⟨0, 0, [], .full, 1, 1, 1, 1, ?_, ?_, ?_, ?_, ?_, ?_, ?_, ?_, ?_, ?_, ?_, ?_, ?_, ?_, ?_, ?_, ?_, ?_, OwnT.full, rfl, (by simp), hl182⟩ <;> first | rfl | simp
    · rintro n187 fr177 h177 ⟨i96, j95, v178, tg0_177, g4_177, g7_177, g8_177, g9_177, rfl, e1_177, e2_177, e4_177, e7_177, e8_177, e9_177, e20_177, e21_177, e22_177, g4e_177, b4_177, g7e_177, b7_177, g8e_177, b8_177, g9e_177, b9_177, o0_177, hj195, hi196, hl182⟩ K194 hK193
      rcases n187 with _ | n187
      · have hlt198 := ilt_notJ (l := a0.terms) hj195 (by omega)
        refine AWp.seqK fun K238 hk239 => ?_
        refine AWp.region [] (by decide +kernel) ?_
        simp [e1_177, e2_177, e4_177, e7_177, e8_177, e9_177, e20_177, e21_177, e22_177, g4e_177, b4_177, g7e_177, b7_177, g8e_177, b8_177, g9e_177, b9_177, hlt198]
        refine hk239 _ _ ?_
        refine AWp.seqK fun K244 hk245 => ?_
        refine AWp.condK rfl fun A246 B247 ga248 gb249 => ?_
        simp [e1_177, e2_177, e4_177, e7_177, e8_177, e9_177, e20_177, e21_177, e22_177, g4e_177, b4_177, g7e_177, b7_177, g8e_177, b8_177, g9e_177, b9_177, hlt198]
        refine gb249 _ _ ?_
        refine AWp.exit ?_
        try simp only [thenQ_exit]
        refine ne190 _ _ ?_
        try simp only [thenQ_normal]
        rw [List.drop_eq_nil_of_le (by omega), forR_nil] at hl182
        obtain rfl := Option.some.inj hl182
        rw [sumK_inl] at hmB183
        try dsimp only at hmB183
        refine hk92 _ _ ?_
        refine AWp.seqK fun K348 hk349 => ?_
        refine AWp.seqK fun K350 hk351 => ?_
        refine AWp.region [] (by decide +kernel) ?_
        simp [e1_177, e2_177, e4_177, e7_177, e8_177, e9_177, e20_177, e21_177, e22_177, g4e_177, b4_177, g7e_177, b7_177, g8e_177, b8_177, g9e_177, b9_177, hlt198]
        refine hk351 _ _ ?_
        obtain ⟨hok466, hm527⟩ := chk_some hmB183
        clear hmB183
        obtain ⟨F448, hF449, hm528⟩ := joinB_some hm527
        clear hm527
        try dsimp only at hm528
        obtain ⟨out450, hl451, hmB452⟩ := bind1_some hm528
        clear hm528
        refine AWp.blockK fun Q457 nn458 ne459 nx460 nr461 => ?_
        refine AWp.loopF (fun n456 fr h => ∃ (i353 : Nat) (j352 : Int) (v447 : (List Fm)) (tg0_446 : Tag) (tg1_446 : Tag) (g4_446 : Nat) (g7_446 : Nat) (g8_446 : Nat) (g9_446 : Nat), H = h ∧ fr.env 1 = AV.sc (.int .i64 a1) ∧ fr.env 2 = AV.sc (.int .i64 a2) ∧ fr.env 4 = AV.lptr 4 g4_446 0 ∧ fr.env 7 = AV.lptr 7 g7_446 0 ∧ fr.env 8 = AV.lptr 8 g8_446 0 ∧ fr.env 9 = AV.lptr 9 g9_446 0 ∧ fr.env 38 = AV.slice .frz (List.map Fm.av a0.args) ∧ fr.env 39 = AV.sc (.int .i64 (llen a0.args)) ∧ fr.env 40 = AV.sc (.int .i64 j352) ∧ fr.gen 4 = g4_446 ∧ fr.box 4 = some [AV.sc (.int .i64 a0.kind), AV.sc (.int .i64 a0.typeF.kind), AV.slice .frz (List.map Ty.av a0.typeF.args), AV.slice .frz (List.map Tm.av a0.terms), AV.slice .frz (List.map Fm.av a0.args)] ∧ fr.gen 7 = g7_446 ∧ fr.box 7 = some [AV.sc (.int .i64 a3.kind), AV.sc (.int .i64 a3.index), AV.sc (.int .i64 a3.typeF.kind), AV.slice .frz (List.map Ty.av a3.typeF.args), AV.slice .frz (List.map Tm.av a3.args)] ∧ fr.gen 8 = g8_446 ∧ fr.box 8 = some [AV.sc (.int .i64 0), AV.sc (.int .i64 0), AV.slice .full [], AV.slice .full [], AV.slice .full []] ∧ fr.gen 9 = g9_446 ∧ fr.box 9 = some [AV.sc (.int .i64 a0.kind), AV.sc (.int .i64 a0.typeF.kind), AV.slice .frz (List.map Ty.av a0.typeF.args), AV.slice tg0_446 (List.map Tm.av v178), AV.slice tg1_446 (List.map Fm.av v447)] ∧ OwnT fr.tab fr.tgen [34] tg0_446 (List.length v178) ∧ OwnT fr.tab fr.tgen [55] tg1_446 (List.length v447) ∧ j352 = (i353 : Int) ∧ i353 + n456 = List.length a0.args ∧ forR F448 (List.drop i353 a0.args) i353 v447 = some out450) (List.length a0.args) ?_ ?_
        · refine ⟨0, 0, [], tg0_177, .full, g4_177, g7_177, g8_177, g9_177, ?_, ?_, ?_, ?_, ?_, ?_, ?_, ?_, ?_, ?_, ?_, ?_, ?_, ?_, ?_, ?_, ?_, ?_, (OwnT.mono (D := [34]) o0_177 (by decide)), OwnT.full, rfl, (by simp), hl451⟩ <;> first | rfl | simp [e1_177, e2_177, e4_177, e7_177, e8_177, e9_177, e20_177, e21_177, e22_177, g4e_177, b4_177, g7e_177, b7_177, g8e_177, b8_177, g9e_177, b9_177, hlt198]
        · rintro n456 fr446 h446 ⟨i353, j352, v447, tg0_446, tg1_446, g4_446, g7_446, g8_446, g9_446, rfl, e1_446, e2_446, e4_446, e7_446, e8_446, e9_446, e38_446, e39_446, e40_446, g4e_446, b4_446, g7e_446, b7_446, g8e_446, b8_446, g9e_446, b9_446, o0_446, o1_446, hj464, hi465, hl451⟩ K463 hK462
          rcases n456 with _ | n456
          · have hlt467 := ilt_notJ (l := a0.args) hj464 (by omega)
            refine AWp.seqK fun K513 hk514 => ?_
            refine AWp.region [] (by decide +kernel) ?_
            simp [e1_446, e2_446, e4_446, e7_446, e8_446, e9_446, e38_446, e39_446, e40_446, g4e_446, b4_446, g7e_446, b7_446, g8e_446, b8_446, g9e_446, b9_446, hlt198, hlt467]
            refine hk514 _ _ ?_
            refine AWp.seqK fun K519 hk520 => ?_
            refine AWp.condK rfl fun A521 B522 ga523 gb524 => ?_
            simp [e1_446, e2_446, e4_446, e7_446, e8_446, e9_446, e38_446, e39_446, e40_446, g4e_446, b4_446, g7e_446, b7_446, g8e_446, b8_446, g9e_446, b9_446, hlt198, hlt467]
            refine gb524 _ _ ?_
            refine AWp.exit ?_
            try simp only [thenQ_exit]
            refine ne459 _ _ ?_
            try simp only [thenQ_normal]
            rw [List.drop_eq_nil_of_le (by omega), forR_nil] at hl451
            obtain rfl := Option.some.inj hl451
            rw [sumK_inl] at hmB452
            try dsimp only at hmB452
            refine hk349 _ _ ?_
            refine AWp.seqK fun K525 hk526 => ?_
            refine AWp.region [] (by decide +kernel) ?_
            simp [e1_446, e2_446, e4_446, e7_446, e8_446, e9_446, e38_446, e39_446, e40_446, g4e_446, b4_446, g7e_446, b7_446, g8e_446, b8_446, g9e_446, b9_446, hlt198, hlt467]
            refine hk526 _ _ ?_
            refine AWp.ret ?_
            try simp only [thenQ_ret]
            obtain rfl := Option.some.inj hmB452
            simp [retQ, e1_446, e2_446, e4_446, e7_446, e8_446, e9_446, e38_446, e39_446, e40_446, g4e_446, b4_446, g7e_446, b7_446, g8e_446, b8_446, g9e_446, b9_446, hlt198, hlt467]
          · have hlt467 := ilt_ofJ (l := a0.args) hj464 (by omega)
            obtain ⟨x354, hdn456, hg468⟩ := drop_ltJ (l := a0.args) hj464 (by omega)
            rw [hdn456, forR_cons] at hl451
            obtain ⟨c453, hb455, hk454⟩ := bind1_some hl451
            clear hl451
            rw [hF449, ← hj464] at hb455
            try dsimp only at hb455
            refine AWp.seqK fun K469 hk470 => ?_
            refine AWp.region [] (by decide +kernel) ?_
            simp [e1_446, e2_446, e4_446, e7_446, e8_446, e9_446, e38_446, e39_446, e40_446, g4e_446, b4_446, g7e_446, b7_446, g8e_446, b8_446, g9e_446, b9_446, hlt198, hlt467, hg468]
            refine hk470 _ _ ?_
            refine AWp.seqK fun K475 hk476 => ?_
            refine AWp.condK rfl fun A477 B478 ga479 gb480 => ?_
            simp [e1_446, e2_446, e4_446, e7_446, e8_446, e9_446, e38_446, e39_446, e40_446, g4e_446, b4_446, g7e_446, b7_446, g8e_446, b8_446, g9e_446, b9_446, hlt198, hlt467, hg468]
            refine ga479 _ _ ?_
            refine AWp.skip ?_
            try simp only [thenQ_normal]
            refine hk476 _ _ ?_
            refine AWp.seqK fun K496 hk497 => ?_
            refine AWp.blockK fun Q498 nn499 ne500 nx501 nr502 => ?_
            refine AWp.seqK fun K503 hk504 => ?_
            refine AWp.region [] (by decide +kernel) ?_
            simp [e1_446, e2_446, e4_446, e7_446, e8_446, e9_446, e38_446, e39_446, e40_446, g4e_446, b4_446, g7e_446, b7_446, g8e_446, b8_446, g9e_446, b9_446, hlt198, hlt467, hg468]
            refine hk504 _ _ ?_
            refine AWp.regionD [] false mixed (by decide +kernel) (by decide +kernel) ?_
            obtain ⟨x505, hx506, hm507⟩ := bind1_some hb455
            clear hb455
            try dsimp only at hm507
            simp [e1_446, e2_446, e4_446, e7_446, e8_446, e9_446, e38_446, e39_446, e40_446, g4e_446, b4_446, g7e_446, b7_446, g8e_446, b8_446, g9e_446, b9_446, hlt198, hlt467, hg468]
            refine CallAtD.fn (r_ref07_below T hx506) (by simp) ?_
            obtain ⟨x508, hx509, hm510⟩ := bind1_some hm507
            clear hm507
            try dsimp only at hm510
            simp [e1_446, e2_446, e4_446, e7_446, e8_446, e9_446, e38_446, e39_446, e40_446, g4e_446, b4_446, g7e_446, b7_446, g8e_446, b8_446, g9e_446, b9_446, hlt198, hlt467, hg468]
            refine CallAtD.fn (ih hx509) (by simp) ?_
            obtain ⟨ha511, hm512⟩ := chk_some hm510
            clear hm510
            simp [e1_446, e2_446, e4_446, e7_446, e8_446, e9_446, e38_446, e39_446, e40_446, g4e_446, b4_446, g7e_446, b7_446, g8e_446, b8_446, g9e_446, b9_446, hlt198, hlt467, hg468]
            refine AppAt.own (f := Fm.av) v447 [x508] o1_446 ap27 (by intro x; simp) ha511 (by first | rfl | simp) (by first | rfl | simp) ?_
            simp [e1_446, e2_446, e4_446, e7_446, e8_446, e9_446, e38_446, e39_446, e40_446, g4e_446, b4_446, g7e_446, b7_446, g8e_446, b8_446, g9e_446, b9_446, hlt198, hlt467, hg468]
            refine nn499 _ _ ?_
            try simp only [thenQ_normal]
            refine hk497 _ _ ?_
            refine AWp.region [] (by decide +kernel) ?_
            simp [e1_446, e2_446, e4_446, e7_446, e8_446, e9_446, e38_446, e39_446, e40_446, g4e_446, b4_446, g7e_446, b7_446, g8e_446, b8_446, g9e_446, b9_446, hlt198, hlt467, hg468]
            obtain rfl := Option.some.inj hm512
            rw [ctlK_next] at hk454
            refine hK462 _ _ n456 (Nat.lt_succ_self _) ⟨(i353 + 1), (iadd .i64 j352 1), (lapp v447 [x508]), tg0_446, (.loc 55 (fr446.tgen 55 + 1)), g4_446, g7_446, g8_446, g9_446, ?_, ?_, ?_, ?_, ?_, ?_, ?_, ?_, ?_, ?_, ?_, ?_, ?_, ?_, ?_, ?_, ?_, ?_, (OwnT.mono (D := [34]) (OwnT.other o0_446 o1_446 (by decide) (by decide)) (by decide)), (OwnT.mono (D := [55]) (OwnT.new (D := [55]) (d := 55) (by decide)) (by decide)), (iadd_idxJ hj464 (by omega) hok466), (by omega), hk454⟩ <;> first | rfl | simp [e1_446, e2_446, e4_446, e7_446, e8_446, e9_446, e38_446, e39_446, e40_446, g4e_446, b4_446, g7e_446, b7_446, g8e_446, b8_446, g9e_446, b9_446, hlt198, hlt467, hg468]
      · have hlt198 := ilt_ofJ (l := a0.terms) hj195 (by omega)
        obtain ⟨x97, hdn187, hg199⟩ := drop_ltJ (l := a0.terms) hj195 (by omega)
        rw [hdn187, forR_cons] at hl182
        obtain ⟨c184, hb186, hk185⟩ := bind1_some hl182
        clear hl182
        rw [hF180, ← hj195] at hb186
        try dsimp only at hb186
        refine AWp.seqK fun K200 hk201 => ?_
        refine AWp.region [] (by decide +kernel) ?_
        simp [e1_177, e2_177, e4_177, e7_177, e8_177, e9_177, e20_177, e21_177, e22_177, g4e_177, b4_177, g7e_177, b7_177, g8e_177, b8_177, g9e_177, b9_177, hlt198, hg199]
        refine hk201 _ _ ?_
        refine AWp.seqK fun K206 hk207 => ?_
        refine AWp.condK rfl fun A208 B209 ga210 gb211 => ?_
        simp [e1_177, e2_177, e4_177, e7_177, e8_177, e9_177, e20_177, e21_177, e22_177, g4e_177, b4_177, g7e_177, b7_177, g8e_177, b8_177, g9e_177, b9_177, hlt198, hg199]
        refine ga210 _ _ ?_
        refine AWp.skip ?_
        try simp only [thenQ_normal]
        refine hk207 _ _ ?_
        refine AWp.seqK fun K224 hk225 => ?_
        refine AWp.blockK fun Q226 nn227 ne228 nx229 nr230 => ?_
        refine AWp.seqK fun K231 hk232 => ?_
        refine AWp.region [] (by decide +kernel) ?_
        simp [e1_177, e2_177, e4_177, e7_177, e8_177, e9_177, e20_177, e21_177, e22_177, g4e_177, b4_177, g7e_177, b7_177, g8e_177, b8_177, g9e_177, b9_177, hlt198, hg199]
        refine hk232 _ _ ?_
        refine AWp.regionD [] false mixed (by decide +kernel) (by decide +kernel) ?_
        obtain ⟨x233, hx234, hm235⟩ := bind1_some hb186
        clear hb186
        try dsimp only at hm235
        simp [e1_177, e2_177, e4_177, e7_177, e8_177, e9_177, e20_177, e21_177, e22_177, g4e_177, b4_177, g7e_177, b7_177, g8e_177, b8_177, g9e_177, b9_177, hlt198, hg199]
        refine CallAtD.fn (r_ref03_In T hx234) (by simp) ?_
        obtain ⟨ha236, hm237⟩ := chk_some hm235
        clear hm235
        simp [e1_177, e2_177, e4_177, e7_177, e8_177, e9_177, e20_177, e21_177, e22_177, g4e_177, b4_177, g7e_177, b7_177, g8e_177, b8_177, g9e_177, b9_177, hlt198, hg199]
        refine AppAt.own (f := Tm.av) v178 [x233] o0_177 ap26 (by intro x; simp) ha236 (by first | rfl | simp) (by first | rfl | simp) ?_
        simp [e1_177, e2_177, e4_177, e7_177, e8_177, e9_177, e20_177, e21_177, e22_177, g4e_177, b4_177, g7e_177, b7_177, g8e_177, b8_177, g9e_177, b9_177, hlt198, hg199]
        refine nn227 _ _ ?_
        try simp only [thenQ_normal]
        refine hk225 _ _ ?_
        refine AWp.region [] (by decide +kernel) ?_
        simp [e1_177, e2_177, e4_177, e7_177, e8_177, e9_177, e20_177, e21_177, e22_177, g4e_177, b4_177, g7e_177, b7_177, g8e_177, b8_177, g9e_177, b9_177, hlt198, hg199]
        obtain rfl := Option.some.inj hm237
        rw [ctlK_next] at hk185
        refine hK193 _ _ n187 (Nat.lt_succ_self _) ⟨(i96 + 1), (iadd .i64 j95 1), (lapp v178 [x233]), (.loc 34 (fr177.tgen 34 + 1)), g4_177, g7_177, g8_177, g9_177, ?_, ?_, ?_, ?_, ?_, ?_, ?_, ?_, ?_, ?_, ?_, ?_, ?_, ?_, ?_, ?_, ?_, ?_, (OwnT.mono (D := [34]) (OwnT.new (D := [34]) (d := 34) (by decide)) (by decide)), (iadd_idxJ hj195 (by omega) hok197), (by omega), hk185⟩ <;> first | rfl | simp [e1_177, e2_177, e4_177, e7_177, e8_177, e9_177, e20_177, e21_177, e22_177, g4e_177, b4_177, g7e_177, b7_177, g8e_177, b8_177, g9e_177, b9_177, hlt198, hg199]
theorem r_ref07_In (T : Tabs) {H : Heap} {a0 : Fm} {a1 : Int} {a2 : Int} {a3 : Tm} {r0 : Fm} {n : Nat} (hm : ref07_In n a0 a1 a2 a3 = some r0) : ACall Tryd.prog T 61 [Fm.av a0, AV.sc (.int .i64 a1), AV.sc (.int .i64 a2), Tm.av a3] H (Fm.av r0) H := (rg_ref07_In T n) hm

theorem enters29 : entersB Tryd.prog 29 = true := by kernel_rfl
set_option maxRecDepth 20000 in
set_option maxHeartbeats 4000000 in
theorem r_ref07_Put (T : Tabs) {H : Heap} {a0 : Fm} {a1 : Int} {a2 : Tm} {r0 : Fm} {r1 : Int} (hm : ref07_Put a0 a1 a2 = some (r0, r1)) : ACall Tryd.prog T 29 [Fm.av a0, AV.sc (.int .i64 a1), Tm.av a2] H (AV.tuple [Fm.av r0, AV.sc (.int .i64 r1)]) H := by
  rw [ref07_Put] at hm
  refine ACallP.intro (fn := Tryd.f29) Tryd.func29 rfl enters29 (Nat.le_of_ble_eq_true rfl) ?_
  refine AWp.seqK fun K1 hk2 => ?_
  refine AWp.region [] (by decide +kernel) ?_
  simp
  refine hk2 _ _ ?_
  refine AWp.seqK fun K22 hk23 => ?_
  refine AWp.seqK fun K27 hk28 => ?_
  refine AWp.region [] (by decide +kernel) ?_
  obtain ⟨x29, hx30, hm31⟩ := bind1_some hm
  clear hm
  try dsimp only at hm31
  simp
  refine CallAt.fn (r_ref07_Check T hx30) ?_
  simp
  refine hk28 _ _ ?_
  refine AWp.seqK fun K32 hk33 => ?_
  refine AWp.region [] (by decide +kernel) ?_
  simp
  refine hk33 _ _ ?_
  refine AWp.condK rfl fun A34 B35 ga36 gb37 => ?_
  rcases ite_some hm31 with ⟨hc38, hm39⟩ | ⟨hc38, hm40⟩
  · clear hm31
    simp [hc38]
    refine ga36 _ _ ?_
    refine AWp.seqK fun K41 hk42 => ?_
    refine AWp.region [] (by decide +kernel) ?_
    simp [hc38]
    refine hk42 _ _ ?_
    refine AWp.ret ?_
    try simp only [thenQ_ret]
    simp only [Option.some.injEq, Prod.mk.injEq] at hm39
    obtain ⟨rfl, rfl⟩ := hm39
    simp [retQ, hc38]
  · clear hm31
    simp [hc38]
    refine gb37 _ _ ?_
    refine AWp.skip ?_
    try simp only [thenQ_normal]
    refine hk23 _ _ ?_
    refine AWp.seqK fun K61 hk62 => ?_
    refine AWp.seqP (fun fr h => ∃ (g3_68 : Nat) (g5_68 : Nat) (g6_68 : Nat), H = h ∧ fr.env 1 = AV.sc (.int .i64 a1) ∧ fr.env 3 = AV.lptr 3 g3_68 0 ∧ fr.env 5 = AV.lptr 5 g5_68 0 ∧ fr.env 6 = AV.lptr 6 g6_68 0 ∧ fr.env 21 = AV.sc (.bool (sel (ilt a1 0) true (igt a1 4096))) ∧ fr.gen 3 = g3_68 ∧ fr.box 3 = some [AV.sc (.int .i64 a0.kind), AV.sc (.int .i64 a0.typeF.kind), AV.slice .frz (List.map Ty.av a0.typeF.args), AV.slice .frz (List.map Tm.av a0.terms), AV.slice .frz (List.map Fm.av a0.args)] ∧ fr.gen 5 = g5_68 ∧ fr.box 5 = some [AV.sc (.int .i64 a2.kind), AV.sc (.int .i64 a2.index), AV.sc (.int .i64 a2.typeF.kind), AV.slice .frz (List.map Ty.av a2.typeF.args), AV.slice .frz (List.map Tm.av a2.args)] ∧ fr.gen 6 = g6_68 ∧ fr.box 6 = some [AV.sc (.int .i64 0), AV.sc (.int .i64 0), AV.slice .full [], AV.slice .full [], AV.slice .full []]) (fun K66 hk67 => ?_) ?_
    · refine AWp.region [] (by decide +kernel) ?_
      rcases Bool.eq_false_or_eq_true (ilt a1 0) with hc69 | hc69
      · simp [hc38, hc69]
        refine hk67 _ _ ⟨1, 1, 1, ?_, ?_, ?_, ?_, ?_, ?_, ?_, ?_, ?_, ?_, ?_, ?_⟩ <;> first | rfl | simp [hc38, hc69]
      · simp [hc38, hc69]
        refine hk67 _ _ ⟨1, 1, 1, ?_, ?_, ?_, ?_, ?_, ?_, ?_, ?_, ?_, ?_, ?_, ?_⟩ <;> first | rfl | simp [hc38, hc69]
    · rintro fr68 h68 ⟨g3_68, g5_68, g6_68, rfl, e1_68, e3_68, e5_68, e6_68, e21_68, g3e_68, b3_68, g5e_68, b5_68, g6e_68, b6_68⟩
      refine AWp.condK rfl fun A72 B73 ga74 gb75 => ?_
      rcases ite_some hm40 with ⟨hc76, hm77⟩ | ⟨hc76, hm78⟩
      · clear hm40
        simp [e1_68, e3_68, e5_68, e6_68, e21_68, g3e_68, b3_68, g5e_68, b5_68, g6e_68, b6_68, hc38, hc76]
        refine ga74 _ _ ?_
        refine AWp.seqK fun K79 hk80 => ?_
        refine AWp.region [] (by decide +kernel) ?_
        simp [e1_68, e3_68, e5_68, e6_68, e21_68, g3e_68, b3_68, g5e_68, b5_68, g6e_68, b6_68, hc38, hc76]
        refine hk80 _ _ ?_
        refine AWp.ret ?_
        try simp only [thenQ_ret]
        simp only [Option.some.injEq, Prod.mk.injEq] at hm77
        obtain ⟨rfl, rfl⟩ := hm77
        simp [retQ, e1_68, e3_68, e5_68, e6_68, e21_68, g3e_68, b3_68, g5e_68, b5_68, g6e_68, b6_68, hc38, hc76]
      · clear hm40
        simp [e1_68, e3_68, e5_68, e6_68, e21_68, g3e_68, b3_68, g5e_68, b5_68, g6e_68, b6_68, hc38, hc76]
        refine gb75 _ _ ?_
        refine AWp.skip ?_
        try simp only [thenQ_normal]
        refine hk62 _ _ ?_
        refine AWp.seqK fun K100 hk101 => ?_
        refine AWp.seqK fun K105 hk106 => ?_
        refine AWp.region [] (by decide +kernel) ?_
        obtain ⟨x107, hx108, hm109⟩ := bind1_some hm78
        clear hm78
        try dsimp only at hm109
        simp [e1_68, e3_68, e5_68, e6_68, e21_68, g3e_68, b3_68, g5e_68, b5_68, g6e_68, b6_68, hc38, hc76]
        refine CallAt.fn (r_ref02_Check T hx108) ?_
        simp [e1_68, e3_68, e5_68, e6_68, e21_68, g3e_68, b3_68, g5e_68, b5_68, g6e_68, b6_68, hc38, hc76]
        refine hk106 _ _ ?_
        refine AWp.seqK fun K110 hk111 => ?_
        refine AWp.region [] (by decide +kernel) ?_
        simp [e1_68, e3_68, e5_68, e6_68, e21_68, g3e_68, b3_68, g5e_68, b5_68, g6e_68, b6_68, hc38, hc76]
        refine hk111 _ _ ?_
        refine AWp.condK rfl fun A112 B113 ga114 gb115 => ?_
        rcases ite_some hm109 with ⟨hc116, hm117⟩ | ⟨hc116, hm118⟩
        · clear hm109
          simp [e1_68, e3_68, e5_68, e6_68, e21_68, g3e_68, b3_68, g5e_68, b5_68, g6e_68, b6_68, hc38, hc76, hc116]
          refine ga114 _ _ ?_
          refine AWp.seqK fun K119 hk120 => ?_
          refine AWp.region [] (by decide +kernel) ?_
          simp [e1_68, e3_68, e5_68, e6_68, e21_68, g3e_68, b3_68, g5e_68, b5_68, g6e_68, b6_68, hc38, hc76, hc116]
          refine hk120 _ _ ?_
          refine AWp.ret ?_
          try simp only [thenQ_ret]
          simp only [Option.some.injEq, Prod.mk.injEq] at hm117
          obtain ⟨rfl, rfl⟩ := hm117
          simp [retQ, e1_68, e3_68, e5_68, e6_68, e21_68, g3e_68, b3_68, g5e_68, b5_68, g6e_68, b6_68, hc38, hc76, hc116]
        · clear hm109
          simp [e1_68, e3_68, e5_68, e6_68, e21_68, g3e_68, b3_68, g5e_68, b5_68, g6e_68, b6_68, hc38, hc76, hc116]
          refine gb115 _ _ ?_
          refine AWp.skip ?_
          try simp only [thenQ_normal]
          refine hk101 _ _ ?_
          refine AWp.seqK fun K156 hk157 => ?_
          obtain ⟨j171, hj172, hm173⟩ := joinB_some hm118
          clear hm118
          refine AWp.seqP (fun fr h => ∃ (v170 : Bool) (g3_169 : Nat) (g5_169 : Nat) (g6_169 : Nat), H = h ∧ fr.env 1 = AV.sc (.int .i64 a1) ∧ fr.env 3 = AV.lptr 3 g3_169 0 ∧ fr.env 5 = AV.lptr 5 g5_169 0 ∧ fr.env 6 = AV.lptr 6 g6_169 0 ∧ fr.env 36 = AV.sc (.bool v170) ∧ fr.gen 3 = g3_169 ∧ fr.box 3 = some [AV.sc (.int .i64 a0.kind), AV.sc (.int .i64 a0.typeF.kind), AV.slice .frz (List.map Ty.av a0.typeF.args), AV.slice .frz (List.map Tm.av a0.terms), AV.slice .frz (List.map Fm.av a0.args)] ∧ fr.gen 5 = g5_169 ∧ fr.box 5 = some [AV.sc (.int .i64 a2.kind), AV.sc (.int .i64 a2.index), AV.sc (.int .i64 a2.typeF.kind), AV.slice .frz (List.map Ty.av a2.typeF.args), AV.slice .frz (List.map Tm.av a2.args)] ∧ fr.gen 6 = g6_169 ∧ fr.box 6 = some [AV.sc (.int .i64 0), AV.sc (.int .i64 0), AV.slice .full [], AV.slice .full [], AV.slice .full []] ∧ j171 v170 = some (r0, r1)) (fun K167 hk168 => ?_) ?_
          · refine AWp.region [] (by decide +kernel) ?_
            obtain ⟨x175, hx176, hm177⟩ := bind1_some hm173
            clear hm173
            try dsimp only at hm177
            simp [e1_68, e3_68, e5_68, e6_68, e21_68, g3e_68, b3_68, g5e_68, b5_68, g6e_68, b6_68, hc38, hc76, hc116]
            refine CallAt.fn (r_ref07_Least T hx176) ?_
            rcases ite_some hm177 with ⟨hc178, hm179⟩ | ⟨hc178, hm180⟩
            · clear hm177
              obtain ⟨x181, hx182, hm183⟩ := bind1_some hm179
              clear hm179
              try dsimp only at hm183
              simp [e1_68, e3_68, e5_68, e6_68, e21_68, g3e_68, b3_68, g5e_68, b5_68, g6e_68, b6_68, hc38, hc76, hc116, hc178]
              refine CallAt.fn (r_ref03_Least T hx182) ?_
              simp [e1_68, e3_68, e5_68, e6_68, e21_68, g3e_68, b3_68, g5e_68, b5_68, g6e_68, b6_68, hc38, hc76, hc116, hc178]
              refine hk168 _ _ ⟨(bnot x181), g3_68, g5_68, g6_68, ?_, ?_, ?_, ?_, ?_, ?_, ?_, ?_, ?_, ?_, ?_, ?_, hm183⟩ <;> first | rfl | simp [e1_68, e3_68, e5_68, e6_68, e21_68, g3e_68, b3_68, g5e_68, b5_68, g6e_68, b6_68, hc38, hc76, hc116, hc178]
            · clear hm177
              simp [e1_68, e3_68, e5_68, e6_68, e21_68, g3e_68, b3_68, g5e_68, b5_68, g6e_68, b6_68, hc38, hc76, hc116, hc178]
              refine hk168 _ _ ⟨true, g3_68, g5_68, g6_68, ?_, ?_, ?_, ?_, ?_, ?_, ?_, ?_, ?_, ?_, ?_, ?_, hm180⟩ <;> first | rfl | simp [e1_68, e3_68, e5_68, e6_68, e21_68, g3e_68, b3_68, g5e_68, b5_68, g6e_68, b6_68, hc38, hc76, hc116, hc178]
          · clear hm173
            rintro fr169 h169 ⟨v170, g3_169, g5_169, g6_169, rfl, e1_169, e3_169, e5_169, e6_169, e36_169, g3e_169, b3_169, g5e_169, b5_169, g6e_169, b6_169, hm174⟩
            subst hj172
            refine AWp.condK rfl fun A184 B185 ga186 gb187 => ?_
            rcases ite_some hm174 with ⟨hc188, hm189⟩ | ⟨hc188, hm190⟩
            · clear hm174
              simp [e1_169, e3_169, e5_169, e6_169, e36_169, g3e_169, b3_169, g5e_169, b5_169, g6e_169, b6_169, hc38, hc76, hc116, hc188]
              refine ga186 _ _ ?_
              refine AWp.seqK fun K191 hk192 => ?_
              refine AWp.region [] (by decide +kernel) ?_
              simp [e1_169, e3_169, e5_169, e6_169, e36_169, g3e_169, b3_169, g5e_169, b5_169, g6e_169, b6_169, hc38, hc76, hc116, hc188]
              refine hk192 _ _ ?_
              refine AWp.ret ?_
              try simp only [thenQ_ret]
              simp only [Option.some.injEq, Prod.mk.injEq] at hm189
              obtain ⟨rfl, rfl⟩ := hm189
              simp [retQ, e1_169, e3_169, e5_169, e6_169, e36_169, g3e_169, b3_169, g5e_169, b5_169, g6e_169, b6_169, hc38, hc76, hc116, hc188]
            · clear hm174
              simp [e1_169, e3_169, e5_169, e6_169, e36_169, g3e_169, b3_169, g5e_169, b5_169, g6e_169, b6_169, hc38, hc76, hc116, hc188]
              refine gb187 _ _ ?_
              refine AWp.skip ?_
              try simp only [thenQ_normal]
              refine hk157 _ _ ?_
              refine AWp.seqK fun K222 hk223 => ?_
              refine AWp.seqK fun K233 hk234 => ?_
              refine AWp.regionD [] false mixed (by decide +kernel) (by decide +kernel) ?_
              obtain ⟨x235, hx236, hm237⟩ := bind1_some hm190
              clear hm190
              try dsimp only at hm237
              simp [e1_169, e3_169, e5_169, e6_169, e36_169, g3e_169, b3_169, g5e_169, b5_169, g6e_169, b6_169, hc38, hc76, hc116, hc188]
              refine CallAtD.fn (r_ref07_Count T hx236) (by simp) ?_
              obtain ⟨x238, hx239, hm240⟩ := bind1_some hm237
              clear hm237
              try dsimp only at hm240
              simp [e1_169, e3_169, e5_169, e6_169, e36_169, g3e_169, b3_169, g5e_169, b5_169, g6e_169, b6_169, hc38, hc76, hc116, hc188]
              refine CallAtD.fn (r_ref07_times T hx239) (by simp) ?_
              obtain ⟨x241, hx242, hm243⟩ := bind1_some hm240
              clear hm240
              try dsimp only at hm243
              simp [e1_169, e3_169, e5_169, e6_169, e36_169, g3e_169, b3_169, g5e_169, b5_169, g6e_169, b6_169, hc38, hc76, hc116, hc188]
              refine CallAtD.fn (r_ref02_Count T hx242) (by simp) ?_
              simp [e1_169, e3_169, e5_169, e6_169, e36_169, g3e_169, b3_169, g5e_169, b5_169, g6e_169, b6_169, hc38, hc76, hc116, hc188]
              refine hk234 _ _ ?_
              refine AWp.condK rfl fun A244 B245 ga246 gb247 => ?_
              rcases ite_some hm243 with ⟨hc248, hm249⟩ | ⟨hc248, hm250⟩
              · clear hm243
                simp [e1_169, e3_169, e5_169, e6_169, e36_169, g3e_169, b3_169, g5e_169, b5_169, g6e_169, b6_169, hc38, hc76, hc116, hc188, hc248]
                refine ga246 _ _ ?_
                refine AWp.seqK fun K251 hk252 => ?_
                refine AWp.region [] (by decide +kernel) ?_
                simp [e1_169, e3_169, e5_169, e6_169, e36_169, g3e_169, b3_169, g5e_169, b5_169, g6e_169, b6_169, hc38, hc76, hc116, hc188, hc248]
                refine hk252 _ _ ?_
                refine AWp.ret ?_
                try simp only [thenQ_ret]
                simp only [Option.some.injEq, Prod.mk.injEq] at hm249
                obtain ⟨rfl, rfl⟩ := hm249
                simp [retQ, e1_169, e3_169, e5_169, e6_169, e36_169, g3e_169, b3_169, g5e_169, b5_169, g6e_169, b6_169, hc38, hc76, hc116, hc188, hc248]
              · clear hm243
                simp [e1_169, e3_169, e5_169, e6_169, e36_169, g3e_169, b3_169, g5e_169, b5_169, g6e_169, b6_169, hc38, hc76, hc116, hc188, hc248]
                refine gb247 _ _ ?_
                refine AWp.skip ?_
                try simp only [thenQ_normal]
                refine hk223 _ _ ?_
                refine AWp.seqK fun K259 hk260 => ?_
                refine AWp.region [] (by decide +kernel) ?_
                obtain ⟨x261, hx262, hm263⟩ := bind1_some hm250
                clear hm250
                try dsimp only at hm263
                simp [e1_169, e3_169, e5_169, e6_169, e36_169, g3e_169, b3_169, g5e_169, b5_169, g6e_169, b6_169, hc38, hc76, hc116, hc188, hc248]
                refine CallAt.fn (r_ref07_In T hx262) ?_
                obtain ⟨x264, hx265, hm266⟩ := bind1_some hm263
                clear hm263
                try dsimp only at hm266
                simp [e1_169, e3_169, e5_169, e6_169, e36_169, g3e_169, b3_169, g5e_169, b5_169, g6e_169, b6_169, hc38, hc76, hc116, hc188, hc248]
                refine CallAt.fn (r_ref07_Copy T hx265) ?_
                simp [e1_169, e3_169, e5_169, e6_169, e36_169, g3e_169, b3_169, g5e_169, b5_169, g6e_169, b6_169, hc38, hc76, hc116, hc188, hc248]
                refine hk260 _ _ ?_
                refine AWp.ret ?_
                try simp only [thenQ_ret]
                simp only [Option.some.injEq, Prod.mk.injEq] at hm266
                obtain ⟨rfl, rfl⟩ := hm266
                simp [retQ, e1_169, e3_169, e5_169, e6_169, e36_169, g3e_169, b3_169, g5e_169, b5_169, g6e_169, b6_169, hc38, hc76, hc116, hc188, hc248]

theorem enters4 : entersB Tryd.prog 4 = true := by kernel_rfl
set_option maxRecDepth 20000 in
set_option maxHeartbeats 4000000 in
theorem r_law23_ContentKeeps (T : Tabs) (hT : T 0 = some (AV.agg (List.map (fun n => AV.sc (Value.int .i64 n)) tree_arities))) {a0 : (List Int)} {r0 : Bool} (hm : law23_ContentKeeps a0 = some r0) : ACallP Tryd.prog T 4 [AV.slice .frz (List.map (fun n => AV.sc (Value.int .i64 n)) a0)] [] (fun x _ => x = AV.sc (.bool r0)) := by
  rw [law23_ContentKeeps] at hm
  refine ACallP.intro (fn := Tryd.f4) Tryd.func4 rfl enters4 (Nat.le_of_ble_eq_true rfl) ?_
  refine AWp.seqK fun K1 hk2 => ?_
  refine AWp.region [] (by decide +kernel) ?_
  simp [hT]
  refine hk2 _ _ ?_
  refine AWp.seqK fun K44 hk45 => ?_
  obtain ⟨j59, hj60, hm61⟩ := joinB_some hm
  clear hm
  refine AWp.seqP (fun fr h => ∃ (v58 : Bool), ([] : Heap) = h ∧ fr.env 0 = AV.slice .frz (List.map (fun n => AV.sc (Value.int .i64 n)) a0) ∧ fr.env 22 = AV.sc (.bool v58) ∧ j59 v58 = some r0) (fun K55 hk56 => ?_) ?_
  · refine AWp.region [] (by decide +kernel) ?_
    obtain ⟨x63, hx64, hm65⟩ := bind1_some hm61
    clear hm61
    try dsimp only at hm65
    simp [hT]
    refine CallAt.fn (r_law23_awake T hT hx64) ?_
    rcases ite_some hm65 with ⟨hc66, hm67⟩ | ⟨hc66, hm68⟩
    · clear hm65
      obtain ⟨x69, hx70, hm71⟩ := bind1_some hm67
      clear hm67
      try dsimp only at hm71
      simp [hT, hc66]
      refine CallAt.fn (r_mk_Few T hx70) ?_
      simp [hT, hc66]
      refine hk56 _ _ ⟨(bnot x69), ?_, ?_, ?_, hm71⟩ <;> first | rfl | simp [hT, hc66]
    · clear hm65
      simp [hT, hc66]
      refine hk56 _ _ ⟨true, ?_, ?_, ?_, hm68⟩ <;> first | rfl | simp [hT, hc66]
  · clear hm61
    rintro fr57 h57 ⟨v58, rfl, e0_57, e22_57, hm62⟩
    subst hj60
    refine AWp.condK rfl fun A72 B73 ga74 gb75 => ?_
    rcases ite_some hm62 with ⟨hc76, hm77⟩ | ⟨hc76, hm78⟩
    · clear hm62
      simp [e0_57, e22_57, hT, hc76]
      refine ga74 _ _ ?_
      refine AWp.seqK fun K82 hk83 => ?_
      refine AWp.region [] (by decide +kernel) ?_
      obtain ⟨x84, hx85, hm86⟩ := bind1_some hm77
      clear hm77
      try dsimp only at hm86
      simp [e0_57, e22_57, hT, hc76]
      refine CallAt.fn (r_law23_awake T hT hx85) ?_
      simp [e0_57, e22_57, hT, hc76]
      refine hk83 _ _ ?_
      refine AWp.ret ?_
      try simp only [thenQ_ret]
      obtain rfl := Option.some.inj hm86
      simp [retQ, e0_57, e22_57, hT, hc76]
    · clear hm62
      simp [e0_57, e22_57, hT, hc76]
      refine gb75 _ _ ?_
      refine AWp.skip ?_
      try simp only [thenQ_normal]
      refine hk45 _ _ ?_
      refine AWp.seqK fun K90 hk91 => ?_
      refine AWp.region [] (by decide +kernel) ?_
      obtain ⟨x92, hx93, hm94⟩ := bind1_some hm78
      clear hm78
      try dsimp only at hm94
      simp [e0_57, e22_57, hT, hc76]
      refine CallAt.fn (r_mk_New T hx93) ?_
      simp [e0_57, e22_57, hT, hc76]
      refine hk91 _ _ ?_
      refine AWp.seqK fun K99 hk100 => ?_
      refine AWp.region [] (by decide +kernel) ?_
      obtain ⟨x101, d102, hx103, hm104⟩ := bind2_some hm94
      clear hm94
      try dsimp only at hm104
      simp [e0_57, e22_57, hT, hc76]
      refine CallAt.fn (r_mk_Context T (by first | exact ho | decide) hx103) ?_
      simp [e0_57, e22_57, hT, hc76]
      refine hk100 _ _ ?_
      refine AWp.seqK fun K116 hk117 => ?_
      refine AWp.region [] (by decide +kernel) ?_
      obtain ⟨ha118, hm119⟩ := chk_some hm104
      clear hm104
      simp [e0_57, e22_57, hT, hc76]
      refine AppAt.own (f := Ty.av) [] x101 (OwnT.full (D := [])) ap23 (by intro x; simp) ha118 (by first | rfl | simp) (by first | rfl | simp) ?_
      obtain ⟨x120, hx121, hm122⟩ := bind1_some hm119
      clear hm119
      try dsimp only at hm122
      simp [e0_57, e22_57, hT, hc76]
      refine CallAt.fn (r_play_Nat T hx121) ?_
      obtain ⟨ha123, hm124⟩ := chk_some hm122
      clear hm122
      simp [e0_57, e22_57, hT, hc76]
      refine AppAt.own (f := Ty.av) (lapp [] x101) [x120] (OwnT.new (D := [30]) (d := 30) (by decide)) ap23 (by intro x; simp) ha123 (by first | rfl | simp) (by first | rfl | simp) ?_
      obtain ⟨x125, d126, hx127, hm128⟩ := bind2_some hm124
      clear hm124
      try dsimp only at hm128
      simp [e0_57, e22_57, hT, hc76]
      refine CallAt.fn (r_mk_Formula T (by first | exact ho | decide) hx127) ?_
      simp [e0_57, e22_57, hT, hc76]
      refine hk117 _ _ ?_
      refine AWp.seqK fun K133 hk134 => ?_
      refine AWp.region [] (by decide +kernel) ?_
      obtain ⟨x135, x136, hx137, hm138⟩ := bind2_some hm128
      clear hm128
      try dsimp only at hm138
      simp [e0_57, e22_57, hT, hc76]
      refine CallAt.fn (r_content_Type T hT hx137) ?_
      simp [e0_57, e22_57, hT, hc76]
      refine hk134 _ _ ?_
      refine AWp.seqK fun K147 hk148 => ?_
      refine AWp.regionD [] false mixed (by decide +kernel) (by decide +kernel) ?_
      obtain ⟨x149, d150, hx151, hm152⟩ := bind2_some hm138
      clear hm138
      try dsimp only at hm152
      simp [e0_57, e22_57, hT, hc76]
      refine CallAtD.fn (r_mk_Deck_Next T (by first | exact ho | decide) hx151) (by simp) ?_
      obtain ⟨x153, x154, hx155, hm156⟩ := bind2_some hm152
      clear hm152
      try dsimp only at hm156
      simp [e0_57, e22_57, hT, hc76]
      refine CallAtD.fn (r_ref07_Lift T hx155) (by simp) ?_
      simp [e0_57, e22_57, hT, hc76]
      refine hk148 _ _ ?_
      refine AWp.seqK fun K168 hk169 => ?_
      refine AWp.regionD [] false mixed (by decide +kernel) (by decide +kernel) ?_
      obtain ⟨x170, hx171, hm172⟩ := bind1_some hm156
      clear hm156
      try dsimp only at hm172
      simp [e0_57, e22_57, hT, hc76]
      refine CallAtD.fn (r_play_Nat T hx171) (by simp) ?_
      obtain ⟨x173, d174, hx175, hm176⟩ := bind2_some hm172
      clear hm172
      try dsimp only at hm176
      simp [e0_57, e22_57, hT, hc76]
      refine CallAtD.fn (r_mk_Term T (by first | exact ho | decide) hx175) (by simp) ?_
      obtain ⟨x177, x178, hx179, hm180⟩ := bind2_some hm176
      clear hm176
      try dsimp only at hm180
      simp [e0_57, e22_57, hT, hc76]
      refine CallAtD.fn (r_ref07_Put T hx179) (by simp) ?_
      simp [e0_57, e22_57, hT, hc76]
      refine hk169 _ _ ?_
      refine AWp.seqK fun K206 hk207 => ?_
      refine AWp.seqP (fun fr h => ∃ (g6_213 : Nat) (g8_213 : Nat) (g10_213 : Nat), hset [[]] 0 [AV.slice .frz (List.map (fun n => AV.sc (Value.int .i64 n)) d174.l), AV.sc (.int .i64 d174.atF)] = h ∧ fr.env 6 = AV.lptr 6 g6_213 0 ∧ fr.env 7 = AV.sc (.int .i64 x136) ∧ fr.env 8 = AV.lptr 8 g8_213 0 ∧ fr.env 9 = AV.sc (.int .i64 x154) ∧ fr.env 10 = AV.lptr 10 g10_213 0 ∧ fr.env 11 = AV.sc (.int .i64 x178) ∧ fr.env 62 = AV.sc (.bool (sel (ine x154 0) true (ine x178 0))) ∧ fr.gen 6 = g6_213 ∧ fr.box 6 = some [AV.sc (.int .i64 x135.kind), AV.slice .frz (List.map Ty.av x135.args)] ∧ fr.gen 8 = g8_213 ∧ fr.box 8 = some [AV.sc (.int .i64 x153.kind), AV.sc (.int .i64 x153.typeF.kind), AV.slice .frz (List.map Ty.av x153.typeF.args), AV.slice .frz (List.map Tm.av x153.terms), AV.slice .frz (List.map Fm.av x153.args)] ∧ fr.gen 10 = g10_213 ∧ fr.box 10 = some [AV.sc (.int .i64 x177.kind), AV.sc (.int .i64 x177.typeF.kind), AV.slice .frz (List.map Ty.av x177.typeF.args), AV.slice .frz (List.map Tm.av x177.terms), AV.slice .frz (List.map Fm.av x177.args)]) (fun K211 hk212 => ?_) ?_
      · refine AWp.region [] (by decide +kernel) ?_
        rcases Bool.eq_false_or_eq_true (ine x154 0) with hc214 | hc214
        · simp [e0_57, e22_57, hT, hc76, hc214]
          refine hk212 _ _ ⟨(fr57.gen 6 + 1), (fr57.gen 8 + 1), (fr57.gen 10 + 1), ?_, ?_, ?_, ?_, ?_, ?_, ?_, ?_, ?_, ?_, ?_, ?_, ?_, ?_⟩ <;> first | rfl | simp [e0_57, e22_57, hT, hc76, hc214]
        · simp [e0_57, e22_57, hT, hc76, hc214]
          refine hk212 _ _ ⟨(fr57.gen 6 + 1), (fr57.gen 8 + 1), (fr57.gen 10 + 1), ?_, ?_, ?_, ?_, ?_, ?_, ?_, ?_, ?_, ?_, ?_, ?_, ?_, ?_⟩ <;> first | rfl | simp [e0_57, e22_57, hT, hc76, hc214]
      · rintro fr213 h213 ⟨g6_213, g8_213, g10_213, rfl, e6_213, e7_213, e8_213, e9_213, e10_213, e11_213, e62_213, g6e_213, b6_213, g8e_213, b8_213, g10e_213, b10_213⟩
        refine AWp.condK rfl fun A217 B218 ga219 gb220 => ?_
        rcases ite_some hm180 with ⟨hc221, hm222⟩ | ⟨hc221, hm223⟩
        · clear hm180
          simp [e6_213, e7_213, e8_213, e9_213, e10_213, e11_213, e62_213, g6e_213, b6_213, g8e_213, b8_213, g10e_213, b10_213, hT, hc76, hc221]
          refine ga219 _ _ ?_
          refine AWp.seqP (fun fr h => hset [[]] 0 [AV.slice .frz (List.map (fun n => AV.sc (Value.int .i64 n)) d174.l), AV.sc (.int .i64 d174.atF)] = h ∧ fr.env 2 = AV.sc (.bool (sel (ieq x154 4) true (ieq x178 4)))) (fun K227 hk228 => ?_) ?_
          · refine AWp.region [] (by decide +kernel) ?_
            rcases Bool.eq_false_or_eq_true (ieq x154 4) with hc230 | hc230
            · simp [e6_213, e7_213, e8_213, e9_213, e10_213, e11_213, e62_213, g6e_213, b6_213, g8e_213, b8_213, g10e_213, b10_213, hT, hc76, hc221, hc230]
              refine hk228 _ _ ⟨?_, ?_⟩ <;> first | rfl | simp [e6_213, e7_213, e8_213, e9_213, e10_213, e11_213, e62_213, g6e_213, b6_213, g8e_213, b8_213, g10e_213, b10_213, hT, hc76, hc221, hc230]
            · simp [e6_213, e7_213, e8_213, e9_213, e10_213, e11_213, e62_213, g6e_213, b6_213, g8e_213, b8_213, g10e_213, b10_213, hT, hc76, hc221, hc230]
              refine hk228 _ _ ⟨?_, ?_⟩ <;> first | rfl | simp [e6_213, e7_213, e8_213, e9_213, e10_213, e11_213, e62_213, g6e_213, b6_213, g8e_213, b8_213, g10e_213, b10_213, hT, hc76, hc221, hc230]
          · rintro fr229 h229 ⟨rfl, e2_229⟩
            refine AWp.ret ?_
            try simp only [thenQ_ret]
            obtain rfl := Option.some.inj hm222
            simp [retQ, e2_229, hT, hc76, hc221]
        · clear hm180
          simp [e6_213, e7_213, e8_213, e9_213, e10_213, e11_213, e62_213, g6e_213, b6_213, g8e_213, b8_213, g10e_213, b10_213, hT, hc76, hc221]
          refine gb220 _ _ ?_
          refine AWp.skip ?_
          try simp only [thenQ_normal]
          refine hk207 _ _ ?_
          refine AWp.seqK fun K237 hk238 => ?_
          refine AWp.region [] (by decide +kernel) ?_
          obtain ⟨x239, x240, hx241, hm242⟩ := bind2_some hm223
          clear hm223
          try dsimp only at hm242
          simp [e6_213, e7_213, e8_213, e9_213, e10_213, e11_213, e62_213, g6e_213, b6_213, g8e_213, b8_213, g10e_213, b10_213, hT, hc76, hc221]
          refine CallAt.fn (r_content_Type T hT hx241) ?_
          simp [e6_213, e7_213, e8_213, e9_213, e10_213, e11_213, e62_213, g6e_213, b6_213, g8e_213, b8_213, g10e_213, b10_213, hT, hc76, hc221]
          refine hk238 _ _ ?_
          refine AWp.seqK fun K247 hk248 => ?_
          refine AWp.region [] (by decide +kernel) ?_
          obtain ⟨x249, x250, hx251, hm252⟩ := bind2_some hm242
          clear hm242
          try dsimp only at hm252
          simp [e6_213, e7_213, e8_213, e9_213, e10_213, e11_213, e62_213, g6e_213, b6_213, g8e_213, b8_213, g10e_213, b10_213, hT, hc76, hc221]
          refine CallAt.fn (r_content_Type T hT hx251) ?_
          simp [e6_213, e7_213, e8_213, e9_213, e10_213, e11_213, e62_213, g6e_213, b6_213, g8e_213, b8_213, g10e_213, b10_213, hT, hc76, hc221]
          refine hk248 _ _ ?_
          obtain ⟨j272, hj273, hm274⟩ := joinB_some hm252
          clear hm252
          refine AWp.seqP (fun fr h => ∃ (v271 : Bool), hset [[]] 0 [AV.slice .frz (List.map (fun n => AV.sc (Value.int .i64 n)) d174.l), AV.sc (.int .i64 d174.atF)] = h ∧ fr.env 2 = AV.sc (.bool v271) ∧ j272 v271 = some r0) (fun K268 hk269 => ?_) ?_
          · refine AWp.region [] (by decide +kernel) ?_
            rcases ite_some hm274 with ⟨hc276, hm277⟩ | ⟨hc276, hm278⟩
            · clear hm274
              rcases ite_some hm277 with ⟨hc279, hm280⟩ | ⟨hc279, hm281⟩
              · clear hm277
                obtain ⟨x282, hx283, hm284⟩ := bind1_some hm280
                clear hm280
                try dsimp only at hm284
                simp [e6_213, e7_213, e8_213, e9_213, e10_213, e11_213, e62_213, g6e_213, b6_213, g8e_213, b8_213, g10e_213, b10_213, hT, hc76, hc221, hc276, hc279]
                refine CallAt.fn (r_ref01_Same T hx283) ?_
                rcases ite_some hm284 with ⟨hc285, hm286⟩ | ⟨hc285, hm287⟩
                · clear hm284
                  obtain ⟨x288, hx289, hm290⟩ := bind1_some hm286
                  clear hm286
                  try dsimp only at hm290
                  simp [e6_213, e7_213, e8_213, e9_213, e10_213, e11_213, e62_213, g6e_213, b6_213, g8e_213, b8_213, g10e_213, b10_213, hT, hc76, hc221, hc276, hc279, hc285]
                  refine CallAt.fn (r_ref01_Same T hx289) ?_
                  simp [e6_213, e7_213, e8_213, e9_213, e10_213, e11_213, e62_213, g6e_213, b6_213, g8e_213, b8_213, g10e_213, b10_213, hT, hc76, hc221, hc276, hc279, hc285]
                  refine hk269 _ _ ⟨x288, ?_, ?_, hm290⟩ <;> first | rfl | simp [e6_213, e7_213, e8_213, e9_213, e10_213, e11_213, e62_213, g6e_213, b6_213, g8e_213, b8_213, g10e_213, b10_213, hT, hc76, hc221, hc276, hc279, hc285]
                · clear hm284
                  simp [e6_213, e7_213, e8_213, e9_213, e10_213, e11_213, e62_213, g6e_213, b6_213, g8e_213, b8_213, g10e_213, b10_213, hT, hc76, hc221, hc276, hc279, hc285]
                  refine hk269 _ _ ⟨false, ?_, ?_, hm287⟩ <;> first | rfl | simp [e6_213, e7_213, e8_213, e9_213, e10_213, e11_213, e62_213, g6e_213, b6_213, g8e_213, b8_213, g10e_213, b10_213, hT, hc76, hc221, hc276, hc279, hc285]
              · clear hm277
                simp [e6_213, e7_213, e8_213, e9_213, e10_213, e11_213, e62_213, g6e_213, b6_213, g8e_213, b8_213, g10e_213, b10_213, hT, hc76, hc221, hc276, hc279]
                refine hk269 _ _ ⟨false, ?_, ?_, hm281⟩ <;> first | rfl | simp [e6_213, e7_213, e8_213, e9_213, e10_213, e11_213, e62_213, g6e_213, b6_213, g8e_213, b8_213, g10e_213, b10_213, hT, hc76, hc221, hc276, hc279]
            · clear hm274
              simp [e6_213, e7_213, e8_213, e9_213, e10_213, e11_213, e62_213, g6e_213, b6_213, g8e_213, b8_213, g10e_213, b10_213, hT, hc76, hc221, hc276]
              refine hk269 _ _ ⟨false, ?_, ?_, hm278⟩ <;> first | rfl | simp [e6_213, e7_213, e8_213, e9_213, e10_213, e11_213, e62_213, g6e_213, b6_213, g8e_213, b8_213, g10e_213, b10_213, hT, hc76, hc221, hc276]
          · clear hm274
            rintro fr270 h270 ⟨v271, rfl, e2_270, hm275⟩
            subst hj273
            refine AWp.ret ?_
            try simp only [thenQ_ret]
            obtain rfl := Option.some.inj hm275
            simp [retQ, e2_270, hT, hc76, hc221]

theorem enters32 : entersB Tryd.prog 32 = true := by kernel_rfl
set_option maxRecDepth 20000 in
set_option maxHeartbeats 4000000 in
theorem r_law23_limits (T : Tabs) {H : Heap} {a0 : Int} {r0 : Bool} (hm : law23_limits a0 = some r0) : ACall Tryd.prog T 32 [AV.sc (.int .i64 a0)] H (AV.sc (.bool r0)) H := by
  rw [law23_limits] at hm
  refine ACallP.intro (fn := Tryd.f32) Tryd.func32 rfl enters32 (Nat.le_of_ble_eq_true rfl) ?_
  refine AWp.seqK fun K1 hk2 => ?_
  refine AWp.region [] (by decide +kernel) ?_
  simp
  refine hk2 _ _ ?_
  refine AWp.seqP (fun fr h => H = h ∧ fr.env 2 = AV.sc (.bool (sel (ieq a0 4) true (sel (ieq a0 5) true (ieq a0 3))))) (fun K9 hk10 => ?_) ?_
  · refine AWp.region [] (by decide +kernel) ?_
    rcases Bool.eq_false_or_eq_true (ieq a0 4) with hc12 | hc12
    · simp [hc12]
      refine hk10 _ _ ⟨?_, ?_⟩ <;> first | rfl | simp [hc12]
    · rcases Bool.eq_false_or_eq_true (ieq a0 5) with hc15 | hc15
      · simp [hc12, hc15]
        refine hk10 _ _ ⟨?_, ?_⟩ <;> first | rfl | simp [hc12, hc15]
      · simp [hc12, hc15]
        refine hk10 _ _ ⟨?_, ?_⟩ <;> first | rfl | simp [hc12, hc15]
  · rintro fr11 h11 ⟨rfl, e2_11⟩
    refine AWp.ret ?_
    try simp only [thenQ_ret]
    obtain rfl := Option.some.inj hm
    simp [retQ, e2_11]

theorem enters5 : entersB Tryd.prog 5 = true := by kernel_rfl
set_option maxRecDepth 20000 in
set_option maxHeartbeats 4000000 in
theorem r_law23_ContentNone (T : Tabs) (hT : T 0 = some (AV.agg (List.map (fun n => AV.sc (Value.int .i64 n)) tree_arities))) {a0 : (List Int)} {r0 : Bool} (hm : law23_ContentNone a0 = some r0) : ACallP Tryd.prog T 5 [AV.slice .frz (List.map (fun n => AV.sc (Value.int .i64 n)) a0)] [] (fun x _ => x = AV.sc (.bool r0)) := by
  rw [law23_ContentNone] at hm
  refine ACallP.intro (fn := Tryd.f5) Tryd.func5 rfl enters5 (Nat.le_of_ble_eq_true rfl) ?_
  refine AWp.seqK fun K1 hk2 => ?_
  refine AWp.region [] (by decide +kernel) ?_
  simp [hT]
  refine hk2 _ _ ?_
  refine AWp.seqK fun K44 hk45 => ?_
  obtain ⟨j59, hj60, hm61⟩ := joinB_some hm
  clear hm
  refine AWp.seqP (fun fr h => ∃ (v58 : Bool), ([] : Heap) = h ∧ fr.env 0 = AV.slice .frz (List.map (fun n => AV.sc (Value.int .i64 n)) a0) ∧ fr.env 22 = AV.sc (.bool v58) ∧ j59 v58 = some r0) (fun K55 hk56 => ?_) ?_
  · refine AWp.region [] (by decide +kernel) ?_
    obtain ⟨x63, hx64, hm65⟩ := bind1_some hm61
    clear hm61
    try dsimp only at hm65
    simp [hT]
    refine CallAt.fn (r_law23_awake T hT hx64) ?_
    rcases ite_some hm65 with ⟨hc66, hm67⟩ | ⟨hc66, hm68⟩
    · clear hm65
      obtain ⟨x69, hx70, hm71⟩ := bind1_some hm67
      clear hm67
      try dsimp only at hm71
      simp [hT, hc66]
      refine CallAt.fn (r_mk_Few T hx70) ?_
      simp [hT, hc66]
      refine hk56 _ _ ⟨(bnot x69), ?_, ?_, ?_, hm71⟩ <;> first | rfl | simp [hT, hc66]
    · clear hm65
      simp [hT, hc66]
      refine hk56 _ _ ⟨true, ?_, ?_, ?_, hm68⟩ <;> first | rfl | simp [hT, hc66]
  · clear hm61
    rintro fr57 h57 ⟨v58, rfl, e0_57, e22_57, hm62⟩
    subst hj60
    refine AWp.condK rfl fun A72 B73 ga74 gb75 => ?_
    rcases ite_some hm62 with ⟨hc76, hm77⟩ | ⟨hc76, hm78⟩
    · clear hm62
      simp [e0_57, e22_57, hT, hc76]
      refine ga74 _ _ ?_
      refine AWp.seqK fun K82 hk83 => ?_
      refine AWp.region [] (by decide +kernel) ?_
      obtain ⟨x84, hx85, hm86⟩ := bind1_some hm77
      clear hm77
      try dsimp only at hm86
      simp [e0_57, e22_57, hT, hc76]
      refine CallAt.fn (r_law23_awake T hT hx85) ?_
      simp [e0_57, e22_57, hT, hc76]
      refine hk83 _ _ ?_
      refine AWp.ret ?_
      try simp only [thenQ_ret]
      obtain rfl := Option.some.inj hm86
      simp [retQ, e0_57, e22_57, hT, hc76]
    · clear hm62
      simp [e0_57, e22_57, hT, hc76]
      refine gb75 _ _ ?_
      refine AWp.skip ?_
      try simp only [thenQ_normal]
      refine hk45 _ _ ?_
      refine AWp.seqK fun K90 hk91 => ?_
      refine AWp.region [] (by decide +kernel) ?_
      obtain ⟨x92, hx93, hm94⟩ := bind1_some hm78
      clear hm78
      try dsimp only at hm94
      simp [e0_57, e22_57, hT, hc76]
      refine CallAt.fn (r_mk_New T hx93) ?_
      simp [e0_57, e22_57, hT, hc76]
      refine hk91 _ _ ?_
      refine AWp.seqK fun K103 hk104 => ?_
      refine AWp.region [] (by decide +kernel) ?_
      obtain ⟨x105, d106, hx107, hm108⟩ := bind2_some hm94
      clear hm94
      try dsimp only at hm108
      simp [e0_57, e22_57, hT, hc76]
      refine CallAt.fn (r_mk_Formula T (by first | exact ho | decide) hx107) ?_
      obtain ⟨x109, d110, hx111, hm112⟩ := bind2_some hm108
      clear hm108
      try dsimp only at hm112
      simp [e0_57, e22_57, hT, hc76]
      refine CallAt.fn (r_mk_Formula T (by first | exact ho | decide) hx111) ?_
      simp [e0_57, e22_57, hT, hc76]
      refine hk104 _ _ ?_
      refine AWp.seqK fun K117 hk118 => ?_
      refine AWp.region [] (by decide +kernel) ?_
      obtain ⟨x119, x120, hx121, hm122⟩ := bind2_some hm112
      clear hm112
      try dsimp only at hm122
      simp [e0_57, e22_57, hT, hc76]
      refine CallAt.fn (r_ref08_Content T hx121) ?_
      simp [e0_57, e22_57, hT, hc76]
      refine hk118 _ _ ?_
      refine AWp.seqK fun K127 hk128 => ?_
      refine AWp.region [] (by decide +kernel) ?_
      obtain ⟨x129, x130, hx131, hm132⟩ := bind2_some hm122
      clear hm122
      try dsimp only at hm132
      simp [e0_57, e22_57, hT, hc76]
      refine CallAt.fn (r_content_Type T hT hx131) ?_
      simp [e0_57, e22_57, hT, hc76]
      refine hk128 _ _ ?_
      refine AWp.seqK fun K137 hk138 => ?_
      refine AWp.region [] (by decide +kernel) ?_
      obtain ⟨x139, x140, hx141, hm142⟩ := bind2_some hm132
      clear hm132
      try dsimp only at hm142
      simp [e0_57, e22_57, hT, hc76]
      refine CallAt.fn (r_content_Type T hT hx141) ?_
      simp [e0_57, e22_57, hT, hc76]
      refine hk138 _ _ ?_
      refine AWp.seqK fun K148 hk149 => ?_
      refine AWp.region [] (by decide +kernel) ?_
      have hf150 : AV.agg [AV.sc (.int .i64 3), AV.sc (.int .i64 0), AV.slice .frz [], AV.slice .frz [], AV.slice .frz [Fm.av x105, Fm.av x109]] = Fm.av (Fm.mk 3 (Ty.mk 0 []) [] [x105, x109]) := by rw [Fm.av_mk]; rfl
      obtain ⟨x151, x152, hx153, hm154⟩ := bind2_some hm142
      clear hm142
      try dsimp only at hm154
      simp [e0_57, e22_57, hT, hf150, hc76]
      refine CallAt.fn (r_content_Type T hT hx153) ?_
      simp [e0_57, e22_57, hT, hf150, hc76]
      refine hk149 _ _ ?_
      refine AWp.seqK fun K221 hk222 => ?_
      refine AWp.seqP (fun fr h => ∃ (g5_234 : Nat) (g8_234 : Nat) (g10_234 : Nat) (g12_234 : Nat), hset [[]] 0 [AV.slice .frz (List.map (fun n => AV.sc (Value.int .i64 n)) d110.l), AV.sc (.int .i64 d110.atF)] = h ∧ fr.env 5 = AV.lptr 5 g5_234 0 ∧ fr.env 6 = AV.sc (.bool x119) ∧ fr.env 8 = AV.lptr 8 g8_234 0 ∧ fr.env 9 = AV.sc (.int .i64 x130) ∧ fr.env 10 = AV.lptr 10 g10_234 0 ∧ fr.env 11 = AV.sc (.int .i64 x140) ∧ fr.env 12 = AV.lptr 12 g12_234 0 ∧ fr.env 13 = AV.sc (.int .i64 x152) ∧ fr.env 66 = AV.sc (.bool (sel (ine x120 0) true (sel (ine x130 0) true (sel (ine x140 0) true (ine x152 0))))) ∧ fr.gen 5 = g5_234 ∧ fr.box 5 = some [AV.sc (.int .i64 x109.kind), AV.sc (.int .i64 x109.typeF.kind), AV.slice .frz (List.map Ty.av x109.typeF.args), AV.slice .frz (List.map Tm.av x109.terms), AV.slice .frz (List.map Fm.av x109.args)] ∧ fr.gen 8 = g8_234 ∧ fr.box 8 = some [AV.sc (.int .i64 x129.kind), AV.slice .frz (List.map Ty.av x129.args)] ∧ fr.gen 10 = g10_234 ∧ fr.box 10 = some [AV.sc (.int .i64 x139.kind), AV.slice .frz (List.map Ty.av x139.args)] ∧ fr.gen 12 = g12_234 ∧ fr.box 12 = some [AV.sc (.int .i64 x151.kind), AV.slice .frz (List.map Ty.av x151.args)]) (fun K232 hk233 => ?_) ?_
      · refine AWp.region [] (by decide +kernel) ?_
        rcases Bool.eq_false_or_eq_true (ine x120 0) with hc235 | hc235
        · simp [e0_57, e22_57, hT, hf150, hc76, hc235]
          refine hk233 _ _ ⟨(fr57.gen 5 + 1), (fr57.gen 8 + 1), (fr57.gen 10 + 1), (fr57.gen 12 + 1), ?_, ?_, ?_, ?_, ?_, ?_, ?_, ?_, ?_, ?_, ?_, ?_, ?_, ?_, ?_, ?_, ?_, ?_⟩ <;> first | rfl | simp [e0_57, e22_57, hT, hf150, hc76, hc235]
        · rcases Bool.eq_false_or_eq_true (ine x130 0) with hc238 | hc238
          · simp [e0_57, e22_57, hT, hf150, hc76, hc235, hc238]
            refine hk233 _ _ ⟨(fr57.gen 5 + 1), (fr57.gen 8 + 1), (fr57.gen 10 + 1), (fr57.gen 12 + 1), ?_, ?_, ?_, ?_, ?_, ?_, ?_, ?_, ?_, ?_, ?_, ?_, ?_, ?_, ?_, ?_, ?_, ?_⟩ <;> first | rfl | simp [e0_57, e22_57, hT, hf150, hc76, hc235, hc238]
          · rcases Bool.eq_false_or_eq_true (ine x140 0) with hc241 | hc241
            · simp [e0_57, e22_57, hT, hf150, hc76, hc235, hc238, hc241]
              refine hk233 _ _ ⟨(fr57.gen 5 + 1), (fr57.gen 8 + 1), (fr57.gen 10 + 1), (fr57.gen 12 + 1), ?_, ?_, ?_, ?_, ?_, ?_, ?_, ?_, ?_, ?_, ?_, ?_, ?_, ?_, ?_, ?_, ?_, ?_⟩ <;> first | rfl | simp [e0_57, e22_57, hT, hf150, hc76, hc235, hc238, hc241]
            · simp [e0_57, e22_57, hT, hf150, hc76, hc235, hc238, hc241]
              refine hk233 _ _ ⟨(fr57.gen 5 + 1), (fr57.gen 8 + 1), (fr57.gen 10 + 1), (fr57.gen 12 + 1), ?_, ?_, ?_, ?_, ?_, ?_, ?_, ?_, ?_, ?_, ?_, ?_, ?_, ?_, ?_, ?_, ?_, ?_⟩ <;> first | rfl | simp [e0_57, e22_57, hT, hf150, hc76, hc235, hc238, hc241]
      · rintro fr234 h234 ⟨g5_234, g8_234, g10_234, g12_234, rfl, e5_234, e6_234, e8_234, e9_234, e10_234, e11_234, e12_234, e13_234, e66_234, g5e_234, b5_234, g8e_234, b8_234, g10e_234, b10_234, g12e_234, b12_234⟩
        refine AWp.condK rfl fun A244 B245 ga246 gb247 => ?_
        rcases ite_some hm154 with ⟨hc248, hm249⟩ | ⟨hc248, hm250⟩
        · clear hm154
          simp [e5_234, e6_234, e8_234, e9_234, e10_234, e11_234, e12_234, e13_234, e66_234, g5e_234, b5_234, g8e_234, b8_234, g10e_234, b10_234, g12e_234, b12_234, hT, hf150, hc76, hc248]
          refine ga246 _ _ ?_
          obtain ⟨j270, hj271, hm272⟩ := joinB_some hm249
          clear hm249
          refine AWp.seqP (fun fr h => ∃ (v269 : Bool), hset [[]] 0 [AV.slice .frz (List.map (fun n => AV.sc (Value.int .i64 n)) d110.l), AV.sc (.int .i64 d110.atF)] = h ∧ fr.env 2 = AV.sc (.bool v269) ∧ j270 v269 = some r0) (fun K266 hk267 => ?_) ?_
          · refine AWp.region [] (by decide +kernel) ?_
            obtain ⟨x274, hx275, hm276⟩ := bind1_some hm272
            clear hm272
            try dsimp only at hm276
            simp [e5_234, e6_234, e8_234, e9_234, e10_234, e11_234, e12_234, e13_234, e66_234, g5e_234, b5_234, g8e_234, b8_234, g10e_234, b10_234, g12e_234, b12_234, hT, hf150, hc76, hc248]
            refine CallAt.fn (r_law23_limits T hx275) ?_
            rcases ite_some hm276 with ⟨hc277, hm278⟩ | ⟨hc277, hm279⟩
            · clear hm276
              simp [e5_234, e6_234, e8_234, e9_234, e10_234, e11_234, e12_234, e13_234, e66_234, g5e_234, b5_234, g8e_234, b8_234, g10e_234, b10_234, g12e_234, b12_234, hT, hf150, hc76, hc248, hc277]
              refine hk267 _ _ ⟨true, ?_, ?_, hm278⟩ <;> first | rfl | simp [e5_234, e6_234, e8_234, e9_234, e10_234, e11_234, e12_234, e13_234, e66_234, g5e_234, b5_234, g8e_234, b8_234, g10e_234, b10_234, g12e_234, b12_234, hT, hf150, hc76, hc248, hc277]
            · clear hm276
              obtain ⟨x280, hx281, hm282⟩ := bind1_some hm279
              clear hm279
              try dsimp only at hm282
              simp [e5_234, e6_234, e8_234, e9_234, e10_234, e11_234, e12_234, e13_234, e66_234, g5e_234, b5_234, g8e_234, b8_234, g10e_234, b10_234, g12e_234, b12_234, hT, hf150, hc76, hc248, hc277]
              refine CallAt.fn (r_law23_limits T hx281) ?_
              rcases ite_some hm282 with ⟨hc283, hm284⟩ | ⟨hc283, hm285⟩
              · clear hm282
                simp [e5_234, e6_234, e8_234, e9_234, e10_234, e11_234, e12_234, e13_234, e66_234, g5e_234, b5_234, g8e_234, b8_234, g10e_234, b10_234, g12e_234, b12_234, hT, hf150, hc76, hc248, hc277, hc283]
                refine hk267 _ _ ⟨true, ?_, ?_, hm284⟩ <;> first | rfl | simp [e5_234, e6_234, e8_234, e9_234, e10_234, e11_234, e12_234, e13_234, e66_234, g5e_234, b5_234, g8e_234, b8_234, g10e_234, b10_234, g12e_234, b12_234, hT, hf150, hc76, hc248, hc277, hc283]
              · clear hm282
                obtain ⟨x286, hx287, hm288⟩ := bind1_some hm285
                clear hm285
                try dsimp only at hm288
                simp [e5_234, e6_234, e8_234, e9_234, e10_234, e11_234, e12_234, e13_234, e66_234, g5e_234, b5_234, g8e_234, b8_234, g10e_234, b10_234, g12e_234, b12_234, hT, hf150, hc76, hc248, hc277, hc283]
                refine CallAt.fn (r_law23_limits T hx287) ?_
                simp [e5_234, e6_234, e8_234, e9_234, e10_234, e11_234, e12_234, e13_234, e66_234, g5e_234, b5_234, g8e_234, b8_234, g10e_234, b10_234, g12e_234, b12_234, hT, hf150, hc76, hc248, hc277, hc283]
                refine hk267 _ _ ⟨x286, ?_, ?_, hm288⟩ <;> first | rfl | simp [e5_234, e6_234, e8_234, e9_234, e10_234, e11_234, e12_234, e13_234, e66_234, g5e_234, b5_234, g8e_234, b8_234, g10e_234, b10_234, g12e_234, b12_234, hT, hf150, hc76, hc248, hc277, hc283]
          · clear hm272
            rintro fr268 h268 ⟨v269, rfl, e2_268, hm273⟩
            subst hj271
            refine AWp.ret ?_
            try simp only [thenQ_ret]
            obtain rfl := Option.some.inj hm273
            simp [retQ, e2_268, hT, hf150, hc76, hc248]
        · clear hm154
          simp [e5_234, e6_234, e8_234, e9_234, e10_234, e11_234, e12_234, e13_234, e66_234, g5e_234, b5_234, g8e_234, b8_234, g10e_234, b10_234, g12e_234, b12_234, hT, hf150, hc76, hc248]
          refine gb247 _ _ ?_
          refine AWp.skip ?_
          try simp only [thenQ_normal]
          refine hk222 _ _ ?_
          refine AWp.seqK fun K318 hk319 => ?_
          refine AWp.seqK fun K320 hk321 => ?_
          refine AWp.region [] (by decide +kernel) ?_
          simp [e5_234, e6_234, e8_234, e9_234, e10_234, e11_234, e12_234, e13_234, e66_234, g5e_234, b5_234, g8e_234, b8_234, g10e_234, b10_234, g12e_234, b12_234, hT, hf150, hc76, hc248]
          refine hk321 _ _ ?_
          refine AWp.condK rfl fun A322 B323 ga324 gb325 => ?_
          rcases ite_some hm250 with ⟨hc326, hm327⟩ | ⟨hc326, hm328⟩
          · clear hm250
            simp [e5_234, e6_234, e8_234, e9_234, e10_234, e11_234, e12_234, e13_234, e66_234, g5e_234, b5_234, g8e_234, b8_234, g10e_234, b10_234, g12e_234, b12_234, hT, hf150, hc76, hc248, hc326]
            refine gb325 _ _ ?_
            refine AWp.skip ?_
            try simp only [thenQ_normal]
            refine hk319 _ _ ?_
            refine AWp.seqK fun K333 hk334 => ?_
            refine AWp.region [] (by decide +kernel) ?_
            obtain ⟨x335, x336, hx337, hm338⟩ := bind2_some hm327
            clear hm327
            try dsimp only at hm338
            simp [e5_234, e6_234, e8_234, e9_234, e10_234, e11_234, e12_234, e13_234, e66_234, g5e_234, b5_234, g8e_234, b8_234, g10e_234, b10_234, g12e_234, b12_234, hT, hf150, hc76, hc248, hc326]
            refine CallAt.fn (r_ref08_Content T hx337) ?_
            simp [e5_234, e6_234, e8_234, e9_234, e10_234, e11_234, e12_234, e13_234, e66_234, g5e_234, b5_234, g8e_234, b8_234, g10e_234, b10_234, g12e_234, b12_234, hT, hf150, hc76, hc248, hc326]
            refine hk334 _ _ ?_
            obtain ⟨j358, hj359, hm360⟩ := joinB_some hm338
            clear hm338
            refine AWp.seqP (fun fr h => ∃ (v357 : Bool), hset [[]] 0 [AV.slice .frz (List.map (fun n => AV.sc (Value.int .i64 n)) d110.l), AV.sc (.int .i64 d110.atF)] = h ∧ fr.env 2 = AV.sc (.bool v357) ∧ j358 v357 = some r0) (fun K354 hk355 => ?_) ?_
            · refine AWp.regionD [] false mixed (by decide +kernel) (by decide +kernel) ?_
              rcases ite_some hm360 with ⟨hc362, hm363⟩ | ⟨hc362, hm364⟩
              · clear hm360
                rcases ite_some hm363 with ⟨hc365, hm366⟩ | ⟨hc365, hm367⟩
                · clear hm363
                  obtain ⟨x368, hx369, hm370⟩ := bind1_some hm366
                  clear hm366
                  try dsimp only at hm370
                  simp [e5_234, e6_234, e8_234, e9_234, e10_234, e11_234, e12_234, e13_234, e66_234, g5e_234, b5_234, g8e_234, b8_234, g10e_234, b10_234, g12e_234, b12_234, hT, hf150, hc76, hc248, hc326, hc362, hc365]
                  refine CallAtD.fn (r_ref23_Fun T hx369) (by simp) ?_
                  obtain ⟨x371, hx372, hm373⟩ := bind1_some hm370
                  clear hm370
                  try dsimp only at hm373
                  simp [e5_234, e6_234, e8_234, e9_234, e10_234, e11_234, e12_234, e13_234, e66_234, g5e_234, b5_234, g8e_234, b8_234, g10e_234, b10_234, g12e_234, b12_234, hT, hf150, hc76, hc248, hc326, hc362, hc365]
                  refine CallAtD.fn (r_ref01_Same T hx372) (by simp) ?_
                  rcases ite_some hm373 with ⟨hc374, hm375⟩ | ⟨hc374, hm376⟩
                  · clear hm373
                    simp [e5_234, e6_234, e8_234, e9_234, e10_234, e11_234, e12_234, e13_234, e66_234, g5e_234, b5_234, g8e_234, b8_234, g10e_234, b10_234, g12e_234, b12_234, hT, hf150, hc76, hc248, hc326, hc362, hc365, hc374]
                    refine hk355 _ _ ⟨true, ?_, ?_, hm375⟩ <;> first | rfl | simp [e5_234, e6_234, e8_234, e9_234, e10_234, e11_234, e12_234, e13_234, e66_234, g5e_234, b5_234, g8e_234, b8_234, g10e_234, b10_234, g12e_234, b12_234, hT, hf150, hc76, hc248, hc326, hc362, hc365, hc374]
                  · clear hm373
                    simp [e5_234, e6_234, e8_234, e9_234, e10_234, e11_234, e12_234, e13_234, e66_234, g5e_234, b5_234, g8e_234, b8_234, g10e_234, b10_234, g12e_234, b12_234, hT, hf150, hc76, hc248, hc326, hc362, hc365, hc374]
                    refine hk355 _ _ ⟨false, ?_, ?_, hm376⟩ <;> first | rfl | simp [e5_234, e6_234, e8_234, e9_234, e10_234, e11_234, e12_234, e13_234, e66_234, g5e_234, b5_234, g8e_234, b8_234, g10e_234, b10_234, g12e_234, b12_234, hT, hf150, hc76, hc248, hc326, hc362, hc365, hc374]
                · clear hm363
                  simp [e5_234, e6_234, e8_234, e9_234, e10_234, e11_234, e12_234, e13_234, e66_234, g5e_234, b5_234, g8e_234, b8_234, g10e_234, b10_234, g12e_234, b12_234, hT, hf150, hc76, hc248, hc326, hc362, hc365]
                  refine hk355 _ _ ⟨(ieq x151.kind 5), ?_, ?_, hm367⟩ <;> first | rfl | simp [e5_234, e6_234, e8_234, e9_234, e10_234, e11_234, e12_234, e13_234, e66_234, g5e_234, b5_234, g8e_234, b8_234, g10e_234, b10_234, g12e_234, b12_234, hT, hf150, hc76, hc248, hc326, hc362, hc365]
              · clear hm360
                simp [e5_234, e6_234, e8_234, e9_234, e10_234, e11_234, e12_234, e13_234, e66_234, g5e_234, b5_234, g8e_234, b8_234, g10e_234, b10_234, g12e_234, b12_234, hT, hf150, hc76, hc248, hc326, hc362]
                refine hk355 _ _ ⟨false, ?_, ?_, hm364⟩ <;> first | rfl | simp [e5_234, e6_234, e8_234, e9_234, e10_234, e11_234, e12_234, e13_234, e66_234, g5e_234, b5_234, g8e_234, b8_234, g10e_234, b10_234, g12e_234, b12_234, hT, hf150, hc76, hc248, hc326, hc362]
            · clear hm360
              rintro fr356 h356 ⟨v357, rfl, e2_356, hm361⟩
              subst hj359
              refine AWp.ret ?_
              try simp only [thenQ_ret]
              obtain rfl := Option.some.inj hm361
              simp [retQ, e2_356, hT, hf150, hc76, hc248, hc326]
          · clear hm250
            simp [e5_234, e6_234, e8_234, e9_234, e10_234, e11_234, e12_234, e13_234, e66_234, g5e_234, b5_234, g8e_234, b8_234, g10e_234, b10_234, g12e_234, b12_234, hT, hf150, hc76, hc248, hc326]
            refine ga324 _ _ ?_
            obtain ⟨j387, hj388, hm389⟩ := joinB_some hm328
            clear hm328
            refine AWp.seqP (fun fr h => ∃ (v386 : Bool), hset [[]] 0 [AV.slice .frz (List.map (fun n => AV.sc (Value.int .i64 n)) d110.l), AV.sc (.int .i64 d110.atF)] = h ∧ fr.env 2 = AV.sc (.bool v386) ∧ j387 v386 = some r0) (fun K383 hk384 => ?_) ?_
            · refine AWp.region [] (by decide +kernel) ?_
              rcases ite_some hm389 with ⟨hc391, hm392⟩ | ⟨hc391, hm393⟩
              · clear hm389
                obtain ⟨x394, hx395, hm396⟩ := bind1_some hm392
                clear hm392
                try dsimp only at hm396
                simp [e5_234, e6_234, e8_234, e9_234, e10_234, e11_234, e12_234, e13_234, e66_234, g5e_234, b5_234, g8e_234, b8_234, g10e_234, b10_234, g12e_234, b12_234, hT, hf150, hc76, hc248, hc326, hc391]
                refine CallAt.fn (r_ref01_Same T hx395) ?_
                simp [e5_234, e6_234, e8_234, e9_234, e10_234, e11_234, e12_234, e13_234, e66_234, g5e_234, b5_234, g8e_234, b8_234, g10e_234, b10_234, g12e_234, b12_234, hT, hf150, hc76, hc248, hc326, hc391]
                refine hk384 _ _ ⟨x394, ?_, ?_, hm396⟩ <;> first | rfl | simp [e5_234, e6_234, e8_234, e9_234, e10_234, e11_234, e12_234, e13_234, e66_234, g5e_234, b5_234, g8e_234, b8_234, g10e_234, b10_234, g12e_234, b12_234, hT, hf150, hc76, hc248, hc326, hc391]
              · clear hm389
                simp [e5_234, e6_234, e8_234, e9_234, e10_234, e11_234, e12_234, e13_234, e66_234, g5e_234, b5_234, g8e_234, b8_234, g10e_234, b10_234, g12e_234, b12_234, hT, hf150, hc76, hc248, hc326, hc391]
                refine hk384 _ _ ⟨false, ?_, ?_, hm393⟩ <;> first | rfl | simp [e5_234, e6_234, e8_234, e9_234, e10_234, e11_234, e12_234, e13_234, e66_234, g5e_234, b5_234, g8e_234, b8_234, g10e_234, b10_234, g12e_234, b12_234, hT, hf150, hc76, hc248, hc326, hc391]
            · clear hm389
              rintro fr385 h385 ⟨v386, rfl, e2_385, hm390⟩
              subst hj388
              refine AWp.ret ?_
              try simp only [thenQ_ret]
              obtain rfl := Option.some.inj hm390
              simp [retQ, e2_385, hT, hf150, hc76, hc248, hc326]

end Go.Proofs.YtdihelfnjememaaDoor
