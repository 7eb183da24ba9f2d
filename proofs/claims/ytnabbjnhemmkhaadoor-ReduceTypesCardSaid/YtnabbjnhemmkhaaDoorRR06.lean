/- The program's functions do what the models say. -/
import Derived.Test.YtnabbjnhemmkhaaDoorRR05
import Derived.Test.YtnabbjnhemmkhaaDoorRM
set_option maxRecDepth 20000
set_option maxHeartbeats 4000000
set_option linter.unusedSimpArgs false
set_option linter.unusedVariables false
namespace Go.Proofs.YtnabbjnhemmkhaaDoor
open Go Go.Abs Go.Mdl

theorem enters55 : entersB Tryd.prog 55 = true := by kernel_rfl

theorem rg_graph_Node_Normal (T : Tabs) : ∀ (n : Nat), (∀ {H : Heap} {a0 : (Option Nat)} {nh : List HC} {r0 : Bool} {nh1 : List HC} (hm : graph_Node_Normal n a0 nh = some (r0, nh1)), ACall Tryd.prog T 55 [pav (List.length H) a0] (H ++ hmap (List.length H) nh) (AV.sc (.bool r0)) (H ++ hmap (List.length H) nh1)) := by
  intro n
  induction n with
  | zero =>
    skip
    all_goals
      intros
      rename_i hm
      cases hm
  | succ n ih =>
    intro H a0 nh r0 nh1 hm
    rw [graph_Node_Normal] at hm
    refine ACallP.intro (fn := Tryd.f55) Tryd.func55 rfl enters55 (Nat.le_of_ble_eq_true rfl) ?_
    refine AWp.sr [] fun K1 hk2 => ?_
    simp
    apply hk2
    refine AWp.seqK fun K3 hk4 => ?_
    refine AWp.sr [] fun K5 hk6 => ?_
    obtain ⟨x7, hx8, hm9⟩ := bind1_some hm
    clear hm
    try dsimp only at hm9
    obtain ⟨x10, hx11, hm12⟩ := bind1_some hm9
    replace hx11 := HC.get_cgraph_Node_some hx11
    clear hm9
    try dsimp only at hm12
    simp [hx8, hx11]
    apply hk6
    refine AWp.condK fun A13 B14 ga15 gb16 => ?_
    rcases ite_some hm12 with ⟨hc17, hm18⟩ | ⟨hc17, hm19⟩
    · clear hm12
      simp [hx8, hx11, hc17]
      apply ga15
      refine AWp.sr [] fun K20 hk21 => ?_
      simp [hx8, hx11, hc17]
      apply hk21
      refine AWp.ret ?_
      simp only [Option.some.injEq, Prod.mk.injEq] at hm18
      obtain ⟨rfl, rfl⟩ := hm18
      simp [retQ, hx8, hx11, hc17]
    clear hm12
    simp [hx8, hx11, hc17]
    apply gb16
    refine AWp.skip ?_
    apply hk4
    refine AWp.seqK fun K22 hk23 => ?_
    refine AWp.sr [] fun K24 hk25 => ?_
    obtain ⟨x26, hx27, hm28⟩ := bind1_some hm19
    clear hm19
    try dsimp only at hm28
    simp [hx8, hx11, hc17]
    refine CallAt.fn (r_graph_Node_redex T (H := H) hx27) ?_
    simp [hx8, hx11, hc17]
    apply hk25
    refine AWp.condK fun A29 B30 ga31 gb32 => ?_
    rcases ite_some hm28 with ⟨hc33, hm34⟩ | ⟨hc33, hm35⟩
    · clear hm28
      simp [hx8, hx11, hc17, hc33]
      apply ga31
      refine AWp.sr [] fun K36 hk37 => ?_
      simp [hx8, hx11, hc17, hc33]
      apply hk37
      refine AWp.ret ?_
      simp only [Option.some.injEq, Prod.mk.injEq] at hm34
      obtain ⟨rfl, rfl⟩ := hm34
      simp [retQ, hx8, hx11, hc17, hc33]
    clear hm28
    simp [hx8, hx11, hc17, hc33]
    apply gb32
    refine AWp.skip ?_
    apply hk23
    refine AWp.seqK fun K38 hk39 => ?_
    refine AWp.sr [] fun K40 hk41 => ?_
    simp [hx8, hx11, hc17, hc33]
    apply hk41
    obtain ⟨hok42, hm43⟩ := chk_some hm35
    clear hm35
    obtain ⟨F44, hF45, hm46⟩ := joinB_some hm43
    clear hm43
    try dsimp only at hm46
    obtain ⟨out47, hl48, hmB49⟩ := bind1_some hm46
    clear hm46
    refine AWp.blockK fun Q50 nn51 ne52 nx53 nr54 => ?_
    refine AWp.loopF (fun n55 fr h => ∃ (i56 : Nat) (j57 : Int) (v58 : List HC), H ++ hmap (List.length H) v58 = h ∧ (fr.env 0 = pav (List.length H) a0 ∧ fr.env 14 = AV.slice .frz (List.map (pav (List.length H)) x10.args) ∧ fr.env 15 = AV.sc (.int .i64 (llen x10.args)) ∧ fr.env 16 = AV.sc (.int .i64 j57)) ∧ j57 = (i56 : Int) ∧ i56 + n55 = List.length x10.args ∧ forR F44 (List.drop i56 x10.args) i56 v58 = some out47) (List.length x10.args) ?_ ?_
    · refine ⟨0, 0, nh, ?_, ⟨?_, ?_, ?_, ?_⟩, rfl, (by simp), hl48⟩ <;> first | rfl | simp [hx8, hx11, hc17, hc33]
    rintro n55 fr59 h59 ⟨i56, j57, v58, rfl, E59, hj60, hi61, hl48⟩ K62 hK63
    rcases n55 with _ | n55
    · have hlt64 := ilt_notJ (l := x10.args) hj60 (by omega)
      refine AWp.sr [] fun K65 hk66 => ?_
      simp [E59, hx8, hx11, hlt64, hc17, hc33]
      apply hk66
      refine AWp.seqK fun K67 hk68 => ?_
      refine AWp.condK fun A69 B70 ga71 gb72 => ?_
      simp [E59, hx8, hx11, hlt64, hc17, hc33]
      apply gb72
      refine AWp.exit ?_
      apply ne52
      rw [List.drop_eq_nil_of_le (by omega), forR_nil] at hl48
      obtain rfl := Option.some.inj hl48
      rw [sumK_inl] at hmB49
      try dsimp only at hmB49
      apply hk39
      refine AWp.sr [] fun K73 hk74 => ?_
      obtain ⟨x75, hx76, hm77⟩ := bind1_some hmB49
      replace hx76 := HC.get_cgraph_Node_some hx76
      clear hmB49
      try dsimp only at hm77
      have hf78 : hset (hmap (List.length H) v58) x7 [AV.sc (.int .i64 x75.kind), AV.sc (.int .i64 x75.index), AV.sc (.int .i64 x75.typ.kind), AV.slice .frz (List.map Ty.av x75.typ.args), AV.slice .frz (List.map (pav (List.length H)) x75.args), AV.sc (.int .i64 x75.size), AV.sc (.int .i64 x75.free), AV.sc (.bool true)] = hmap (List.length H) (hput v58 x7 (HC.cgraph_Node (Sgraph_Node.mk x75.kind x75.index x75.typ x75.args x75.size x75.free true))) := hset_hmapG rfl
      have hx79 : (hput v58 x7 (HC.cgraph_Node (Sgraph_Node.mk x75.kind x75.index x75.typ x75.args x75.size x75.free true)))[x7]? = some (HC.cgraph_Node (Sgraph_Node.mk x75.kind x75.index x75.typ x75.args x75.size x75.free true)) := put_get hx76
      simp [E59, hx8, hx11, hlt64, hx76, hf78, hx79, hc17, hc33]
      apply hk74
      refine AWp.sr [] fun K80 hk81 => ?_
      simp [E59, hx8, hx11, hlt64, hx76, hf78, hx79, hc17, hc33]
      apply hk81
      refine AWp.ret ?_
      simp only [Option.some.injEq, Prod.mk.injEq] at hm77
      obtain ⟨rfl, rfl⟩ := hm77
      simp [retQ, E59, hx8, hx11, hlt64, hx76, hf78, hx79, hc17, hc33]
    have hlt64 := ilt_ofJ (l := x10.args) hj60 (by omega)
    obtain ⟨x82, hdn55, hg83⟩ := drop_ltJ (l := x10.args) hj60 (by omega)
    rw [hdn55, forR_cons] at hl48
    obtain ⟨c84, hb85, hk86⟩ := bind1_some hl48
    clear hl48
    rw [hF45, ← hj60] at hb85
    try dsimp only at hb85
    refine AWp.sr [] fun K87 hk88 => ?_
    simp [E59, hx8, hx11, hlt64, hg83, hc17, hc33]
    apply hk88
    refine AWp.seqK fun K89 hk90 => ?_
    refine AWp.condK fun A91 B92 ga93 gb94 => ?_
    simp [E59, hx8, hx11, hlt64, hg83, hc17, hc33]
    apply ga93
    refine AWp.skip ?_
    apply hk90
    refine AWp.seqK fun K95 hk96 => ?_
    refine AWp.blockK fun Q97 nn98 ne99 nx100 nr101 => ?_
    refine AWp.sr [] fun K102 hk103 => ?_
    simp [E59, hx8, hx11, hlt64, hg83, hc17, hc33]
    apply hk103
    refine AWp.sr [] fun K104 hk105 => ?_
    obtain ⟨x106, nh107, hx108, hm109⟩ := bind2_some hb85
    clear hb85
    try dsimp only at hm109
    simp [E59, hx8, hx11, hlt64, hg83, hc17, hc33]
    refine CallAt.fn (ih (H := H) hx108) ?_
    simp [E59, hx8, hx11, hlt64, hg83, hc17, hc33]
    apply hk105
    refine AWp.condK fun A110 B111 ga112 gb113 => ?_
    rcases ite_some hm109 with ⟨hc114, hm115⟩ | ⟨hc114, hm116⟩
    rotate_left
    · clear hm109
      simp [E59, hx8, hx11, hlt64, hg83, hc17, hc33, hc114]
      apply ga112
      refine AWp.sr [] fun K117 hk118 => ?_
      simp [E59, hx8, hx11, hlt64, hg83, hc17, hc33, hc114]
      apply hk118
      refine AWp.ret ?_
      apply nr101
      apply nr54
      obtain rfl := Option.some.inj hm116
      rw [ctlK_ret] at hk86
      obtain rfl := Option.some.inj hk86
      rw [sumK_inr] at hmB49
      try dsimp only at hmB49
      simp only [Option.some.injEq, Prod.mk.injEq] at hmB49
      obtain ⟨rfl, rfl⟩ := hmB49
      simp [retQ, E59, hx8, hx11, hlt64, hg83, hc17, hc33, hc114]
    clear hm109
    simp [E59, hx8, hx11, hlt64, hg83, hc17, hc33, hc114]
    apply gb113
    refine AWp.skip ?_
    apply nn98
    apply hk96
    refine AWp.region [] (by decide +kernel) ?_
    simp [E59, hx8, hx11, hlt64, hg83, hc17, hc33, hc114]
    obtain rfl := Option.some.inj hm115
    rw [ctlK_next] at hk86
    refine hK63 _ _ n55 (Nat.lt_succ_self _) ⟨(i56 + 1), (iadd .i64 j57 1), nh107, ?_, ⟨?_, ?_, ?_, ?_⟩, (iadd_idxJ hj60 (by omega) hok42), (by omega), hk86⟩ <;> first | rfl | simp [E59, hx8, hx11, hlt64, hg83, hc17, hc33, hc114]
theorem r_graph_Node_Normal (T : Tabs) {H : Heap} {a0 : (Option Nat)} {nh : List HC} {r0 : Bool} {nh1 : List HC} {n : Nat} (hm : graph_Node_Normal n a0 nh = some (r0, nh1)) : ACall Tryd.prog T 55 [pav (List.length H) a0] (H ++ hmap (List.length H) nh) (AV.sc (.bool r0)) (H ++ hmap (List.length H) nh1) := (rg_graph_Node_Normal T n) hm

theorem enters17 : entersB Tryd.prog 17 = true := by kernel_rfl

theorem r_reduce_Normal (T : Tabs) (hT : T 0 = some (AV.agg (List.map (fun n => AV.sc (Value.int .i64 n)) tree_arities))) {H : Heap} {a0 : Tm} {a1 : Int} {r0 : Tm} {r1 : Int} {r2 : Int} (hm : reduce_Normal a0 a1 = some (r0, r1, r2)) : ACall Tryd.prog T 17 [Tm.av a0, AV.sc (.int .i64 a1)] H (AV.tuple [Tm.av r0, AV.sc (.int .i64 r1), AV.sc (.int .i64 r2)]) H := by
  rw [reduce_Normal] at hm
  refine ACallP.drop0 (Post := fun x K => x = AV.tuple [Tm.av r0, AV.sc (.int .i64 r1), AV.sc (.int .i64 r2)] ∧ ∃ X, K = H ++ X) ?_ (fun _ _ h => ⟨_, h.2.choose_spec, by rw [h.1]; simp [AV.low, AV.lowL], h.1, rfl⟩)
  refine ACallP.nh0 (c := HC.cells) ?_
  refine ACallP.intro (fn := Tryd.f17) Tryd.func17 rfl enters17 (Nat.le_of_ble_eq_true rfl) ?_
  refine AWp.sr [] fun K1 hk2 => ?_
  simp [hT]
  apply hk2
  refine AWp.seqK fun K3 hk4 => ?_
  refine AWp.sr [] fun K5 hk6 => ?_
  obtain ⟨x7, hx8, hm9⟩ := bind1_some hm
  clear hm
  try dsimp only at hm9
  simp [hT]
  refine CallAt.fn (r_terms_Check T hT hx8) ?_
  simp [hT]
  apply hk6
  refine AWp.sr [] fun K10 hk11 => ?_
  simp [hT]
  apply hk11
  refine AWp.condK fun A12 B13 ga14 gb15 => ?_
  rcases ite_some hm9 with ⟨hc16, hm17⟩ | ⟨hc16, hm18⟩
  · clear hm9
    simp [hT, hc16]
    apply ga14
    refine AWp.sr [] fun K19 hk20 => ?_
    simp [hT, hc16]
    apply hk20
    refine AWp.ret ?_
    simp only [Option.some.injEq, Prod.mk.injEq] at hm17
    obtain ⟨rfl, rfl, rfl⟩ := hm17
    simp [retQ, hT, hc16]
  clear hm9
  simp [hT, hc16]
  apply gb15
  refine AWp.skip ?_
  apply hk4
  refine AWp.seqK fun K21 hk22 => ?_
  obtain ⟨j23, hj24, hm25⟩ := joinB_some hm18
  clear hm18
  refine AWp.seqP (fun fr h => ∃ (v26 : Bool) (g2_38 : Nat) (g4_38 : Nat), H ++ hmap (List.length H) ([] : List HC) = h ∧ (fr.env 1 = AV.sc (.int .i64 a1) ∧ fr.env 2 = AV.lptr 2 g2_38 0 ∧ fr.env 4 = AV.lptr 4 g4_38 0 ∧ fr.env 27 = AV.sc (.bool v26) ∧ fr.gen 2 = g2_38 ∧ fr.box 2 = some [AV.sc (.int .i64 a0.kind), AV.sc (.int .i64 a0.index), AV.sc (.int .i64 a0.typeF.kind), AV.slice .frz (List.map Ty.av a0.typeF.args), AV.slice .frz (List.map Tm.av a0.args)] ∧ fr.gen 4 = g4_38 ∧ fr.box 4 = some [AV.sc (.int .i64 0), AV.sc (.int .i64 0), AV.sc (.int .i64 0), AV.slice .full [], AV.slice .full []]) ∧ j23 v26 = some (r0, r1, r2)) (fun K27 hk28 => ?_) ?_
  · refine AWp.region [] (by decide +kernel) ?_
    rcases ite_some hm25 with ⟨hc29, hm30⟩ | ⟨hc29, hm31⟩
    · clear hm25
      simp [hT, hc16, hc29]
      refine hk28 _ _ ⟨true, 1, 1, ?_, ⟨?_, ?_, ?_, ?_, ?_, ?_, ?_, ?_⟩, hm30⟩ <;> first | rfl | simp [hT, hc16, hc29]
    clear hm25
    rcases ite_some hm31 with ⟨hc32, hm33⟩ | ⟨hc32, hm34⟩
    · clear hm31
      simp [hT, hc16, hc29, hc32]
      refine hk28 _ _ ⟨true, 1, 1, ?_, ⟨?_, ?_, ?_, ?_, ?_, ?_, ?_, ?_⟩, hm33⟩ <;> first | rfl | simp [hT, hc16, hc29, hc32]
    clear hm31
    obtain ⟨x35, hx36, hm37⟩ := bind1_some hm34
    clear hm34
    try dsimp only at hm37
    simp [hT, hc16, hc29, hc32]
    refine CallAt.fn (r_tree_Near T hx36) ?_
    simp [hT, hc16, hc29, hc32]
    refine hk28 _ _ ⟨(bnot x35), 1, 1, ?_, ⟨?_, ?_, ?_, ?_, ?_, ?_, ?_, ?_⟩, hm37⟩ <;> first | rfl | simp [hT, hc16, hc29, hc32]
  clear hm25
  rintro fr38 h38 ⟨v26, g2_38, g4_38, rfl, E38, hm39⟩
  subst hj24
  refine AWp.condK fun A40 B41 ga42 gb43 => ?_
  rcases ite_some hm39 with ⟨hc44, hm45⟩ | ⟨hc44, hm46⟩
  · clear hm39
    simp [E38, hT, hc16, hc44]
    apply ga42
    refine AWp.sr [] fun K47 hk48 => ?_
    simp [E38, hT, hc16, hc44]
    apply hk48
    refine AWp.ret ?_
    simp only [Option.some.injEq, Prod.mk.injEq] at hm45
    obtain ⟨rfl, rfl, rfl⟩ := hm45
    simp [retQ, E38, hT, hc16, hc44]
  clear hm39
  simp [E38, hT, hc16, hc44]
  apply gb43
  refine AWp.skip ?_
  apply hk22
  refine AWp.sr [32] fun K49 hk50 => ?_
  obtain ⟨x51, nh52, hx53, hm54⟩ := bind2_some hm46
  clear hm46
  try dsimp only at hm54
  simp [E38, hT, hc16, hc44]
  refine CallAt.fn (r_graph_From T (H := H) hx53) ?_
  have hf55 : hmap (List.length H) nh52 ++ [[pav (List.length H) x51, AV.sc (.int .i64 0)]] = hmap (List.length H) (nh52 ++ [HC.creduce_state (Sreduce_state.mk x51 0)]) := hmapG_app rfl
  have hx56 : (nh52 ++ [HC.creduce_state (Sreduce_state.mk x51 0)])[(List.length nh52)]? = some (HC.creduce_state (Sreduce_state.mk x51 0)) := app_get
  simp [E38, hT, hf55, hx56, hc16, hc44]
  apply hk50
  refine AWp.seqK fun K57 hk58 => ?_
  obtain ⟨F59, hF60, hm61⟩ := joinB_some hm54
  clear hm54
  try dsimp only at hm61
  obtain ⟨out62, hl63, hmB64⟩ := bind1_some hm61
  clear hm61
  refine AWp.blockK fun Q65 nn66 ne67 nx68 nr69 => ?_
  refine AWp.loopF (fun n70 fr h => ∃ (v71 : List HC) (g4_72 : Nat), H ++ hmap (List.length H) v71 = h ∧ (fr.env 1 = AV.sc (.int .i64 a1) ∧ fr.env 4 = AV.lptr 4 g4_72 0 ∧ fr.env 8 = AV.gptr (List.length H + (List.length nh52)) 0 ∧ fr.gen 4 = g4_72 ∧ fr.box 4 = some [AV.sc (.int .i64 0), AV.sc (.int .i64 0), AV.sc (.int .i64 0), AV.slice .full [], AV.slice .full []]) ∧ loopN F59 n70 v71 = some out62) FU ?_ ?_
  · refine ⟨(nh52 ++ [HC.creduce_state (Sreduce_state.mk x51 0)]), g4_38, ?_, ⟨?_, ?_, ?_, ?_, ?_⟩, hl63⟩ <;> first | rfl | simp [E38, hT, hf55, hx56, hc16, hc44]
  rintro n70 fr72 h72 ⟨v71, g4_72, rfl, E72, hl63⟩ K73 hK74
  rcases n70 with _ | n70
  · rw [loopN_zero] at hl63
    cases hl63
  rw [loopN_succ] at hl63
  obtain ⟨c75, hb76, hk77⟩ := bind1_some hl63
  clear hl63
  rw [hF60] at hb76
  try dsimp only at hb76
  refine AWp.seqK fun K78 hk79 => ?_
  refine AWp.sr [] fun K80 hk81 => ?_
  obtain ⟨x82, hx83, hm84⟩ := bind1_some hb76
  replace hx83 := HC.get_creduce_state_some hx83
  clear hb76
  try dsimp only at hm84
  simp [E72, hT, hf55, hx56, hx83, hc16, hc44]
  apply hk81
  refine AWp.condK fun A85 B86 ga87 gb88 => ?_
  rcases ite_some hm84 with ⟨hc89, hm90⟩ | ⟨hc89, hm91⟩
  rotate_left
  · clear hm84
    simp [E72, hT, hf55, hx56, hx83, hc16, hc44, hc89]
    apply gb88
    refine AWp.exit ?_
    apply ne67
    obtain rfl := Option.some.inj hm91
    rw [ctlK_brk] at hk77
    obtain rfl := Option.some.inj hk77
    rw [sumK_inl] at hmB64
    try dsimp only at hmB64
    apply hk58
    refine AWp.seqK fun K92 hk93 => ?_
    refine AWp.sr [] fun K94 hk95 => ?_
    obtain ⟨x96, hx97, hm98⟩ := bind1_some hmB64
    replace hx97 := HC.get_creduce_state_some hx97
    clear hmB64
    try dsimp only at hm98
    obtain ⟨x99, nh100, hx101, hm102⟩ := bind2_some hm98
    clear hm98
    try dsimp only at hm102
    simp [E72, hT, hf55, hx56, hx97, hc16, hc44, hc89]
    refine CallAt.fn (r_graph_Node_Normal T (H := H) hx101) ?_
    simp [E72, hT, hf55, hx56, hx97, hc16, hc44, hc89]
    apply hk95
    refine AWp.condK fun A103 B104 ga105 gb106 => ?_
    rcases ite_some hm102 with ⟨hc107, hm108⟩ | ⟨hc107, hm109⟩
    rotate_left
    · clear hm102
      simp [E72, hT, hf55, hx56, hx97, hc16, hc44, hc89, hc107]
      apply ga105
      refine AWp.sr [] fun K110 hk111 => ?_
      simp [E72, hT, hf55, hx56, hx97, hc16, hc44, hc89, hc107]
      apply hk111
      refine AWp.ret ?_
      simp only [Option.some.injEq, Prod.mk.injEq] at hm109
      obtain ⟨rfl, rfl, rfl⟩ := hm109
      simp [retQ, E72, hT, hf55, hx56, hx97, hc16, hc44, hc89, hc107]
    clear hm102
    simp [E72, hT, hf55, hx56, hx97, hc16, hc44, hc89, hc107]
    apply gb106
    refine AWp.skip ?_
    apply hk93
    refine AWp.seqK fun K112 hk113 => ?_
    refine AWp.regionD [] true mixed (by decide +kernel) (by decide +kernel) ?_
    obtain ⟨x114, hx115, hm116⟩ := bind1_some hm108
    replace hx115 := HC.get_creduce_state_some hx115
    clear hm108
    try dsimp only at hm116
    obtain ⟨x117, hx118, hm119⟩ := bind1_some hm116
    clear hm116
    try dsimp only at hm119
    simp [E72, hT, hf55, hx56, hx97, hx115, hc16, hc44, hc89, hc107]
    refine CallAtD.fn (r_graph_Node_Term T (H := H) hx118) (by simp) ?_
    simp [E72, hT, hf55, hx56, hx97, hx115, hc16, hc44, hc89, hc107]
    apply hk113
    refine AWp.ret ?_
    simp only [Option.some.injEq, Prod.mk.injEq] at hm119
    obtain ⟨rfl, rfl, rfl⟩ := hm119
    simp [retQ, E72, hT, hf55, hx56, hx97, hx115, hc16, hc44, hc89, hc107]
  clear hm84
  simp [E72, hT, hf55, hx56, hx83, hc16, hc44, hc89]
  apply ga87
  refine AWp.skip ?_
  apply hk79
  refine AWp.blockK fun Q120 nn121 ne122 nx123 nr124 => ?_
  refine AWp.sr [] fun K125 hk126 => ?_
  obtain ⟨x127, x128, nh129, hx130, hm131⟩ := bind3_some hm90
  clear hm90
  try dsimp only at hm131
  simp [E72, hT, hf55, hx56, hx83, hc16, hc44, hc89]
  refine CallAt.fn (r_reduce_state_next T (H := H) hx130) ?_
  simp [E72, hT, hf55, hx56, hx83, hc16, hc44, hc89]
  apply hk126
  refine AWp.seqK fun K132 hk133 => ?_
  refine AWp.sr [] fun K134 hk135 => ?_
  simp [E72, hT, hf55, hx56, hx83, hc16, hc44, hc89]
  apply hk135
  refine AWp.condK fun A136 B137 ga138 gb139 => ?_
  rcases ite_some hm131 with ⟨hc140, hm141⟩ | ⟨hc140, hm142⟩
  · clear hm131
    simp [E72, hT, hf55, hx56, hx83, hc16, hc44, hc89, hc140]
    apply ga138
    refine AWp.sr [] fun K143 hk144 => ?_
    simp [E72, hT, hf55, hx56, hx83, hc16, hc44, hc89, hc140]
    apply hk144
    refine AWp.ret ?_
    apply nr124
    apply nr69
    obtain rfl := Option.some.inj hm141
    rw [ctlK_ret] at hk77
    obtain rfl := Option.some.inj hk77
    rw [sumK_inr] at hmB64
    try dsimp only at hmB64
    simp only [Option.some.injEq, Prod.mk.injEq] at hmB64
    obtain ⟨rfl, rfl, rfl⟩ := hmB64
    simp [retQ, E72, hT, hf55, hx56, hx83, hc16, hc44, hc89, hc140]
  clear hm131
  simp [E72, hT, hf55, hx56, hx83, hc16, hc44, hc89, hc140]
  apply gb139
  refine AWp.skip ?_
  apply hk133
  refine AWp.sr [] fun K145 hk146 => ?_
  simp [E72, hT, hf55, hx56, hx83, hc16, hc44, hc89, hc140]
  apply hk146
  refine AWp.condK fun A147 B148 ga149 gb150 => ?_
  rcases ite_some hm142 with ⟨hc151, hm152⟩ | ⟨hc151, hm153⟩
  · clear hm142
    simp [E72, hT, hf55, hx56, hx83, hc16, hc44, hc89, hc140, hc151]
    apply gb150
    refine AWp.skip ?_
    apply nn121
    obtain rfl := Option.some.inj hm152
    rw [ctlK_next] at hk77
    refine hK74 _ _ n70 (Nat.lt_succ_self _) ⟨nh129, g4_72, ?_, ⟨?_, ?_, ?_, ?_, ?_⟩, hk77⟩ <;> first | rfl | simp [E72, hT, hf55, hx56, hx83, hc16, hc44, hc89, hc140, hc151]
  clear hm142
  simp [E72, hT, hf55, hx56, hx83, hc16, hc44, hc89, hc140, hc151]
  apply ga149
  refine AWp.seqK fun K154 hk155 => ?_
  refine AWp.regionD [] true mixed (by decide +kernel) (by decide +kernel) ?_
  obtain ⟨x156, hx157, hm158⟩ := bind1_some hm153
  replace hx157 := HC.get_creduce_state_some hx157
  clear hm153
  try dsimp only at hm158
  obtain ⟨x159, hx160, hm161⟩ := bind1_some hm158
  clear hm158
  try dsimp only at hm161
  simp [E72, hT, hf55, hx56, hx83, hx157, hc16, hc44, hc89, hc140, hc151]
  refine CallAtD.fn (r_graph_Node_Term T (H := H) hx160) (by simp) ?_
  simp [E72, hT, hf55, hx56, hx83, hx157, hc16, hc44, hc89, hc140, hc151]
  apply hk155
  refine AWp.ret ?_
  apply nr124
  apply nr69
  obtain rfl := Option.some.inj hm161
  rw [ctlK_ret] at hk77
  obtain rfl := Option.some.inj hk77
  rw [sumK_inr] at hmB64
  try dsimp only at hmB64
  simp only [Option.some.injEq, Prod.mk.injEq] at hmB64
  obtain ⟨rfl, rfl, rfl⟩ := hmB64
  simp [retQ, E72, hT, hf55, hx56, hx83, hx157, hc16, hc44, hc89, hc140, hc151]

theorem enters99 : entersB Tryd.prog 99 = true := by kernel_rfl

theorem rg_ref01_shape (T : Tabs) : ∀ (n : Nat), (∀ {H : Heap} {a0 : Ty} {r0 : Bool} (hm : ref01_shape n a0 = some r0), ACall Tryd.prog T 99 [Ty.av a0] H (AV.sc (.bool r0)) H) := by
  intro n
  induction n with
  | zero =>
    skip
    all_goals
      intros
      rename_i hm
      cases hm
  | succ n ih =>
    intro H a0 r0 hm
    rw [ref01_shape] at hm
    refine ACallP.intro (fn := Tryd.f99) Tryd.func99 rfl enters99 (Nat.le_of_ble_eq_true rfl) ?_
    refine AWp.sr [] fun K1 hk2 => ?_
    simp
    apply hk2
    refine AWp.sr [] fun K3 hk4 => ?_
    simp
    apply hk4
    obtain ⟨j5, hj6, hm7⟩ := joinB_some hm
    clear hm
    refine AWp.seqP (fun fr h => ∃ (v8 : Int) (g1_61 : Nat), H = h ∧ (fr.env 1 = AV.lptr 1 g1_61 0 ∧ fr.env 3 = AV.sc (.int .i64 v8) ∧ fr.gen 1 = g1_61 ∧ fr.box 1 = some [AV.sc (.int .i64 a0.kind), AV.slice .frz (List.map Ty.av a0.args)]) ∧ j5 v8 = some r0) (fun K9 hk10 => ?_) ?_
    · refine AWp.sr [] fun K11 hk12 => ?_
      simp
      apply hk12
      refine AWp.blockK fun Q13 nn14 ne15 nx16 nr17 => ?_
      refine AWp.seqP (fun fr h => ∃ (g1_34 : Nat), H = h ∧ (fr.env 1 = AV.lptr 1 g1_34 0 ∧ fr.env 3 = AV.sc (.int .i64 0) ∧ fr.env 7 = AV.sc (.int .i64 a0.kind) ∧ fr.env 8 = AV.sc (.bool (sel (ieq a0.kind 1) true (sel (ieq a0.kind 2) true (ieq a0.kind 5)))) ∧ fr.gen 1 = g1_34 ∧ fr.box 1 = some [AV.sc (.int .i64 a0.kind), AV.slice .frz (List.map Ty.av a0.args)])) (fun K18 hk19 => ?_) ?_
      · refine AWp.sr [] fun K20 hk21 => ?_
        simp
        apply hk21
        refine AWp.condK fun A22 B23 ga24 gb25 => ?_
        rcases Bool.eq_false_or_eq_true (ieq a0.kind 1) with hc26 | hc26
        · simp [hc26]
          apply ga24
          refine AWp.skip ?_
          refine hk19 _ _ ⟨1, ?_, ⟨?_, ?_, ?_, ?_, ?_, ?_⟩⟩ <;> first | rfl | simp [hc26]
        simp [hc26]
        apply gb25
        refine AWp.sr [] fun K27 hk28 => ?_
        simp [hc26]
        apply hk28
        refine AWp.condK fun A29 B30 ga31 gb32 => ?_
        rcases Bool.eq_false_or_eq_true (ieq a0.kind 2) with hc33 | hc33
        · simp [hc26, hc33]
          apply ga31
          refine AWp.skip ?_
          refine hk19 _ _ ⟨1, ?_, ⟨?_, ?_, ?_, ?_, ?_, ?_⟩⟩ <;> first | rfl | simp [hc26, hc33]
        simp [hc26, hc33]
        apply gb32
        refine AWp.region [] (by decide +kernel) ?_
        simp [hc26, hc33]
        refine hk19 _ _ ⟨1, ?_, ⟨?_, ?_, ?_, ?_, ?_, ?_⟩⟩ <;> first | rfl | simp [hc26, hc33]
      rintro fr34 h34 ⟨g1_34, rfl, E34⟩
      refine AWp.condK fun A35 B36 ga37 gb38 => ?_
      rcases ite_some hm7 with ⟨hc39, hm40⟩ | ⟨hc39, hm41⟩
      · clear hm7
        simp [E34, hc39]
        apply ga37
        refine AWp.skip ?_
        apply nn14
        refine hk10 _ _ ⟨0, g1_34, ?_, ⟨?_, ?_, ?_, ?_⟩, hm40⟩ <;> first | rfl | simp [E34, hc39]
      clear hm7
      simp [E34, hc39]
      apply gb38
      refine AWp.seqP (fun fr h => ∃ (g1_51 : Nat), H = h ∧ (fr.env 1 = AV.lptr 1 g1_51 0 ∧ fr.env 12 = AV.sc (.bool (sel (ieq a0.kind 3) true (ieq a0.kind 4))) ∧ fr.gen 1 = g1_51 ∧ fr.box 1 = some [AV.sc (.int .i64 a0.kind), AV.slice .frz (List.map Ty.av a0.args)])) (fun K42 hk43 => ?_) ?_
      · refine AWp.sr [] fun K44 hk45 => ?_
        simp [E34, hc39]
        apply hk45
        refine AWp.condK fun A46 B47 ga48 gb49 => ?_
        rcases Bool.eq_false_or_eq_true (ieq a0.kind 3) with hc50 | hc50
        · simp [E34, hc39, hc50]
          apply ga48
          refine AWp.skip ?_
          refine hk43 _ _ ⟨g1_34, ?_, ⟨?_, ?_, ?_, ?_⟩⟩ <;> first | rfl | simp [E34, hc39, hc50]
        simp [E34, hc39, hc50]
        apply gb49
        refine AWp.region [] (by decide +kernel) ?_
        simp [E34, hc39, hc50]
        refine hk43 _ _ ⟨g1_34, ?_, ⟨?_, ?_, ?_, ?_⟩⟩ <;> first | rfl | simp [E34, hc39, hc50]
      rintro fr51 h51 ⟨g1_51, rfl, E51⟩
      refine AWp.condK fun A52 B53 ga54 gb55 => ?_
      rcases ite_some hm41 with ⟨hc56, hm57⟩ | ⟨hc56, hm58⟩
      rotate_left
      · clear hm41
        simp [E51, hc39, hc56]
        apply gb55
        refine AWp.sr [] fun K59 hk60 => ?_
        simp [E51, hc39, hc56]
        apply hk60
        refine AWp.ret ?_
        apply nr17
        obtain rfl := Option.some.inj hm58
        simp [retQ, E51, hc39, hc56]
      clear hm41
      simp [E51, hc39, hc56]
      apply ga54
      refine AWp.region [] (by decide +kernel) ?_
      simp [E51, hc39, hc56]
      apply nn14
      refine hk10 _ _ ⟨2, g1_51, ?_, ⟨?_, ?_, ?_, ?_⟩, hm57⟩ <;> first | rfl | simp [E51, hc39, hc56]
    clear hm7
    rintro fr61 h61 ⟨v8, g1_61, rfl, E61, hm62⟩
    subst hj6
    refine AWp.seqK fun K63 hk64 => ?_
    refine AWp.sr [] fun K65 hk66 => ?_
    simp [E61]
    apply hk66
    refine AWp.condK fun A67 B68 ga69 gb70 => ?_
    rcases ite_some hm62 with ⟨hc71, hm72⟩ | ⟨hc71, hm73⟩
    · clear hm62
      simp [E61, hc71]
      apply ga69
      refine AWp.sr [] fun K74 hk75 => ?_
      simp [E61, hc71]
      apply hk75
      refine AWp.ret ?_
      obtain rfl := Option.some.inj hm72
      simp [retQ, E61, hc71]
    clear hm62
    simp [E61, hc71]
    apply gb70
    refine AWp.skip ?_
    apply hk64
    refine AWp.seqK fun K76 hk77 => ?_
    refine AWp.sr [] fun K78 hk79 => ?_
    simp [E61, hc71]
    apply hk79
    obtain ⟨hok80, hm81⟩ := chk_some hm73
    clear hm73
    obtain ⟨F82, hF83, hm84⟩ := joinB_some hm81
    clear hm81
    try dsimp only at hm84
    obtain ⟨out85, hl86, hmB87⟩ := bind1_some hm84
    clear hm84
    refine AWp.blockK fun Q88 nn89 ne90 nx91 nr92 => ?_
    refine AWp.loopF (fun n93 fr h => ∃ (i94 : Nat) (j95 : Int), H = h ∧ (fr.env 21 = AV.slice .frz (List.map Ty.av a0.args) ∧ fr.env 22 = AV.sc (.int .i64 (llen a0.args)) ∧ fr.env 23 = AV.sc (.int .i64 j95)) ∧ j95 = (i94 : Int) ∧ i94 + n93 = List.length a0.args ∧ forR F82 (List.drop i94 a0.args) i94 () = some out85) (List.length a0.args) ?_ ?_
    · refine ⟨0, 0, ?_, ⟨?_, ?_, ?_⟩, rfl, (by simp), hl86⟩ <;> first | rfl | simp [E61, hc71]
    rintro n93 fr96 h96 ⟨i94, j95, rfl, E96, hj97, hi98, hl86⟩ K99 hK100
    rcases n93 with _ | n93
    · have hlt101 := ilt_notJ (l := a0.args) hj97 (by omega)
      refine AWp.sr [] fun K102 hk103 => ?_
      simp [E96, hlt101, hc71]
      apply hk103
      refine AWp.seqK fun K104 hk105 => ?_
      refine AWp.condK fun A106 B107 ga108 gb109 => ?_
      simp [E96, hlt101, hc71]
      apply gb109
      refine AWp.exit ?_
      apply ne90
      rw [List.drop_eq_nil_of_le (by omega), forR_nil] at hl86
      obtain rfl := Option.some.inj hl86
      rw [sumK_inl] at hmB87
      try dsimp only at hmB87
      apply hk77
      refine AWp.sr [] fun K110 hk111 => ?_
      simp [E96, hlt101, hc71]
      apply hk111
      refine AWp.ret ?_
      obtain rfl := Option.some.inj hmB87
      simp [retQ, E96, hlt101, hc71]
    have hlt101 := ilt_ofJ (l := a0.args) hj97 (by omega)
    obtain ⟨x112, hdn93, hg113⟩ := drop_ltJ (l := a0.args) hj97 (by omega)
    rw [hdn93, forR_cons] at hl86
    obtain ⟨c114, hb115, hk116⟩ := bind1_some hl86
    clear hl86
    rw [hF83, ← hj97] at hb115
    try dsimp only at hb115
    refine AWp.sr [] fun K117 hk118 => ?_
    simp [E96, hlt101, hg113, hc71]
    apply hk118
    refine AWp.seqK fun K119 hk120 => ?_
    refine AWp.condK fun A121 B122 ga123 gb124 => ?_
    simp [E96, hlt101, hg113, hc71]
    apply ga123
    refine AWp.skip ?_
    apply hk120
    refine AWp.seqK fun K125 hk126 => ?_
    refine AWp.blockK fun Q127 nn128 ne129 nx130 nr131 => ?_
    refine AWp.sr [] fun K132 hk133 => ?_
    simp [E96, hlt101, hg113, hc71]
    apply hk133
    refine AWp.sr [] fun K134 hk135 => ?_
    obtain ⟨x136, hx137, hm138⟩ := bind1_some hb115
    clear hb115
    try dsimp only at hm138
    simp [E96, hlt101, hg113, hc71]
    refine CallAt.fn (ih hx137) ?_
    simp [E96, hlt101, hg113, hc71]
    apply hk135
    refine AWp.condK fun A139 B140 ga141 gb142 => ?_
    rcases ite_some hm138 with ⟨hc143, hm144⟩ | ⟨hc143, hm145⟩
    rotate_left
    · clear hm138
      simp [E96, hlt101, hg113, hc71, hc143]
      apply ga141
      refine AWp.sr [] fun K146 hk147 => ?_
      simp [E96, hlt101, hg113, hc71, hc143]
      apply hk147
      refine AWp.ret ?_
      apply nr131
      apply nr92
      obtain rfl := Option.some.inj hm145
      rw [ctlK_ret] at hk116
      obtain rfl := Option.some.inj hk116
      rw [sumK_inr] at hmB87
      try dsimp only at hmB87
      obtain rfl := Option.some.inj hmB87
      simp [retQ, E96, hlt101, hg113, hc71, hc143]
    clear hm138
    simp [E96, hlt101, hg113, hc71, hc143]
    apply gb142
    refine AWp.skip ?_
    apply nn128
    apply hk126
    refine AWp.region [] (by decide +kernel) ?_
    simp [E96, hlt101, hg113, hc71, hc143]
    obtain rfl := Option.some.inj hm144
    rw [ctlK_next] at hk116
    refine hK100 _ _ n93 (Nat.lt_succ_self _) ⟨(i94 + 1), (iadd .i64 j95 1), ?_, ⟨?_, ?_, ?_⟩, (iadd_idxJ hj97 (by omega) hok80), (by omega), hk116⟩ <;> first | rfl | simp [E96, hlt101, hg113, hc71, hc143]
theorem r_ref01_shape (T : Tabs) {H : Heap} {a0 : Ty} {r0 : Bool} {n : Nat} (hm : ref01_shape n a0 = some r0) : ACall Tryd.prog T 99 [Ty.av a0] H (AV.sc (.bool r0)) H := (rg_ref01_shape T n) hm

theorem enters100 : entersB Tryd.prog 100 = true := by kernel_rfl

theorem rg_ref01_size (T : Tabs) : ∀ (n : Nat), (∀ {H : Heap} {a0 : Ty} {r0 : Int} (hm : ref01_size n a0 = some r0), ACall Tryd.prog T 100 [Ty.av a0] H (AV.sc (.int .i64 r0)) H) := by
  intro n
  induction n with
  | zero =>
    skip
    all_goals
      intros
      rename_i hm
      cases hm
  | succ n ih =>
    intro H a0 r0 hm
    rw [ref01_size] at hm
    refine ACallP.intro (fn := Tryd.f100) Tryd.func100 rfl enters100 (Nat.le_of_ble_eq_true rfl) ?_
    refine AWp.sr [] fun K1 hk2 => ?_
    simp
    apply hk2
    refine AWp.sr [] fun K3 hk4 => ?_
    simp
    apply hk4
    refine AWp.seqK fun K5 hk6 => ?_
    refine AWp.sr [] fun K7 hk8 => ?_
    simp
    apply hk8
    obtain ⟨hok9, hm10⟩ := chk_some hm
    clear hm
    obtain ⟨F11, hF12, hm13⟩ := joinB_some hm10
    clear hm10
    try dsimp only at hm13
    obtain ⟨out14, hl15, hmB16⟩ := bind1_some hm13
    clear hm13
    refine AWp.blockK fun Q17 nn18 ne19 nx20 nr21 => ?_
    refine AWp.loopF (fun n22 fr h => ∃ (i23 : Nat) (j24 : Int) (v25 : Int), H = h ∧ (fr.env 3 = AV.sc (.int .i64 v25) ∧ fr.env 7 = AV.slice .frz (List.map Ty.av a0.args) ∧ fr.env 8 = AV.sc (.int .i64 (llen a0.args)) ∧ fr.env 9 = AV.sc (.int .i64 j24)) ∧ j24 = (i23 : Int) ∧ i23 + n22 = List.length a0.args ∧ forR F11 (List.drop i23 a0.args) i23 v25 = some out14) (List.length a0.args) ?_ ?_
    · refine ⟨0, 0, 1, ?_, ⟨?_, ?_, ?_, ?_⟩, rfl, (by simp), hl15⟩ <;> first | rfl | simp
    rintro n22 fr26 h26 ⟨i23, j24, v25, rfl, E26, hj27, hi28, hl15⟩ K29 hK30
    rcases n22 with _ | n22
    · have hlt31 := ilt_notJ (l := a0.args) hj27 (by omega)
      refine AWp.sr [] fun K32 hk33 => ?_
      simp [E26, hlt31]
      apply hk33
      refine AWp.seqK fun K34 hk35 => ?_
      refine AWp.condK fun A36 B37 ga38 gb39 => ?_
      simp [E26, hlt31]
      apply gb39
      refine AWp.exit ?_
      apply ne19
      rw [List.drop_eq_nil_of_le (by omega), forR_nil] at hl15
      obtain rfl := Option.some.inj hl15
      rw [sumK_inl] at hmB16
      try dsimp only at hmB16
      apply hk6
      refine AWp.sr [] fun K40 hk41 => ?_
      simp [E26, hlt31]
      apply hk41
      refine AWp.ret ?_
      obtain rfl := Option.some.inj hmB16
      simp [retQ, E26, hlt31]
    have hlt31 := ilt_ofJ (l := a0.args) hj27 (by omega)
    obtain ⟨x42, hdn22, hg43⟩ := drop_ltJ (l := a0.args) hj27 (by omega)
    rw [hdn22, forR_cons] at hl15
    obtain ⟨c44, hb45, hk46⟩ := bind1_some hl15
    clear hl15
    rw [hF12, ← hj27] at hb45
    try dsimp only at hb45
    refine AWp.sr [] fun K47 hk48 => ?_
    simp [E26, hlt31, hg43]
    apply hk48
    refine AWp.seqK fun K49 hk50 => ?_
    refine AWp.condK fun A51 B52 ga53 gb54 => ?_
    simp [E26, hlt31, hg43]
    apply ga53
    refine AWp.skip ?_
    apply hk50
    refine AWp.seqK fun K55 hk56 => ?_
    refine AWp.blockK fun Q57 nn58 ne59 nx60 nr61 => ?_
    refine AWp.sr [] fun K62 hk63 => ?_
    simp [E26, hlt31, hg43]
    apply hk63
    refine AWp.region [] (by decide +kernel) ?_
    obtain ⟨x64, hx65, hm66⟩ := bind1_some hb45
    clear hb45
    try dsimp only at hm66
    simp [E26, hlt31, hg43]
    refine CallAt.fn (ih hx65) ?_
    simp [E26, hlt31, hg43]
    apply nn58
    apply hk56
    refine AWp.region [] (by decide +kernel) ?_
    simp [E26, hlt31, hg43]
    obtain rfl := Option.some.inj hm66
    rw [ctlK_next] at hk46
    refine hK30 _ _ n22 (Nat.lt_succ_self _) ⟨(i23 + 1), (iadd .i64 j24 1), (iadd .i64 v25 x64), ?_, ⟨?_, ?_, ?_, ?_⟩, (iadd_idxJ hj27 (by omega) hok9), (by omega), hk46⟩ <;> first | rfl | simp [E26, hlt31, hg43]
theorem r_ref01_size (T : Tabs) {H : Heap} {a0 : Ty} {r0 : Int} {n : Nat} (hm : ref01_size n a0 = some r0) : ACall Tryd.prog T 100 [Ty.av a0] H (AV.sc (.int .i64 r0)) H := (rg_ref01_size T n) hm

theorem enters85 : entersB Tryd.prog 85 = true := by kernel_rfl

theorem r_ref01_Check (T : Tabs) {H : Heap} {a0 : Ty} {r0 : Int} (hm : ref01_Check a0 = some r0) : ACall Tryd.prog T 85 [Ty.av a0] H (AV.sc (.int .i64 r0)) H := by
  rw [ref01_Check] at hm
  refine ACallP.intro (fn := Tryd.f85) Tryd.func85 rfl enters85 (Nat.le_of_ble_eq_true rfl) ?_
  refine AWp.sr [] fun K1 hk2 => ?_
  simp
  apply hk2
  refine AWp.seqK fun K3 hk4 => ?_
  refine AWp.sr [] fun K5 hk6 => ?_
  obtain ⟨x7, hx8, hm9⟩ := bind1_some hm
  clear hm
  try dsimp only at hm9
  simp
  refine CallAt.fn (r_ref01_shape T hx8) ?_
  simp
  apply hk6
  refine AWp.condK fun A10 B11 ga12 gb13 => ?_
  rcases ite_some hm9 with ⟨hc14, hm15⟩ | ⟨hc14, hm16⟩
  rotate_left
  · clear hm9
    simp [hc14]
    apply ga12
    refine AWp.sr [] fun K17 hk18 => ?_
    simp [hc14]
    apply hk18
    refine AWp.ret ?_
    obtain rfl := Option.some.inj hm16
    simp [retQ, hc14]
  clear hm9
  simp [hc14]
  apply gb13
  refine AWp.skip ?_
  apply hk4
  refine AWp.seqK fun K19 hk20 => ?_
  refine AWp.sr [] fun K21 hk22 => ?_
  obtain ⟨x23, hx24, hm25⟩ := bind1_some hm15
  clear hm15
  try dsimp only at hm25
  simp [hc14]
  refine CallAt.fn (r_ref01_size T hx24) ?_
  simp [hc14]
  apply hk22
  refine AWp.condK fun A26 B27 ga28 gb29 => ?_
  rcases ite_some hm25 with ⟨hc30, hm31⟩ | ⟨hc30, hm32⟩
  · clear hm25
    simp [hc14, hc30]
    apply ga28
    refine AWp.sr [] fun K33 hk34 => ?_
    simp [hc14, hc30]
    apply hk34
    refine AWp.ret ?_
    obtain rfl := Option.some.inj hm31
    simp [retQ, hc14, hc30]
  clear hm25
  simp [hc14, hc30]
  apply gb29
  refine AWp.skip ?_
  apply hk20
  refine AWp.sr [] fun K35 hk36 => ?_
  simp [hc14, hc30]
  apply hk36
  refine AWp.ret ?_
  obtain rfl := Option.some.inj hm32
  simp [retQ, hc14, hc30]

theorem enters56 : entersB Tryd.prog 56 = true := by kernel_rfl

theorem r_ref01_Context (T : Tabs) {H : Heap} {a0 : (List Ty)} {r0 : Int} (hm : ref01_Context a0 = some r0) : ACall Tryd.prog T 56 [AV.slice .frz (List.map Ty.av a0)] H (AV.sc (.int .i64 r0)) H := by
  rw [ref01_Context] at hm
  refine ACallP.intro (fn := Tryd.f56) Tryd.func56 rfl enters56 (Nat.le_of_ble_eq_true rfl) ?_
  refine AWp.sr [] fun K1 hk2 => ?_
  simp
  apply hk2
  refine AWp.seqK fun K3 hk4 => ?_
  refine AWp.sr [] fun K5 hk6 => ?_
  simp
  apply hk6
  refine AWp.condK fun A7 B8 ga9 gb10 => ?_
  rcases ite_some hm with ⟨hc11, hm12⟩ | ⟨hc11, hm13⟩
  · clear hm
    simp [hc11]
    apply ga9
    refine AWp.sr [] fun K14 hk15 => ?_
    simp [hc11]
    apply hk15
    refine AWp.ret ?_
    obtain rfl := Option.some.inj hm12
    simp [retQ, hc11]
  clear hm
  simp [hc11]
  apply gb10
  refine AWp.skip ?_
  apply hk4
  refine AWp.seqK fun K16 hk17 => ?_
  refine AWp.sr [] fun K18 hk19 => ?_
  simp [hc11]
  apply hk19
  obtain ⟨hok20, hm21⟩ := chk_some hm13
  clear hm13
  obtain ⟨F22, hF23, hm24⟩ := joinB_some hm21
  clear hm21
  try dsimp only at hm24
  obtain ⟨out25, hl26, hmB27⟩ := bind1_some hm24
  clear hm24
  refine AWp.blockK fun Q28 nn29 ne30 nx31 nr32 => ?_
  refine AWp.loopF (fun n33 fr h => ∃ (i34 : Nat) (j35 : Int), H = h ∧ (fr.env 9 = AV.slice .frz (List.map Ty.av a0) ∧ fr.env 10 = AV.sc (.int .i64 (llen a0)) ∧ fr.env 11 = AV.sc (.int .i64 j35)) ∧ j35 = (i34 : Int) ∧ i34 + n33 = List.length a0 ∧ forR F22 (List.drop i34 a0) i34 () = some out25) (List.length a0) ?_ ?_
  · refine ⟨0, 0, ?_, ⟨?_, ?_, ?_⟩, rfl, (by simp), hl26⟩ <;> first | rfl | simp [hc11]
  rintro n33 fr36 h36 ⟨i34, j35, rfl, E36, hj37, hi38, hl26⟩ K39 hK40
  rcases n33 with _ | n33
  · have hlt41 := ilt_notJ (l := a0) hj37 (by omega)
    refine AWp.sr [] fun K42 hk43 => ?_
    simp [E36, hlt41, hc11]
    apply hk43
    refine AWp.seqK fun K44 hk45 => ?_
    refine AWp.condK fun A46 B47 ga48 gb49 => ?_
    simp [E36, hlt41, hc11]
    apply gb49
    refine AWp.exit ?_
    apply ne30
    rw [List.drop_eq_nil_of_le (by omega), forR_nil] at hl26
    obtain rfl := Option.some.inj hl26
    rw [sumK_inl] at hmB27
    try dsimp only at hmB27
    apply hk17
    refine AWp.sr [] fun K50 hk51 => ?_
    simp [E36, hlt41, hc11]
    apply hk51
    refine AWp.ret ?_
    obtain rfl := Option.some.inj hmB27
    simp [retQ, E36, hlt41, hc11]
  have hlt41 := ilt_ofJ (l := a0) hj37 (by omega)
  obtain ⟨x52, hdn33, hg53⟩ := drop_ltJ (l := a0) hj37 (by omega)
  rw [hdn33, forR_cons] at hl26
  obtain ⟨c54, hb55, hk56⟩ := bind1_some hl26
  clear hl26
  rw [hF23, ← hj37] at hb55
  try dsimp only at hb55
  refine AWp.sr [] fun K57 hk58 => ?_
  simp [E36, hlt41, hg53, hc11]
  apply hk58
  refine AWp.seqK fun K59 hk60 => ?_
  refine AWp.condK fun A61 B62 ga63 gb64 => ?_
  simp [E36, hlt41, hg53, hc11]
  apply ga63
  refine AWp.skip ?_
  apply hk60
  refine AWp.seqK fun K65 hk66 => ?_
  refine AWp.blockK fun Q67 nn68 ne69 nx70 nr71 => ?_
  refine AWp.sr [] fun K72 hk73 => ?_
  simp [E36, hlt41, hg53, hc11]
  apply hk73
  refine AWp.sr [] fun K74 hk75 => ?_
  obtain ⟨x76, hx77, hm78⟩ := bind1_some hb55
  clear hb55
  try dsimp only at hm78
  simp [E36, hlt41, hg53, hc11]
  refine CallAt.fn (r_ref01_Check T hx77) ?_
  simp [E36, hlt41, hg53, hc11]
  apply hk75
  refine AWp.sr [] fun K79 hk80 => ?_
  simp [E36, hlt41, hg53, hc11]
  apply hk80
  refine AWp.condK fun A81 B82 ga83 gb84 => ?_
  rcases ite_some hm78 with ⟨hc85, hm86⟩ | ⟨hc85, hm87⟩
  · clear hm78
    simp [E36, hlt41, hg53, hc11, hc85]
    apply ga83
    refine AWp.sr [] fun K88 hk89 => ?_
    simp [E36, hlt41, hg53, hc11, hc85]
    apply hk89
    refine AWp.ret ?_
    apply nr71
    apply nr32
    obtain rfl := Option.some.inj hm86
    rw [ctlK_ret] at hk56
    obtain rfl := Option.some.inj hk56
    rw [sumK_inr] at hmB27
    try dsimp only at hmB27
    obtain rfl := Option.some.inj hmB27
    simp [retQ, E36, hlt41, hg53, hc11, hc85]
  clear hm78
  simp [E36, hlt41, hg53, hc11, hc85]
  apply gb84
  refine AWp.skip ?_
  apply nn68
  apply hk66
  refine AWp.region [] (by decide +kernel) ?_
  simp [E36, hlt41, hg53, hc11, hc85]
  obtain rfl := Option.some.inj hm87
  rw [ctlK_next] at hk56
  refine hK40 _ _ n33 (Nat.lt_succ_self _) ⟨(i34 + 1), (iadd .i64 j35 1), ?_, ⟨?_, ?_, ?_⟩, (iadd_idxJ hj37 (by omega) hok20), (by omega), hk56⟩ <;> first | rfl | simp [E36, hlt41, hg53, hc11, hc85]

theorem enters102 : entersB Tryd.prog 102 = true := by kernel_rfl

theorem r_ref02_args (T : Tabs) {H : Heap} {a0 : Int} {r0 : Int} (hm : ref02_args a0 = some r0) : ACall Tryd.prog T 102 [AV.sc (.int .i64 a0)] H (AV.sc (.int .i64 r0)) H := by
  rw [ref02_args] at hm
  refine ACallP.intro (fn := Tryd.f102) Tryd.func102 rfl enters102 (Nat.le_of_ble_eq_true rfl) ?_
  refine AWp.sr [] fun K1 hk2 => ?_
  simp
  apply hk2
  refine AWp.seqK fun K3 hk4 => ?_
  refine AWp.sr [] fun K5 hk6 => ?_
  simp
  apply hk6
  refine AWp.blockK fun Q7 nn8 ne9 nx10 nr11 => ?_
  refine AWp.seqP (fun fr h => H = h ∧ (fr.env 3 = AV.sc (.int .i64 a0) ∧ fr.env 4 = AV.sc (.bool (sel (ieq a0 1) true (sel (ieq a0 4) true (sel (ieq a0 7) true (ieq a0 13))))))) (fun K12 hk13 => ?_) ?_
  · refine AWp.sr [] fun K14 hk15 => ?_
    simp
    apply hk15
    refine AWp.condK fun A16 B17 ga18 gb19 => ?_
    rcases Bool.eq_false_or_eq_true (ieq a0 1) with hc20 | hc20
    · simp [hc20]
      apply ga18
      refine AWp.skip ?_
      refine hk13 _ _ ⟨?_, ⟨?_, ?_⟩⟩ <;> first | rfl | simp [hc20]
    simp [hc20]
    apply gb19
    refine AWp.sr [] fun K21 hk22 => ?_
    simp [hc20]
    apply hk22
    refine AWp.condK fun A23 B24 ga25 gb26 => ?_
    rcases Bool.eq_false_or_eq_true (ieq a0 4) with hc27 | hc27
    · simp [hc20, hc27]
      apply ga25
      refine AWp.skip ?_
      refine hk13 _ _ ⟨?_, ⟨?_, ?_⟩⟩ <;> first | rfl | simp [hc20, hc27]
    simp [hc20, hc27]
    apply gb26
    refine AWp.sr [] fun K28 hk29 => ?_
    simp [hc20, hc27]
    apply hk29
    refine AWp.condK fun A30 B31 ga32 gb33 => ?_
    rcases Bool.eq_false_or_eq_true (ieq a0 7) with hc34 | hc34
    · simp [hc20, hc27, hc34]
      apply ga32
      refine AWp.skip ?_
      refine hk13 _ _ ⟨?_, ⟨?_, ?_⟩⟩ <;> first | rfl | simp [hc20, hc27, hc34]
    simp [hc20, hc27, hc34]
    apply gb33
    refine AWp.region [] (by decide +kernel) ?_
    simp [hc20, hc27, hc34]
    refine hk13 _ _ ⟨?_, ⟨?_, ?_⟩⟩ <;> first | rfl | simp [hc20, hc27, hc34]
  rintro fr35 h35 ⟨rfl, E35⟩
  refine AWp.condK fun A36 B37 ga38 gb39 => ?_
  rcases ite_some hm with ⟨hc40, hm41⟩ | ⟨hc40, hm42⟩
  · clear hm
    simp [E35, hc40]
    apply ga38
    refine AWp.sr [] fun K43 hk44 => ?_
    simp [E35, hc40]
    apply hk44
    refine AWp.ret ?_
    apply nr11
    obtain rfl := Option.some.inj hm41
    simp [retQ, E35, hc40]
  clear hm
  simp [E35, hc40]
  apply gb39
  refine AWp.seqP (fun fr h => H = h ∧ (fr.env 3 = AV.sc (.int .i64 a0) ∧ fr.env 9 = AV.sc (.bool (sel (ieq a0 2) true (sel (ieq a0 5) true (sel (ieq a0 11) true (ieq a0 12))))))) (fun K45 hk46 => ?_) ?_
  · refine AWp.sr [] fun K47 hk48 => ?_
    simp [E35, hc40]
    apply hk48
    refine AWp.condK fun A49 B50 ga51 gb52 => ?_
    rcases Bool.eq_false_or_eq_true (ieq a0 2) with hc53 | hc53
    · simp [E35, hc40, hc53]
      apply ga51
      refine AWp.skip ?_
      refine hk46 _ _ ⟨?_, ⟨?_, ?_⟩⟩ <;> first | rfl | simp [E35, hc40, hc53]
    simp [E35, hc40, hc53]
    apply gb52
    refine AWp.sr [] fun K54 hk55 => ?_
    simp [E35, hc40, hc53]
    apply hk55
    refine AWp.condK fun A56 B57 ga58 gb59 => ?_
    rcases Bool.eq_false_or_eq_true (ieq a0 5) with hc60 | hc60
    · simp [E35, hc40, hc53, hc60]
      apply ga58
      refine AWp.skip ?_
      refine hk46 _ _ ⟨?_, ⟨?_, ?_⟩⟩ <;> first | rfl | simp [E35, hc40, hc53, hc60]
    simp [E35, hc40, hc53, hc60]
    apply gb59
    refine AWp.sr [] fun K61 hk62 => ?_
    simp [E35, hc40, hc53, hc60]
    apply hk62
    refine AWp.condK fun A63 B64 ga65 gb66 => ?_
    rcases Bool.eq_false_or_eq_true (ieq a0 11) with hc67 | hc67
    · simp [E35, hc40, hc53, hc60, hc67]
      apply ga65
      refine AWp.skip ?_
      refine hk46 _ _ ⟨?_, ⟨?_, ?_⟩⟩ <;> first | rfl | simp [E35, hc40, hc53, hc60, hc67]
    simp [E35, hc40, hc53, hc60, hc67]
    apply gb66
    refine AWp.region [] (by decide +kernel) ?_
    simp [E35, hc40, hc53, hc60, hc67]
    refine hk46 _ _ ⟨?_, ⟨?_, ?_⟩⟩ <;> first | rfl | simp [E35, hc40, hc53, hc60, hc67]
  rintro fr68 h68 ⟨rfl, E68⟩
  refine AWp.condK fun A69 B70 ga71 gb72 => ?_
  rcases ite_some hm42 with ⟨hc73, hm74⟩ | ⟨hc73, hm75⟩
  · clear hm42
    simp [E68, hc40, hc73]
    apply ga71
    refine AWp.sr [] fun K76 hk77 => ?_
    simp [E68, hc40, hc73]
    apply hk77
    refine AWp.ret ?_
    apply nr11
    obtain rfl := Option.some.inj hm74
    simp [retQ, E68, hc40, hc73]
  clear hm42
  simp [E68, hc40, hc73]
  apply gb72
  refine AWp.seqP (fun fr h => H = h ∧ (fr.env 3 = AV.sc (.int .i64 a0) ∧ fr.env 14 = AV.sc (.bool (sel (ieq a0 3) true (sel (ieq a0 8) true (ieq a0 10)))))) (fun K78 hk79 => ?_) ?_
  · refine AWp.sr [] fun K80 hk81 => ?_
    simp [E68, hc40, hc73]
    apply hk81
    refine AWp.condK fun A82 B83 ga84 gb85 => ?_
    rcases Bool.eq_false_or_eq_true (ieq a0 3) with hc86 | hc86
    · simp [E68, hc40, hc73, hc86]
      apply ga84
      refine AWp.skip ?_
      refine hk79 _ _ ⟨?_, ⟨?_, ?_⟩⟩ <;> first | rfl | simp [E68, hc40, hc73, hc86]
    simp [E68, hc40, hc73, hc86]
    apply gb85
    refine AWp.sr [] fun K87 hk88 => ?_
    simp [E68, hc40, hc73, hc86]
    apply hk88
    refine AWp.condK fun A89 B90 ga91 gb92 => ?_
    rcases Bool.eq_false_or_eq_true (ieq a0 8) with hc93 | hc93
    · simp [E68, hc40, hc73, hc86, hc93]
      apply ga91
      refine AWp.skip ?_
      refine hk79 _ _ ⟨?_, ⟨?_, ?_⟩⟩ <;> first | rfl | simp [E68, hc40, hc73, hc86, hc93]
    simp [E68, hc40, hc73, hc86, hc93]
    apply gb92
    refine AWp.region [] (by decide +kernel) ?_
    simp [E68, hc40, hc73, hc86, hc93]
    refine hk79 _ _ ⟨?_, ⟨?_, ?_⟩⟩ <;> first | rfl | simp [E68, hc40, hc73, hc86, hc93]
  rintro fr94 h94 ⟨rfl, E94⟩
  refine AWp.condK fun A95 B96 ga97 gb98 => ?_
  rcases ite_some hm75 with ⟨hc99, hm100⟩ | ⟨hc99, hm101⟩
  · clear hm75
    simp [E94, hc40, hc73, hc99]
    apply ga97
    refine AWp.sr [] fun K102 hk103 => ?_
    simp [E94, hc40, hc73, hc99]
    apply hk103
    refine AWp.ret ?_
    apply nr11
    obtain rfl := Option.some.inj hm100
    simp [retQ, E94, hc40, hc73, hc99]
  clear hm75
  simp [E94, hc40, hc73, hc99]
  apply gb98
  refine AWp.seqP (fun fr h => H = h ∧ fr.env 18 = AV.sc (.bool (sel (ieq a0 6) true (ieq a0 9)))) (fun K104 hk105 => ?_) ?_
  · refine AWp.sr [] fun K106 hk107 => ?_
    simp [E94, hc40, hc73, hc99]
    apply hk107
    refine AWp.condK fun A108 B109 ga110 gb111 => ?_
    rcases Bool.eq_false_or_eq_true (ieq a0 6) with hc112 | hc112
    · simp [E94, hc40, hc73, hc99, hc112]
      apply ga110
      refine AWp.skip ?_
      refine hk105 _ _ ⟨?_, ?_⟩ <;> first | rfl | simp [E94, hc40, hc73, hc99, hc112]
    simp [E94, hc40, hc73, hc99, hc112]
    apply gb111
    refine AWp.region [] (by decide +kernel) ?_
    simp [E94, hc40, hc73, hc99, hc112]
    refine hk105 _ _ ⟨?_, ?_⟩ <;> first | rfl | simp [E94, hc40, hc73, hc99, hc112]
  rintro fr113 h113 ⟨rfl, E113⟩
  refine AWp.condK fun A114 B115 ga116 gb117 => ?_
  rcases ite_some hm101 with ⟨hc118, hm119⟩ | ⟨hc118, hm120⟩
  · clear hm101
    simp [E113, hc40, hc73, hc99, hc118]
    apply ga116
    refine AWp.sr [] fun K121 hk122 => ?_
    simp [E113, hc40, hc73, hc99, hc118]
    apply hk122
    refine AWp.ret ?_
    apply nr11
    obtain rfl := Option.some.inj hm119
    simp [retQ, E113, hc40, hc73, hc99, hc118]
  clear hm101
  simp [E113, hc40, hc73, hc99, hc118]
  apply gb117
  refine AWp.skip ?_
  apply nn8
  apply hk4
  refine AWp.sr [] fun K123 hk124 => ?_
  simp [E113, hc40, hc73, hc99, hc118]
  apply hk124
  refine AWp.ret ?_
  obtain rfl := Option.some.inj hm120
  simp [retQ, E113, hc40, hc73, hc99, hc118]

theorem enters103 : entersB Tryd.prog 103 = true := by kernel_rfl

theorem r_ref01_Zero (T : Tabs) {H : Heap} {a0 : Ty} {r0 : Bool} (hm : ref01_Zero a0 = some r0) : ACall Tryd.prog T 103 [Ty.av a0] H (AV.sc (.bool r0)) H := by
  rw [ref01_Zero] at hm
  refine ACallP.intro (fn := Tryd.f103) Tryd.func103 rfl enters103 (Nat.le_of_ble_eq_true rfl) ?_
  refine AWp.sr [] fun K1 hk2 => ?_
  simp
  apply hk2
  refine AWp.seqP (fun fr h => H = h ∧ fr.env 2 = AV.sc (.bool (sel (ieq a0.kind 0) (ieq (llen a0.args) 0) false))) (fun K3 hk4 => ?_) ?_
  rotate_left
  · rintro fr5 h5 ⟨rfl, E5⟩
    refine AWp.ret ?_
    obtain rfl := Option.some.inj hm
    simp [retQ, E5]
  refine AWp.region [] (by decide +kernel) ?_
  rcases Bool.eq_false_or_eq_true (ieq a0.kind 0) with hc6 | hc6
  · simp [hc6]
    refine hk4 _ _ ⟨?_, ?_⟩ <;> first | rfl | simp [hc6]
  simp [hc6]
  refine hk4 _ _ ⟨?_, ?_⟩ <;> first | rfl | simp [hc6]

theorem enters87 : entersB Tryd.prog 87 = true := by kernel_rfl

theorem rg_ref02_Shape (T : Tabs) : ∀ (n : Nat), (∀ {H : Heap} {a0 : Tm} {r0 : Bool} (hm : ref02_Shape n a0 = some r0), ACall Tryd.prog T 87 [Tm.av a0] H (AV.sc (.bool r0)) H) := by
  intro n
  induction n with
  | zero =>
    skip
    all_goals
      intros
      rename_i hm
      cases hm
  | succ n ih =>
    intro H a0 r0 hm
    rw [ref02_Shape] at hm
    refine ACallP.intro (fn := Tryd.f87) Tryd.func87 rfl enters87 (Nat.le_of_ble_eq_true rfl) ?_
    refine AWp.sr [] fun K1 hk2 => ?_
    simp
    apply hk2
    refine AWp.seqK fun K3 hk4 => ?_
    obtain ⟨j5, hj6, hm7⟩ := joinB_some hm
    clear hm
    refine AWp.seqP (fun fr h => ∃ (v8 : Bool) (g1_23 : Nat), H = h ∧ (fr.env 1 = AV.lptr 1 g1_23 0 ∧ fr.env 26 = AV.sc (.bool v8) ∧ fr.gen 1 = g1_23 ∧ fr.box 1 = some [AV.sc (.int .i64 a0.kind), AV.sc (.int .i64 a0.index), AV.sc (.int .i64 a0.typeF.kind), AV.slice .frz (List.map Ty.av a0.typeF.args), AV.slice .frz (List.map Tm.av a0.args)]) ∧ j5 v8 = some r0) (fun K9 hk10 => ?_) ?_
    · refine AWp.regionD [] false mixed (by decide +kernel) (by decide +kernel) ?_
      obtain ⟨x11, hx12, hm13⟩ := bind1_some hm7
      clear hm7
      try dsimp only at hm13
      simp
      refine CallAtD.fn (r_ref02_args T hx12) (by simp) ?_
      rcases ite_some hm13 with ⟨hc14, hm15⟩ | ⟨hc14, hm16⟩
      · clear hm13
        simp [hc14]
        refine hk10 _ _ ⟨true, 1, ?_, ⟨?_, ?_, ?_, ?_⟩, hm15⟩ <;> first | rfl | simp [hc14]
      clear hm13
      rcases ite_some hm16 with ⟨hc17, hm18⟩ | ⟨hc17, hm19⟩
      · clear hm16
        simp [hc14, hc17]
        refine hk10 _ _ ⟨true, 1, ?_, ⟨?_, ?_, ?_, ?_⟩, hm18⟩ <;> first | rfl | simp [hc14, hc17]
      clear hm16
      rcases ite_some hm19 with ⟨hc20, hm21⟩ | ⟨hc20, hm22⟩
      rotate_left
      · clear hm19
        simp [hc14, hc17, hc20]
        refine hk10 _ _ ⟨false, 1, ?_, ⟨?_, ?_, ?_, ?_⟩, hm22⟩ <;> first | rfl | simp [hc14, hc17, hc20]
      clear hm19
      simp [hc14, hc17, hc20]
      refine hk10 _ _ ⟨(ine a0.index 0), 1, ?_, ⟨?_, ?_, ?_, ?_⟩, hm21⟩ <;> first | rfl | simp [hc14, hc17, hc20]
    clear hm7
    rintro fr23 h23 ⟨v8, g1_23, rfl, E23, hm24⟩
    subst hj6
    refine AWp.condK fun A25 B26 ga27 gb28 => ?_
    rcases ite_some hm24 with ⟨hc29, hm30⟩ | ⟨hc29, hm31⟩
    · clear hm24
      simp [E23, hc29]
      apply ga27
      refine AWp.sr [] fun K32 hk33 => ?_
      simp [E23, hc29]
      apply hk33
      refine AWp.ret ?_
      obtain rfl := Option.some.inj hm30
      simp [retQ, E23, hc29]
    clear hm24
    simp [E23, hc29]
    apply gb28
    refine AWp.skip ?_
    apply hk4
    obtain ⟨j34, hj35, hm36⟩ := joinB_some hm31
    clear hm31
    refine AWp.seqP (fun fr h => ∃ (g1_98 : Nat), H = h ∧ (fr.env 1 = AV.lptr 1 g1_98 0 ∧ fr.gen 1 = g1_98 ∧ fr.box 1 = some [AV.sc (.int .i64 a0.kind), AV.sc (.int .i64 a0.index), AV.sc (.int .i64 a0.typeF.kind), AV.slice .frz (List.map Ty.av a0.typeF.args), AV.slice .frz (List.map Tm.av a0.args)]) ∧ j34 = some r0) (fun K37 hk38 => ?_) ?_
    · refine AWp.sr [] fun K39 hk40 => ?_
      simp [E23, hc29]
      apply hk40
      refine AWp.blockK fun Q41 nn42 ne43 nx44 nr45 => ?_
      refine AWp.seqP (fun fr h => ∃ (g1_62 : Nat), H = h ∧ (fr.env 1 = AV.lptr 1 g1_62 0 ∧ fr.env 33 = AV.sc (.bool (sel (ieq a0.kind 2) true (sel (ieq a0.kind 6) true (ieq a0.kind 9)))) ∧ fr.gen 1 = g1_62 ∧ fr.box 1 = some [AV.sc (.int .i64 a0.kind), AV.sc (.int .i64 a0.index), AV.sc (.int .i64 a0.typeF.kind), AV.slice .frz (List.map Ty.av a0.typeF.args), AV.slice .frz (List.map Tm.av a0.args)])) (fun K46 hk47 => ?_) ?_
      · refine AWp.sr [] fun K48 hk49 => ?_
        simp [E23, hc29]
        apply hk49
        refine AWp.condK fun A50 B51 ga52 gb53 => ?_
        rcases Bool.eq_false_or_eq_true (ieq a0.kind 2) with hc54 | hc54
        · simp [E23, hc29, hc54]
          apply ga52
          refine AWp.skip ?_
          refine hk47 _ _ ⟨g1_23, ?_, ⟨?_, ?_, ?_, ?_⟩⟩ <;> first | rfl | simp [E23, hc29, hc54]
        simp [E23, hc29, hc54]
        apply gb53
        refine AWp.sr [] fun K55 hk56 => ?_
        simp [E23, hc29, hc54]
        apply hk56
        refine AWp.condK fun A57 B58 ga59 gb60 => ?_
        rcases Bool.eq_false_or_eq_true (ieq a0.kind 6) with hc61 | hc61
        · simp [E23, hc29, hc54, hc61]
          apply ga59
          refine AWp.skip ?_
          refine hk47 _ _ ⟨g1_23, ?_, ⟨?_, ?_, ?_, ?_⟩⟩ <;> first | rfl | simp [E23, hc29, hc54, hc61]
        simp [E23, hc29, hc54, hc61]
        apply gb60
        refine AWp.region [] (by decide +kernel) ?_
        simp [E23, hc29, hc54, hc61]
        refine hk47 _ _ ⟨g1_23, ?_, ⟨?_, ?_, ?_, ?_⟩⟩ <;> first | rfl | simp [E23, hc29, hc54, hc61]
      rintro fr62 h62 ⟨g1_62, rfl, E62⟩
      refine AWp.condK fun A63 B64 ga65 gb66 => ?_
      rcases ite_some hm36 with ⟨hc67, hm68⟩ | ⟨hc67, hm69⟩
      rotate_left
      · clear hm36
        simp [E62, hc29, hc67]
        apply gb66
        refine AWp.sr [] fun K70 hk71 => ?_
        obtain ⟨x72, hx73, hm74⟩ := bind1_some hm69
        clear hm69
        try dsimp only at hm74
        simp [E62, hc29, hc67]
        refine CallAt.fn (r_ref01_Zero T hx73) ?_
        simp [E62, hc29, hc67]
        apply hk71
        refine AWp.condK fun A75 B76 ga77 gb78 => ?_
        rcases ite_some hm74 with ⟨hc79, hm80⟩ | ⟨hc79, hm81⟩
        · clear hm74
          simp [E62, hc29, hc67, hc79]
          apply gb78
          refine AWp.skip ?_
          apply nn42
          refine hk38 _ _ ⟨g1_62, ?_, ⟨?_, ?_, ?_⟩, hm80⟩ <;> first | rfl | simp [E62, hc29, hc67, hc79]
        clear hm74
        simp [E62, hc29, hc67, hc79]
        apply ga77
        refine AWp.sr [] fun K82 hk83 => ?_
        simp [E62, hc29, hc67, hc79]
        apply hk83
        refine AWp.ret ?_
        apply nr45
        obtain rfl := Option.some.inj hm81
        simp [retQ, E62, hc29, hc67, hc79]
      clear hm36
      simp [E62, hc29, hc67]
      apply ga65
      refine AWp.sr [] fun K84 hk85 => ?_
      obtain ⟨x86, hx87, hm88⟩ := bind1_some hm68
      clear hm68
      try dsimp only at hm88
      simp [E62, hc29, hc67]
      refine CallAt.fn (r_ref01_Check T hx87) ?_
      simp [E62, hc29, hc67]
      apply hk85
      refine AWp.condK fun A89 B90 ga91 gb92 => ?_
      rcases ite_some hm88 with ⟨hc93, hm94⟩ | ⟨hc93, hm95⟩
      rotate_left
      · clear hm88
        simp [E62, hc29, hc67, hc93]
        apply gb92
        refine AWp.skip ?_
        apply nn42
        refine hk38 _ _ ⟨g1_62, ?_, ⟨?_, ?_, ?_⟩, hm95⟩ <;> first | rfl | simp [E62, hc29, hc67, hc93]
      clear hm88
      simp [E62, hc29, hc67, hc93]
      apply ga91
      refine AWp.sr [] fun K96 hk97 => ?_
      simp [E62, hc29, hc67, hc93]
      apply hk97
      refine AWp.ret ?_
      apply nr45
      obtain rfl := Option.some.inj hm94
      simp [retQ, E62, hc29, hc67, hc93]
    clear hm36
    rintro fr98 h98 ⟨g1_98, rfl, E98, hm99⟩
    subst hj35
    refine AWp.seqK fun K100 hk101 => ?_
    refine AWp.sr [] fun K102 hk103 => ?_
    simp [E98, hc29]
    apply hk103
    obtain ⟨hok104, hm105⟩ := chk_some hm99
    clear hm99
    obtain ⟨F106, hF107, hm108⟩ := joinB_some hm105
    clear hm105
    try dsimp only at hm108
    obtain ⟨out109, hl110, hmB111⟩ := bind1_some hm108
    clear hm108
    refine AWp.blockK fun Q112 nn113 ne114 nx115 nr116 => ?_
    refine AWp.loopF (fun n117 fr h => ∃ (i118 : Nat) (j119 : Int), H = h ∧ (fr.env 42 = AV.slice .frz (List.map Tm.av a0.args) ∧ fr.env 43 = AV.sc (.int .i64 (llen a0.args)) ∧ fr.env 44 = AV.sc (.int .i64 j119)) ∧ j119 = (i118 : Int) ∧ i118 + n117 = List.length a0.args ∧ forR F106 (List.drop i118 a0.args) i118 () = some out109) (List.length a0.args) ?_ ?_
    · refine ⟨0, 0, ?_, ⟨?_, ?_, ?_⟩, rfl, (by simp), hl110⟩ <;> first | rfl | simp [E98, hc29]
    rintro n117 fr120 h120 ⟨i118, j119, rfl, E120, hj121, hi122, hl110⟩ K123 hK124
    rcases n117 with _ | n117
    · have hlt125 := ilt_notJ (l := a0.args) hj121 (by omega)
      refine AWp.sr [] fun K126 hk127 => ?_
      simp [E120, hlt125, hc29]
      apply hk127
      refine AWp.seqK fun K128 hk129 => ?_
      refine AWp.condK fun A130 B131 ga132 gb133 => ?_
      simp [E120, hlt125, hc29]
      apply gb133
      refine AWp.exit ?_
      apply ne114
      rw [List.drop_eq_nil_of_le (by omega), forR_nil] at hl110
      obtain rfl := Option.some.inj hl110
      rw [sumK_inl] at hmB111
      try dsimp only at hmB111
      apply hk101
      refine AWp.sr [] fun K134 hk135 => ?_
      simp [E120, hlt125, hc29]
      apply hk135
      refine AWp.ret ?_
      obtain rfl := Option.some.inj hmB111
      simp [retQ, E120, hlt125, hc29]
    have hlt125 := ilt_ofJ (l := a0.args) hj121 (by omega)
    obtain ⟨x136, hdn117, hg137⟩ := drop_ltJ (l := a0.args) hj121 (by omega)
    rw [hdn117, forR_cons] at hl110
    obtain ⟨c138, hb139, hk140⟩ := bind1_some hl110
    clear hl110
    rw [hF107, ← hj121] at hb139
    try dsimp only at hb139
    refine AWp.sr [] fun K141 hk142 => ?_
    simp [E120, hlt125, hg137, hc29]
    apply hk142
    refine AWp.seqK fun K143 hk144 => ?_
    refine AWp.condK fun A145 B146 ga147 gb148 => ?_
    simp [E120, hlt125, hg137, hc29]
    apply ga147
    refine AWp.skip ?_
    apply hk144
    refine AWp.seqK fun K149 hk150 => ?_
    refine AWp.blockK fun Q151 nn152 ne153 nx154 nr155 => ?_
    refine AWp.sr [] fun K156 hk157 => ?_
    simp [E120, hlt125, hg137, hc29]
    apply hk157
    refine AWp.sr [] fun K158 hk159 => ?_
    obtain ⟨x160, hx161, hm162⟩ := bind1_some hb139
    clear hb139
    try dsimp only at hm162
    simp [E120, hlt125, hg137, hc29]
    refine CallAt.fn (ih hx161) ?_
    simp [E120, hlt125, hg137, hc29]
    apply hk159
    refine AWp.condK fun A163 B164 ga165 gb166 => ?_
    rcases ite_some hm162 with ⟨hc167, hm168⟩ | ⟨hc167, hm169⟩
    rotate_left
    · clear hm162
      simp [E120, hlt125, hg137, hc29, hc167]
      apply ga165
      refine AWp.sr [] fun K170 hk171 => ?_
      simp [E120, hlt125, hg137, hc29, hc167]
      apply hk171
      refine AWp.ret ?_
      apply nr155
      apply nr116
      obtain rfl := Option.some.inj hm169
      rw [ctlK_ret] at hk140
      obtain rfl := Option.some.inj hk140
      rw [sumK_inr] at hmB111
      try dsimp only at hmB111
      obtain rfl := Option.some.inj hmB111
      simp [retQ, E120, hlt125, hg137, hc29, hc167]
    clear hm162
    simp [E120, hlt125, hg137, hc29, hc167]
    apply gb166
    refine AWp.skip ?_
    apply nn152
    apply hk150
    refine AWp.region [] (by decide +kernel) ?_
    simp [E120, hlt125, hg137, hc29, hc167]
    obtain rfl := Option.some.inj hm168
    rw [ctlK_next] at hk140
    refine hK124 _ _ n117 (Nat.lt_succ_self _) ⟨(i118 + 1), (iadd .i64 j119 1), ?_, ⟨?_, ?_, ?_⟩, (iadd_idxJ hj121 (by omega) hok104), (by omega), hk140⟩ <;> first | rfl | simp [E120, hlt125, hg137, hc29, hc167]
theorem r_ref02_Shape (T : Tabs) {H : Heap} {a0 : Tm} {r0 : Bool} {n : Nat} (hm : ref02_Shape n a0 = some r0) : ACall Tryd.prog T 87 [Tm.av a0] H (AV.sc (.bool r0)) H := (rg_ref02_Shape T n) hm

theorem enters69 : entersB Tryd.prog 69 = true := by kernel_rfl

theorem rg_ref02_Count (T : Tabs) : ∀ (n : Nat), (∀ {H : Heap} {a0 : Tm} {r0 : Int} (hm : ref02_Count n a0 = some r0), ACall Tryd.prog T 69 [Tm.av a0] H (AV.sc (.int .i64 r0)) H) := by
  intro n
  induction n with
  | zero =>
    skip
    all_goals
      intros
      rename_i hm
      cases hm
  | succ n ih =>
    intro H a0 r0 hm
    rw [ref02_Count] at hm
    refine ACallP.intro (fn := Tryd.f69) Tryd.func69 rfl enters69 (Nat.le_of_ble_eq_true rfl) ?_
    refine AWp.sr [] fun K1 hk2 => ?_
    simp
    apply hk2
    refine AWp.sr [] fun K3 hk4 => ?_
    simp
    apply hk4
    refine AWp.seqK fun K5 hk6 => ?_
    refine AWp.sr [] fun K7 hk8 => ?_
    simp
    apply hk8
    obtain ⟨hok9, hm10⟩ := chk_some hm
    clear hm
    obtain ⟨F11, hF12, hm13⟩ := joinB_some hm10
    clear hm10
    try dsimp only at hm13
    obtain ⟨out14, hl15, hmB16⟩ := bind1_some hm13
    clear hm13
    refine AWp.blockK fun Q17 nn18 ne19 nx20 nr21 => ?_
    refine AWp.loopF (fun n22 fr h => ∃ (i23 : Nat) (j24 : Int) (v25 : Int), H = h ∧ (fr.env 3 = AV.sc (.int .i64 v25) ∧ fr.env 7 = AV.slice .frz (List.map Tm.av a0.args) ∧ fr.env 8 = AV.sc (.int .i64 (llen a0.args)) ∧ fr.env 9 = AV.sc (.int .i64 j24)) ∧ j24 = (i23 : Int) ∧ i23 + n22 = List.length a0.args ∧ forR F11 (List.drop i23 a0.args) i23 v25 = some out14) (List.length a0.args) ?_ ?_
    · refine ⟨0, 0, 1, ?_, ⟨?_, ?_, ?_, ?_⟩, rfl, (by simp), hl15⟩ <;> first | rfl | simp
    rintro n22 fr26 h26 ⟨i23, j24, v25, rfl, E26, hj27, hi28, hl15⟩ K29 hK30
    rcases n22 with _ | n22
    · have hlt31 := ilt_notJ (l := a0.args) hj27 (by omega)
      refine AWp.sr [] fun K32 hk33 => ?_
      simp [E26, hlt31]
      apply hk33
      refine AWp.seqK fun K34 hk35 => ?_
      refine AWp.condK fun A36 B37 ga38 gb39 => ?_
      simp [E26, hlt31]
      apply gb39
      refine AWp.exit ?_
      apply ne19
      rw [List.drop_eq_nil_of_le (by omega), forR_nil] at hl15
      obtain rfl := Option.some.inj hl15
      rw [sumK_inl] at hmB16
      try dsimp only at hmB16
      apply hk6
      refine AWp.sr [] fun K40 hk41 => ?_
      simp [E26, hlt31]
      apply hk41
      refine AWp.ret ?_
      obtain rfl := Option.some.inj hmB16
      simp [retQ, E26, hlt31]
    have hlt31 := ilt_ofJ (l := a0.args) hj27 (by omega)
    obtain ⟨x42, hdn22, hg43⟩ := drop_ltJ (l := a0.args) hj27 (by omega)
    rw [hdn22, forR_cons] at hl15
    obtain ⟨c44, hb45, hk46⟩ := bind1_some hl15
    clear hl15
    rw [hF12, ← hj27] at hb45
    try dsimp only at hb45
    refine AWp.sr [] fun K47 hk48 => ?_
    simp [E26, hlt31, hg43]
    apply hk48
    refine AWp.seqK fun K49 hk50 => ?_
    refine AWp.condK fun A51 B52 ga53 gb54 => ?_
    simp [E26, hlt31, hg43]
    apply ga53
    refine AWp.skip ?_
    apply hk50
    refine AWp.seqK fun K55 hk56 => ?_
    refine AWp.blockK fun Q57 nn58 ne59 nx60 nr61 => ?_
    refine AWp.sr [] fun K62 hk63 => ?_
    simp [E26, hlt31, hg43]
    apply hk63
    refine AWp.region [] (by decide +kernel) ?_
    obtain ⟨x64, hx65, hm66⟩ := bind1_some hb45
    clear hb45
    try dsimp only at hm66
    simp [E26, hlt31, hg43]
    refine CallAt.fn (ih hx65) ?_
    simp [E26, hlt31, hg43]
    apply nn58
    apply hk56
    refine AWp.region [] (by decide +kernel) ?_
    simp [E26, hlt31, hg43]
    obtain rfl := Option.some.inj hm66
    rw [ctlK_next] at hk46
    refine hK30 _ _ n22 (Nat.lt_succ_self _) ⟨(i23 + 1), (iadd .i64 j24 1), (iadd .i64 v25 x64), ?_, ⟨?_, ?_, ?_, ?_⟩, (iadd_idxJ hj27 (by omega) hok9), (by omega), hk46⟩ <;> first | rfl | simp [E26, hlt31, hg43]
theorem r_ref02_Count (T : Tabs) {H : Heap} {a0 : Tm} {r0 : Int} {n : Nat} (hm : ref02_Count n a0 = some r0) : ACall Tryd.prog T 69 [Tm.av a0] H (AV.sc (.int .i64 r0)) H := (rg_ref02_Count T n) hm

theorem enters58 : entersB Tryd.prog 58 = true := by kernel_rfl

theorem r_ref02_Check (T : Tabs) {H : Heap} {a0 : Tm} {r0 : Int} (hm : ref02_Check a0 = some r0) : ACall Tryd.prog T 58 [Tm.av a0] H (AV.sc (.int .i64 r0)) H := by
  rw [ref02_Check] at hm
  refine ACallP.intro (fn := Tryd.f58) Tryd.func58 rfl enters58 (Nat.le_of_ble_eq_true rfl) ?_
  refine AWp.sr [] fun K1 hk2 => ?_
  simp
  apply hk2
  refine AWp.seqK fun K3 hk4 => ?_
  refine AWp.sr [] fun K5 hk6 => ?_
  obtain ⟨x7, hx8, hm9⟩ := bind1_some hm
  clear hm
  try dsimp only at hm9
  simp
  refine CallAt.fn (r_ref02_Shape T hx8) ?_
  simp
  apply hk6
  refine AWp.condK fun A10 B11 ga12 gb13 => ?_
  rcases ite_some hm9 with ⟨hc14, hm15⟩ | ⟨hc14, hm16⟩
  rotate_left
  · clear hm9
    simp [hc14]
    apply ga12
    refine AWp.sr [] fun K17 hk18 => ?_
    simp [hc14]
    apply hk18
    refine AWp.ret ?_
    obtain rfl := Option.some.inj hm16
    simp [retQ, hc14]
  clear hm9
  simp [hc14]
  apply gb13
  refine AWp.skip ?_
  apply hk4
  refine AWp.seqK fun K19 hk20 => ?_
  refine AWp.sr [] fun K21 hk22 => ?_
  obtain ⟨x23, hx24, hm25⟩ := bind1_some hm15
  clear hm15
  try dsimp only at hm25
  simp [hc14]
  refine CallAt.fn (r_ref02_Count T hx24) ?_
  simp [hc14]
  apply hk22
  refine AWp.condK fun A26 B27 ga28 gb29 => ?_
  rcases ite_some hm25 with ⟨hc30, hm31⟩ | ⟨hc30, hm32⟩
  · clear hm25
    simp [hc14, hc30]
    apply ga28
    refine AWp.sr [] fun K33 hk34 => ?_
    simp [hc14, hc30]
    apply hk34
    refine AWp.ret ?_
    obtain rfl := Option.some.inj hm31
    simp [retQ, hc14, hc30]
  clear hm25
  simp [hc14, hc30]
  apply gb29
  refine AWp.skip ?_
  apply hk20
  refine AWp.sr [] fun K35 hk36 => ?_
  simp [hc14, hc30]
  apply hk36
  refine AWp.ret ?_
  obtain rfl := Option.some.inj hm32
  simp [retQ, hc14, hc30]

theorem enters101 : entersB Tryd.prog 101 = true := by kernel_rfl

theorem r_ref02_ok (T : Tabs) {H : Heap} {a0 : Ty} {r0 : Ty} {r1 : Int} (hm : ref02_ok a0 = some (r0, r1)) : ACall Tryd.prog T 101 [Ty.av a0] H (AV.tuple [Ty.av r0, AV.sc (.int .i64 r1)]) H := by
  rw [ref02_ok] at hm
  refine ACallP.intro (fn := Tryd.f101) Tryd.func101 rfl enters101 (Nat.le_of_ble_eq_true rfl) ?_
  refine AWp.sr [] fun K1 hk2 => ?_
  simp
  apply hk2
  refine AWp.seqK fun K3 hk4 => ?_
  refine AWp.sr [] fun K5 hk6 => ?_
  obtain ⟨x7, hx8, hm9⟩ := bind1_some hm
  clear hm
  try dsimp only at hm9
  simp
  refine CallAt.fn (r_ref01_Check T hx8) ?_
  simp
  apply hk6
  refine AWp.condK fun A10 B11 ga12 gb13 => ?_
  rcases ite_some hm9 with ⟨hc14, hm15⟩ | ⟨hc14, hm16⟩
  · clear hm9
    simp [hc14]
    apply ga12
    refine AWp.sr [] fun K17 hk18 => ?_
    simp [hc14]
    apply hk18
    refine AWp.ret ?_
    simp only [Option.some.injEq, Prod.mk.injEq] at hm15
    obtain ⟨rfl, rfl⟩ := hm15
    simp [retQ, hc14]
  clear hm9
  simp [hc14]
  apply gb13
  refine AWp.skip ?_
  apply hk4
  refine AWp.sr [] fun K19 hk20 => ?_
  simp [hc14]
  apply hk20
  refine AWp.ret ?_
  simp only [Option.some.injEq, Prod.mk.injEq] at hm16
  obtain ⟨rfl, rfl⟩ := hm16
  simp [retQ, hc14]

end Go.Proofs.YtnabbjnhemmkhaaDoor
