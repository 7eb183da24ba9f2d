/- The program's functions do what the models say. -/
import Derived.Test.YtnabbjnhemmkhaaDoorRR05
import Derived.Test.YtnabbjnhemmkhaaDoorRM
set_option maxRecDepth 20000
set_option maxHeartbeats 4000000
set_option linter.unusedSimpArgs false
set_option linter.unusedVariables false
namespace Go.Proofs.YtnabbjnhemmkhaaDoor
open Go Go.Abs Go.Mdl

theorem enters55 : entersB Tryd.prog 55 = true := by kernel_rfl

theorem rg_graph_Node_Normal (T : Tabs) : ∀ (n : Nat), (∀ {H : Heap} {a0 : (Option Nat)} {nh : List HC} {r0 : Bool} {nh1 : List HC} (hm : graph_Node_Normal n a0 nh = some (r0, nh1)), ACall Tryd.prog T 55 [pav (List.length H) a0] (H ++ hmap (List.length H) nh) (AV.sc (.bool r0)) (H ++ hmap (List.length H) nh1)) := by
  intro n
  induction n with
  | zero =>
    skip
    all_goals
      intros
      rename_i hm
      cases hm
  | succ n ih =>
    intro H a0 nh r0 nh1 hm
    rw [graph_Node_Normal] at hm
    refine ACallP.intro (fn := Tryd.f55) Tryd.func55 rfl enters55 (Nat.le_of_ble_eq_true rfl) ?_
    refine AWp.sr [] fun K1 hk2 => ?_
    simp
    apply hk2
    refine AWp.seqK fun K3 hk4 => ?_
    refine AWp.sr [] fun K5 hk6 => ?_
    obtain ⟨x7, hx8, hm9⟩ := bind1_some hm
    clear hm
    try dsimp only at hm9
    obtain ⟨x10, hx11, hm12⟩ := bind1_some hm9
    replace hx11 := HC.get_cgraph_Node_some hx11
    clear hm9
    try dsimp only at hm12
    simp [hx8, hx11]
    apply hk6
    refine AWp.condK fun A13 B14 ga15 gb16 => ?_
    rcases ite_some hm12 with ⟨hc17, hm18⟩ | ⟨hc17, hm19⟩
    · clear hm12
      simp [hx8, hx11, hc17]
      apply ga15
      refine AWp.sr [] fun K20 hk21 => ?_
      simp [hx8, hx11, hc17]
      apply hk21
      refine AWp.ret ?_
      simp only [Option.some.injEq, Prod.mk.injEq] at hm18
      obtain ⟨rfl, rfl⟩ := hm18
      simp [retQ, hx8, hx11, hc17]
    clear hm12
    simp [hx8, hx11, hc17]
    apply gb16
    refine AWp.skip ?_
    apply hk4
    refine AWp.seqK fun K22 hk23 => ?_
    refine AWp.sr [] fun K24 hk25 => ?_
    obtain ⟨x26, hx27, hm28⟩ := bind1_some hm19
    clear hm19
    try dsimp only at hm28
    simp [hx8, hx11, hc17]
    refine CallAt.fn (r_graph_Node_redex T (H := H) hx27) ?_
    simp [hx8, hx11, hc17]
    apply hk25
    refine AWp.condK fun A29 B30 ga31 gb32 => ?_
    rcases ite_some hm28 with ⟨hc33, hm34⟩ | ⟨hc33, hm35⟩
    · clear hm28
      simp [hx8, hx11, hc17, hc33]
      apply ga31
      refine AWp.sr [] fun K36 hk37 => ?_
      simp [hx8, hx11, hc17, hc33]
      apply hk37
      refine AWp.ret ?_
      simp only [Option.some.injEq, Prod.mk.injEq] at hm34
      obtain ⟨rfl, rfl⟩ := hm34
      simp [retQ, hx8, hx11, hc17, hc33]
    clear hm28
    simp [hx8, hx11, hc17, hc33]
    apply gb32
    refine AWp.skip ?_
    apply hk23
    refine AWp.seqK fun K38 hk39 => ?_
    refine AWp.sr [] fun K40 hk41 => ?_
    simp [hx8, hx11, hc17, hc33]
    apply hk41
    obtain ⟨hok42, hm43⟩ := chk_some hm35
    clear hm35
    obtain ⟨F44, hF45, hm46⟩ := joinB_some hm43
    clear hm43
    try dsimp only at hm46
    obtain ⟨out47, hl48, hmB49⟩ := bind1_some hm46
    clear hm46
    refine AWp.blockK fun Q50 nn51 ne52 nx53 nr54 => ?_
    refine AWp.loopF (fun n55 fr h => ∃ (i56 : Nat) (j57 : Int) (v58 : List HC), H ++ hmap (List.length H) v58 = h ∧ (fr.env 0 = pav (List.length H) a0 ∧ fr.env 14 = AV.slice .frz (List.map (pav (List.length H)) x10.args) ∧ fr.env 15 = AV.sc (.int .i64 (llen x10.args)) ∧ fr.env 16 = AV.sc (.int .i64 j57)) ∧ j57 = (i56 : Int) ∧ i56 + n55 = List.length x10.args ∧ forR F44 (List.drop i56 x10.args) i56 v58 = some out47) (List.length x10.args) ?_ ?_
    · refine ⟨0, 0, nh, ?_, ⟨?_, ?_, ?_, ?_⟩, rfl, (by simp), hl48⟩ <;> first | rfl | simp [hx8, hx11, hc17, hc33]
    rintro n55 fr59 h59 ⟨i56, j57, v58, rfl, E59, hj60, hi61, hl48⟩ K62 hK63
    rcases n55 with _ | n55
    · have hlt64 := ilt_notJ (l := x10.args) hj60 (by omega)
      refine AWp.sr [] fun K65 hk66 => ?_
      simp [E59, hx8, hx11, hlt64, hc17, hc33]
      apply hk66
      refine AWp.seqK fun K67 hk68 => ?_
      refine AWp.condK fun A69 B70 ga71 gb72 => ?_
      simp [E59, hx8, hx11, hlt64, hc17, hc33]
      apply gb72
      refine AWp.exit ?_
      apply ne52
      rw [List.drop_eq_nil_of_le (by omega), forR_nil] at hl48
      obtain rfl := Option.some.inj hl48
      rw [sumK_inl] at hmB49
      try dsimp only at hmB49
      apply hk39
      refine AWp.sr [] fun K73 hk74 => ?_
      obtain ⟨x75, hx76, hm77⟩ := bind1_some hmB49
      replace hx76 := HC.get_cgraph_Node_some hx76
      clear hmB49
      try dsimp only at hm77
      have hf78 : hset (hmap (List.length H) v58) x7 [AV.sc (.int .i64 x75.kind), AV.sc (.int .i64 x75.index), AV.sc (.int .i64 x75.typ.kind), AV.slice .frz (List.map Ty.av x75.typ.args), AV.slice .frz (List.map (pav (List.length H)) x75.args), AV.sc (.int .i64 x75.size), AV.sc (.int .i64 x75.free), AV.sc (.bool true)] = hmap (List.length H) (hput v58 x7 (HC.cgraph_Node (Sgraph_Node.mk x75.kind x75.index x75.typ x75.args x75.size x75.free true))) := hset_hmapG rfl
      have hx79 : (hput v58 x7 (HC.cgraph_Node (Sgraph_Node.mk x75.kind x75.index x75.typ x75.args x75.size x75.free true)))[x7]? = some (HC.cgraph_Node (Sgraph_Node.mk x75.kind x75.index x75.typ x75.args x75.size x75.free true)) := put_get hx76
      simp [E59, hx8, hx11, hlt64, hx76, hf78, hx79, hc17, hc33]
      apply hk74
      refine AWp.sr [] fun K80 hk81 => ?_
      simp [E59, hx8, hx11, hlt64, hx76, hf78, hx79, hc17, hc33]
      apply hk81
      refine AWp.ret ?_
      simp only [Option.some.injEq, Prod.mk.injEq] at hm77
      obtain ⟨rfl, rfl⟩ := hm77
      simp [retQ, E59, hx8, hx11, hlt64, hx76, hf78, hx79, hc17, hc33]
    have hlt64 := ilt_ofJ (l := x10.args) hj60 (by omega)
    obtain ⟨x82, hdn55, hg83⟩ := drop_ltJ (l := x10.args) hj60 (by omega)
    rw [hdn55, forR_cons] at hl48
    obtain ⟨c84, hb85, hk86⟩ := bind1_some hl48
    clear hl48
    rw [hF45, ← hj60] at hb85
    try dsimp only at hb85
    refine AWp.sr [] fun K87 hk88 => ?_
    simp [E59, hx8, hx11, hlt64, hg83, hc17, hc33]
    apply hk88
    refine AWp.seqK fun K89 hk90 => ?_
    refine AWp.condK fun A91 B92 ga93 gb94 => ?_
    simp [E59, hx8, hx11, hlt64, hg83, hc17, hc33]
    apply ga93
    refine AWp.skip ?_
    apply hk90
    refine AWp.seqK fun K95 hk96 => ?_
    refine AWp.blockK fun Q97 nn98 ne99 nx100 nr101 => ?_
    refine AWp.sr [] fun K102 hk103 => ?_
    simp [E59, hx8, hx11, hlt64, hg83, hc17, hc33]
    apply hk103
    refine AWp.sr [] fun K104 hk105 => ?_
    obtain ⟨x106, nh107, hx108, hm109⟩ := bind2_some hb85
    clear hb85
    try dsimp only at hm109
    simp [E59, hx8, hx11, hlt64, hg83, hc17, hc33]
    refine CallAt.fn (ih (H := H) hx108) ?_
    simp [E59, hx8, hx11, hlt64, hg83, hc17, hc33]
    apply hk105
    refine AWp.condK fun A110 B111 ga112 gb113 => ?_
    rcases ite_some hm109 with ⟨hc114, hm115⟩ | ⟨hc114, hm116⟩
    rotate_left
    · clear hm109
      simp [E59, hx8, hx11, hlt64, hg83, hc17, hc33, hc114]
      apply ga112
      refine AWp.sr [] fun K117 hk118 => ?_
      simp [E59, hx8, hx11, hlt64, hg83, hc17, hc33, hc114]
      apply hk118
      refine AWp.ret ?_
      apply nr101
      apply nr54
      obtain rfl := Option.some.inj hm116
      rw [ctlK_ret] at hk86
      obtain rfl := Option.some.inj hk86
      rw [sumK_inr] at hmB49
      try dsimp only at hmB49
      simp only [Option.some.injEq, Prod.mk.injEq] at hmB49
      obtain ⟨rfl, rfl⟩ := hmB49
      simp [retQ, E59, hx8, hx11, hlt64, hg83, hc17, hc33, hc114]
    clear hm109
    simp [E59, hx8, hx11, hlt64, hg83, hc17, hc33, hc114]
    apply gb113
    refine AWp.skip ?_
    apply nn98
    apply hk96
    refine AWp.region [] (by decide +kernel) ?_
    simp [E59, hx8, hx11, hlt64, hg83, hc17, hc33, hc114]
    obtain rfl := Option.some.inj hm115
    rw [ctlK_next] at hk86
    refine hK63 _ _ n55 (Nat.lt_succ_self _) ⟨(i56 + 1), (iadd .i64 j57 1), nh107, ?_, ⟨?_, ?_, ?_, ?_⟩, (iadd_idxJ hj60 (by omega) hok42), (by omega), hk86⟩ <;> first | rfl | simp [E59, hx8, hx11, hlt64, hg83, hc17, hc33, hc114]
theorem r_graph_Node_Normal (T : Tabs) {H : Heap} {a0 : (Option Nat)} {nh : List HC} {r0 : Bool} {nh1 : List HC} {n : Nat} (hm : graph_Node_Normal n a0 nh = some (r0, nh1)) : ACall Tryd.prog T 55 [pav (List.length H) a0] (H ++ hmap (List.length H) nh) (AV.sc (.bool r0)) (H ++ hmap (List.length H) nh1) := (rg_graph_Node_Normal T n) hm

theorem enters17 : entersB Tryd.prog 17 = true := by kernel_rfl

theorem r_reduce_Normal (T : Tabs) (hT : T 0 = some (AV.agg (List.map (fun n => AV.sc (Value.int .i64 n)) tree_arities))) {H : Heap} {a0 : Tm} {a1 : Int} {r0 : Tm} {r1 : Int} {r2 : Int} (hm : reduce_Normal a0 a1 = some (r0, r1, r2)) : ACall Tryd.prog T 17 [Tm.av a0, AV.sc (.int .i64 a1)] H (AV.tuple [Tm.av r0, AV.sc (.int .i64 r1), AV.sc (.int .i64 r2)]) H := by
  rw [reduce_Normal] at hm
  refine ACallP.drop0 (Post := fun x K => x = AV.tuple [Tm.av r0, AV.sc (.int .i64 r1), AV.sc (.int .i64 r2)] ∧ ∃ X, K = H ++ X) ?_ (fun _ _ h => ⟨_, h.2.choose_spec, by rw [h.1]; simp [AV.low, AV.lowL], h.1, rfl⟩)
  refine ACallP.nh0 (c := HC.cells) ?_
  refine ACallP.intro (fn := Tryd.f17) Tryd.func17 rfl enters17 (Nat.le_of_ble_eq_true rfl) ?_
  refine AWp.sr [] fun K1 hk2 => ?_
  simp [hT]
  apply hk2
  refine AWp.seqK fun K3 hk4 => ?_
  refine AWp.sr [] fun K5 hk6 => ?_
  obtain ⟨x7, hx8, hm9⟩ := bind1_some hm
  clear hm
  try dsimp only at hm9
  simp [hT]
  refine CallAt.fn (r_terms_Check T hT hx8) ?_
  simp [hT]
  apply hk6
  refine AWp.sr [] fun K10 hk11 => ?_
  simp [hT]
  apply hk11
  refine AWp.condK fun A12 B13 ga14 gb15 => ?_
  rcases ite_some hm9 with ⟨hc16, hm17⟩ | ⟨hc16, hm18⟩
  · clear hm9
    simp [hT, hc16]
    apply ga14
    refine AWp.sr [] fun K19 hk20 => ?_
    simp [hT, hc16]
    apply hk20
    refine AWp.ret ?_
    simp only [Option.some.injEq, Prod.mk.injEq] at hm17
    obtain ⟨rfl, rfl, rfl⟩ := hm17
    simp [retQ, hT, hc16]
  clear hm9
  simp [hT, hc16]
  apply gb15
  refine AWp.skip ?_
  apply hk4
  refine AWp.seqK fun K21 hk22 => ?_
  obtain ⟨j23, hj24, hm25⟩ := joinB_some hm18
  clear hm18
  refine AWp.seqP (fun fr h => ∃ (v26 : Bool) (g2_38 : Nat) (g4_38 : Nat), H ++ hmap (List.length H) ([] : List HC) = h ∧ (fr.env 1 = AV.sc (.int .i64 a1) ∧ fr.env 2 = AV.lptr 2 g2_38 0 ∧ fr.env 4 = AV.lptr 4 g4_38 0 ∧ fr.env 27 = AV.sc (.bool v26) ∧ fr.gen 2 = g2_38 ∧ fr.box 2 = some [AV.sc (.int .i64 a0.kind), AV.sc (.int .i64 a0.index), AV.sc (.int .i64 a0.typeF.kind), AV.slice .frz (List.map Ty.av a0.typeF.args), AV.slice .frz (List.map Tm.av a0.args)] ∧ fr.gen 4 = g4_38 ∧ fr.box 4 = some [AV.sc (.int .i64 0), AV.sc (.int .i64 0), AV.sc (.int .i64 0), AV.slice .full [], AV.slice .full []]) ∧ j23 v26 = some (r0, r1, r2)) (fun K27 hk28 => ?_) ?_
  · refine AWp.region [] (by decide +kernel) ?_
    rcases ite_some hm25 with ⟨hc29, hm30⟩ | ⟨hc29, hm31⟩
    · clear hm25
      simp [hT, hc16, hc29]
      refine hk28 _ _ ⟨true, 1, 1, ?_, ⟨?_, ?_, ?_, ?_, ?_, ?_, ?_, ?_⟩, hm30⟩ <;> first | rfl | simp [hT, hc16, hc29]
    clear hm25
    rcases ite_some hm31 with ⟨hc32, hm33⟩ | ⟨hc32, hm34⟩
    · clear hm31
      simp [hT, hc16, hc29, hc32]
      refine hk28 _ _ ⟨true, 1, 1, ?_, ⟨?_, ?_, ?_, ?_, ?_, ?_, ?_, ?_⟩, hm33⟩ <;> first | rfl | simp [hT, hc16, hc29, hc32]
    clear hm31
    obtain ⟨x35, hx36, hm37⟩ := bind1_some hm34
    clear hm34
    try dsimp only at hm37
    simp [hT, hc16, hc29, hc32]
    refine CallAt.fn (r_tree_Near T hx36) ?_
    simp [hT, hc16, hc29, hc32]
    refine hk28 _ _ ⟨(bnot x35), 1, 1, ?_, ⟨?_, ?_, ?_, ?_, ?_, ?_, ?_, ?_⟩, hm37⟩ <;> first | rfl | simp [hT, hc16, hc29, hc32]
  clear hm25
  rintro fr38 h38 ⟨v26, g2_38, g4_38, rfl, E38, hm39⟩
  subst hj24
  refine AWp.condK fun A40 B41 ga42 gb43 => ?_
  rcases ite_some hm39 with ⟨hc44, hm45⟩ | ⟨hc44, hm46⟩
  · clear hm39
    simp [E38, hT, hc16, hc44]
    apply ga42
    refine AWp.sr [] fun K47 hk48 => ?_
    simp [E38, hT, hc16, hc44]
    apply hk48
    refine AWp.ret ?_
    simp only [Option.some.injEq, Prod.mk.injEq] at hm45
    obtain ⟨rfl, rfl, rfl⟩ := hm45
    simp [retQ, E38, hT, hc16, hc44]
  clear hm39
  simp [E38, hT, hc16, hc44]
  apply gb43
  refine AWp.skip ?_
  apply hk22
  refine AWp.sr [32] fun K49 hk50 => ?_
  obtain ⟨x51, nh52, hx53, hm54⟩ := bind2_some hm46
  clear hm46
  try dsimp only at hm54
  simp [E38, hT, hc16, hc44]
  refine CallAt.fn (r_graph_From T (H := H) hx53) ?_
  have hf55 : hmap (List.length H) nh52 ++ [[pav (List.length H) x51, AV.sc (.int .i64 0)]] = hmap (List.length H) (nh52 ++ [HC.creduce_state (Sreduce_state.mk x51 0)]) := hmapG_app rfl
  have hx56 : (nh52 ++ [HC.creduce_state (Sreduce_state.mk x51 0)])[(List.length nh52)]? = some (HC.creduce_state (Sreduce_state.mk x51 0)) := app_get
  simp [E38, hT, hf55, hx56, hc16, hc44]
  apply hk50
  refine AWp.seqK fun K57 hk58 => ?_
  obtain ⟨F59, hF60, hm61⟩ := joinB_some hm54
  clear hm54
  try dsimp only at hm61
  obtain ⟨out62, hl63, hmB64⟩ := bind1_some hm61
  clear hm61
  refine AWp.blockK fun Q65 nn66 ne67 nx68 nr69 => ?_
  refine AWp.loopF (fun n70 fr h => ∃ (v71 : List HC) (g4_72 : Nat), H ++ hmap (List.length H) v71 = h ∧ (fr.env 1 = AV.sc (.int .i64 a1) ∧ fr.env 4 = AV.lptr 4 g4_72 0 ∧ fr.env 8 = AV.gptr (List.length H + (List.length nh52)) 0 ∧ fr.gen 4 = g4_72 ∧ fr.box 4 = some [AV.sc (.int .i64 0), AV.sc (.int .i64 0), AV.sc (.int .i64 0), AV.slice .full [], AV.slice .full []]) ∧ loopN F59 n70 v71 = some out62) FU ?_ ?_
  · refine ⟨(nh52 ++ [HC.creduce_state (Sreduce_state.mk x51 0)]), g4_38, ?_, ⟨?_, ?_, ?_, ?_, ?_⟩, hl63⟩ <;> first | rfl | simp [E38, hT, hf55, hx56, hc16, hc44]
  rintro n70 fr72 h72 ⟨v71, g4_72, rfl, E72, hl63⟩ K73 hK74
  rcases n70 with _ | n70
  · rw [loopN_zero] at hl63
    cases hl63
  rw [loopN_succ] at hl63
  obtain ⟨c75, hb76, hk77⟩ := bind1_some hl63
  clear hl63
  rw [hF60] at hb76
  try dsimp only at hb76
  refine AWp.seqK fun K78 hk79 => ?_
  refine AWp.sr [] fun K80 hk81 => ?_
  obtain ⟨x82, hx83, hm84⟩ := bind1_some hb76
  replace hx83 := HC.get_creduce_state_some hx83
  clear hb76
  try dsimp only at hm84
  simp [E72, hT, hf55, hx56, hx83, hc16, hc44]
  apply hk81
  refine AWp.condK fun A85 B86 ga87 gb88 => ?_
  rcases ite_some hm84 with ⟨hc89, hm90⟩ | ⟨hc89, hm91⟩
  rotate_left
  · clear hm84
    simp [E72, hT, hf55, hx56, hx83, hc16, hc44, hc89]
    apply gb88
    refine AWp.exit ?_
    apply ne67
    obtain rfl := Option.some.inj hm91
    rw [ctlK_brk] at hk77
    obtain rfl := Option.some.inj hk77
    rw [sumK_inl] at hmB64
    try dsimp only at hmB64
    apply hk58
    refine AWp.seqK fun K92 hk93 => ?_
    refine AWp.sr [] fun K94 hk95 => ?_
    obtain ⟨x96, hx97, hm98⟩ := bind1_some hmB64
    replace hx97 := HC.get_creduce_state_some hx97
    clear hmB64
    try dsimp only at hm98
    obtain ⟨x99, nh100, hx101, hm102⟩ := bind2_some hm98
    clear hm98
    try dsimp only at hm102
    simp [E72, hT, hf55, hx56, hx97, hc16, hc44, hc89]
    refine CallAt.fn (r_graph_Node_Normal T (H := H) hx101) ?_
    simp [E72, hT, hf55, hx56, hx97, hc16, hc44, hc89]
    apply hk95
    refine AWp.condK fun A103 B104 ga105 gb106 => ?_
    rcases ite_some hm102 with ⟨hc107, hm108⟩ | ⟨hc107, hm109⟩
    rotate_left
    · clear hm102
      simp [E72, hT, hf55, hx56, hx97, hc16, hc44, hc89, hc107]
      apply ga105
      refine AWp.sr [] fun K110 hk111 => ?_
      simp [E72, hT, hf55, hx56, hx97, hc16, hc44, hc89, hc107]
      apply hk111
      refine AWp.ret ?_
      simp only [Option.some.injEq, Prod.mk.injEq] at hm109
      obtain ⟨rfl, rfl, rfl⟩ := hm109
      simp [retQ, E72, hT, hf55, hx56, hx97, hc16, hc44, hc89, hc107]
    clear hm102
    simp [E72, hT, hf55, hx56, hx97, hc16, hc44, hc89, hc107]
    apply gb106
    refine AWp.skip ?_
    apply hk93
    refine AWp.seqK fun K112 hk113 => ?_
    refine AWp.regionD [] true mixed (by decide +kernel) (by decide +kernel) ?_
    obtain ⟨x114, hx115, hm116⟩ := bind1_some hm108
    replace hx115 := HC.get_creduce_state_some hx115
    clear hm108
    try dsimp only at hm116
    obtain ⟨x117, hx118, hm119⟩ := bind1_some hm116
    clear hm116
    try dsimp only at hm119
    simp [E72, hT, hf55, hx56, hx97, hx115, hc16, hc44, hc89, hc107]
    refine CallAtD.fn (r_graph_Node_Term T (H := H) hx118) (by simp) ?_
    simp [E72, hT, hf55, hx56, hx97, hx115, hc16, hc44, hc89, hc107]
    apply hk113
    refine AWp.ret ?_
    simp only [Option.some.injEq, Prod.mk.injEq] at hm119
    obtain ⟨rfl, rfl, rfl⟩ := hm119
    simp [retQ, E72, hT, hf55, hx56, hx97, hx115, hc16, hc44, hc89, hc107]
  clear hm84
  simp [E72, hT, hf55, hx56, hx83, hc16, hc44, hc89]
  apply ga87
  refine AWp.skip ?_
  apply hk79
  refine AWp.blockK fun Q120 nn121 ne122 nx123 nr124 => ?_
  refine AWp.sr [] fun K125 hk126 => ?_
  obtain ⟨x127, x128, nh129, hx130, hm131⟩ := bind3_some hm90
  clear hm90
  try dsimp only at hm131
  simp [E72, hT, hf55, hx56, hx83, hc16, hc44, hc89]
  refine CallAt.fn (r_reduce_state_next T (H := H) hx130) ?_
  simp [E72, hT, hf55, hx56, hx83, hc16, hc44, hc89]
  apply hk126
  refine AWp.seqK fun K132 hk133 => ?_
  refine AWp.sr [] fun K134 hk135 => ?_
  simp [E72, hT, hf55, hx56, hx83, hc16, hc44, hc89]
  apply hk135
  refine AWp.condK fun A136 B137 ga138 gb139 => ?_
  rcases ite_some hm131 with ⟨hc140, hm141⟩ | ⟨hc140, hm142⟩
  · clear hm131
    simp [E72, hT, hf55, hx56, hx83, hc16, hc44, hc89, hc140]
    apply ga138
    refine AWp.sr [] fun K143 hk144 => ?_
    simp [E72, hT, hf55, hx56, hx83, hc16, hc44, hc89, hc140]
    apply hk144
    refine AWp.ret ?_
    apply nr124
    apply nr69
    obtain rfl := Option.some.inj hm141
    rw [ctlK_ret] at hk77
    obtain rfl := Option.some.inj hk77
    rw [sumK_inr] at hmB64
    try dsimp only at hmB64
    simp only [Option.some.injEq, Prod.mk.injEq] at hmB64
    obtain ⟨rfl, rfl, rfl⟩ := hmB64
    simp [retQ, E72, hT, hf55, hx56, hx83, hc16, hc44, hc89, hc140]
  clear hm131
  simp [E72, hT, hf55, hx56, hx83, hc16, hc44, hc89, hc140]
  apply gb139
  refine AWp.skip ?_
  apply hk133
  refine AWp.sr [] fun K145 hk146 => ?_
  simp [E72, hT, hf55, hx56, hx83, hc16, hc44, hc89, hc140]
  apply hk146
  refine AWp.condK fun A147 B148 ga149 gb150 => ?_
  rcases ite_some hm142 with ⟨hc151, hm152⟩ | ⟨hc151, hm153⟩
  · clear hm142
    simp [E72, hT, hf55, hx56, hx83, hc16, hc44, hc89, hc140, hc151]
    apply gb150
    refine AWp.skip ?_
    apply nn121
    obtain rfl := Option.some.inj hm152
    rw [ctlK_next] at hk77
    refine hK74 _ _ n70 (Nat.lt_succ_self _) ⟨nh129, g4_72, ?_, ⟨?_, ?_, ?_, ?_, ?_⟩, hk77⟩ <;> first | rfl | simp [E72, hT, hf55, hx56, hx83, hc16, hc44, hc89, hc140, hc151]
  clear hm142
  simp [E72, hT, hf55, hx56, hx83, hc16, hc44, hc89, hc140, hc151]
  apply ga149
  refine AWp.seqK fun K154 hk155 => ?_
  refine AWp.regionD [] true mixed (by decide +kernel) (by decide +kernel) ?_
  obtain ⟨x156, hx157, hm158⟩ := bind1_some hm153
  replace hx157 := HC.get_creduce_state_some hx157
  clear hm153
  try dsimp only at hm158
  obtain ⟨x159, hx160, hm161⟩ := bind1_some hm158
  clear hm158
  try dsimp only at hm161
  simp [E72, hT, hf55, hx56, hx83, hx157, hc16, hc44, hc89, hc140, hc151]
  refine CallAtD.fn (r_graph_Node_Term T (H := H) hx160) (by simp) ?_
  simp [E72, hT, hf55, hx56, hx83, hx157, hc16, hc44, hc89, hc140, hc151]
  apply hk155
  refine AWp.ret ?_
  apply nr124
  apply nr69
  obtain rfl := Option.some.inj hm161
  rw [ctlK_ret] at hk77
  obtain rfl := Option.some.inj hk77
  rw [sumK_inr] at hmB64
  try dsimp only at hmB64
  simp only [Option.some.injEq, Prod.mk.injEq] at hmB64
  obtain ⟨rfl, rfl, rfl⟩ := hmB64
  simp [retQ, E72, hT, hf55, hx56, hx83, hx157, hc16, hc44, hc89, hc140, hc151]


end Go.Proofs.YtnabbjnhemmkhaaDoor
