/- The program's functions do what the models say. -/
import Derived.Test.YtnabbjnhemmkhaaDoorRR01
import Derived.Test.YtnabbjnhemmkhaaDoorRM
set_option maxRecDepth 20000
set_option maxHeartbeats 4000000
set_option linter.unusedSimpArgs false
set_option linter.unusedVariables false
namespace Go.Proofs.YtnabbjnhemmkhaaDoor
open Go Go.Abs Go.Mdl

theorem enters77 : entersB Tryd.prog 77 = true := by kernel_rfl

theorem r_tree_CheckTerm (T : Tabs) (hT : T 0 = some (AV.agg (List.map (fun n => AV.sc (Value.int .i64 n)) tree_arities))) {H : Heap} {a0 : Tm} {r0 : Int} {r1 : Int} (hm : tree_CheckTerm a0 = some (r0, r1)) : ACall Tryd.prog T 77 [Tm.av a0] H (AV.tuple [AV.sc (.int .i64 r0), AV.sc (.int .i64 r1)]) H := by
  rw [tree_CheckTerm] at hm
  refine ACallP.intro (fn := Tryd.f77) Tryd.func77 rfl enters77 (Nat.le_of_ble_eq_true rfl) ?_
  refine AWp.sr [] fun K1 hk2 => ?_
  simp [hT]
  apply hk2
  refine AWp.sr [] fun K3 hk4 => ?_
  obtain ⟨x5, x6, hx7, hm8⟩ := bind2_some hm
  clear hm
  try dsimp only at hm8
  simp [hT]
  refine CallAt.fn (r_tree_termNodes T hT hx7) ?_
  simp [hT]
  apply hk4
  refine AWp.seqK fun K9 hk10 => ?_
  refine AWp.blockK fun Q11 nn12 ne13 nx14 nr15 => ?_
  refine AWp.sr [] fun K16 hk17 => ?_
  simp [hT]
  apply hk17
  refine AWp.condK fun A18 B19 ga20 gb21 => ?_
  rcases ite_some hm8 with ⟨hc22, hm23⟩ | ⟨hc22, hm24⟩
  rotate_left
  · clear hm8
    simp [hT, hc22]
    apply ga20
    refine AWp.sr [] fun K25 hk26 => ?_
    simp [hT, hc22]
    apply hk26
    refine AWp.ret ?_
    apply nr15
    simp only [Option.some.injEq, Prod.mk.injEq] at hm24
    obtain ⟨rfl, rfl⟩ := hm24
    simp [retQ, hT, hc22]
  clear hm8
  simp [hT, hc22]
  apply gb21
  refine AWp.sr [] fun K27 hk28 => ?_
  simp [hT, hc22]
  apply hk28
  refine AWp.condK fun A29 B30 ga31 gb32 => ?_
  rcases ite_some hm23 with ⟨hc33, hm34⟩ | ⟨hc33, hm35⟩
  · clear hm23
    simp [hT, hc22, hc33]
    apply ga31
    refine AWp.sr [] fun K36 hk37 => ?_
    simp [hT, hc22, hc33]
    apply hk37
    refine AWp.ret ?_
    apply nr15
    simp only [Option.some.injEq, Prod.mk.injEq] at hm34
    obtain ⟨rfl, rfl⟩ := hm34
    simp [retQ, hT, hc22, hc33]
  clear hm23
  simp [hT, hc22, hc33]
  apply gb32
  refine AWp.skip ?_
  apply nn12
  apply hk10
  refine AWp.sr [] fun K38 hk39 => ?_
  simp [hT, hc22, hc33]
  apply hk39
  refine AWp.ret ?_
  simp only [Option.some.injEq, Prod.mk.injEq] at hm35
  obtain ⟨rfl, rfl⟩ := hm35
  simp [retQ, hT, hc22, hc33]

theorem enters50 : entersB Tryd.prog 50 = true := by kernel_rfl

theorem r_terms_Check (T : Tabs) (hT : T 0 = some (AV.agg (List.map (fun n => AV.sc (Value.int .i64 n)) tree_arities))) {H : Heap} {a0 : Tm} {r0 : Int} (hm : terms_Check a0 = some r0) : ACall Tryd.prog T 50 [Tm.av a0] H (AV.sc (.int .i64 r0)) H := by
  rw [terms_Check] at hm
  refine ACallP.intro (fn := Tryd.f50) Tryd.func50 rfl enters50 (Nat.le_of_ble_eq_true rfl) ?_
  refine AWp.sr [] fun K1 hk2 => ?_
  simp [hT]
  apply hk2
  refine AWp.sr [] fun K3 hk4 => ?_
  obtain ⟨x5, x6, hx7, hm8⟩ := bind2_some hm
  clear hm
  try dsimp only at hm8
  simp [hT]
  refine CallAt.fn (r_tree_CheckTerm T hT hx7) ?_
  simp [hT]
  apply hk4
  refine AWp.sr [] fun K9 hk10 => ?_
  simp [hT]
  apply hk10
  refine AWp.ret ?_
  obtain rfl := Option.some.inj hm8
  simp [retQ, hT]

theorem enters79 : entersB Tryd.prog 79 = true := by kernel_rfl

theorem r_tree_Near_1 (T : Tabs) {H : Heap} {a0 : Int} {a1 : Int} {cv0 : Bool} {dq0 : Bool} {q0 : Nat} (kq0 : H[q0]? = some [AV.sc (.bool cv0)]) (hm : tree_Near_1 a0 a1 cv0 = some dq0) : ACall Tryd.prog T 79 [AV.sc (.int .i64 a0), AV.sc (.int .i64 a1), AV.gptr q0 0] H (AV.tuple []) (hset H q0 [AV.sc (.bool dq0)]) := by
  rw [tree_Near_1] at hm
  have lq0 := inb_of_get kq0
  refine ACallP.at1 kq0 ?_
  refine ACallP.intro (fn := Tryd.f79) Tryd.func79 rfl enters79 (Nat.le_of_ble_eq_true rfl) ?_
  refine AWp.region [] (by decide +kernel) ?_
  rcases ite_some hm with ⟨hc1, hm2⟩ | ⟨hc1, hm3⟩
  · clear hm
    simp [lq0, hc1]
    obtain rfl := Option.some.inj hm2
    simp [retQ, lq0, hc1]
  clear hm
  simp [lq0, hc1]
  obtain rfl := Option.some.inj hm3
  simp [retQ, lq0, hc1]

theorem enters97 : entersB Tryd.prog 97 = true := by kernel_rfl

theorem rg_tree_Each_1 (T : Tabs) : ∀ (n : Nat), (∀ {S : Type} {st : S → Heap} {k : Nat} {a0 : Tm} {a1 : Int} {cv0 : (S → Int → Int → Option (S))} {s0 : S} {s1 : S} {q0 : Nat} {q1 : Nat} {gc0 : Nat} {kc0 : List AV} (hF : Fam st k) (kq0 : ∀ s, (st s)[q0]? = some [AV.func (.func gc0) [] kc0]) (hc0_ : Does98 T gc0 kc0 st cv0) (kq1 : ∀ s, (st s)[q1]? = some [AV.func (.func 97) [] [AV.gptr q0 0, AV.gptr q1 0]]) (hm : tree_Each_1 n a0 a1 cv0 s0 = some s1), ACall Tryd.prog T 97 [Tm.av a0, AV.sc (.int .i64 a1), AV.gptr q0 0, AV.gptr q1 0] (st s0) (AV.tuple []) (st s1)) := by
  intro n
  induction n with
  | zero =>
    skip
    all_goals
      intros
      rename_i hm
      cases hm
  | succ n ih =>
    intro S st k a0 a1 cv0 s1 s2 q0 q1 gc0 kc0 hF kq0 hc0_ kq1 hm
    rw [tree_Each_1] at hm
    have lq0 := fun s => inb_of_get (kq0 s)
    have lq1 := fun s => inb_of_get (kq1 s)
    refine ACallP.intro (fn := Tryd.f97) Tryd.func97 rfl enters97 (Nat.le_of_ble_eq_true rfl) ?_
    refine AWp.sr [] fun K2 hk3 => ?_
    simp [hF.len, lq0, kq0, lq1, kq1]
    apply hk3
    obtain ⟨j4, hj5, hm6⟩ := joinB_some hm
    clear hm
    refine AWp.seqP (fun fr h => ∃ (v7 : S) (g4_22 : Nat), st v7 = h ∧ (fr.env 1 = AV.sc (.int .i64 a1) ∧ fr.env 3 = AV.gptr q1 0 ∧ fr.env 4 = AV.lptr 4 g4_22 0 ∧ fr.gen 4 = g4_22 ∧ fr.box 4 = some [AV.sc (.int .i64 a0.kind), AV.sc (.int .i64 a0.index), AV.sc (.int .i64 a0.typeF.kind), AV.slice .frz (List.map Ty.av a0.typeF.args), AV.slice .frz (List.map Tm.av a0.args)]) ∧ j4 v7 = some s2) (fun K8 hk9 => ?_) ?_
    · refine AWp.sr [] fun K10 hk11 => ?_
      simp [hF.len, lq0, kq0, lq1, kq1]
      apply hk11
      refine AWp.condK fun A12 B13 ga14 gb15 => ?_
      rcases ite_some hm6 with ⟨hc16, hm17⟩ | ⟨hc16, hm18⟩
      rotate_left
      · clear hm6
        simp [hF.len, lq0, kq0, lq1, kq1, hc16]
        apply gb15
        refine AWp.skip ?_
        refine hk9 _ _ ⟨s1, 1, ?_, ⟨?_, ?_, ?_, ?_, ?_⟩, hm18⟩ <;> first | rfl | simp [hF.len, lq0, kq0, lq1, kq1, hc16]
      clear hm6
      simp [hF.len, lq0, kq0, lq1, kq1, hc16]
      apply ga14
      refine AWp.region [] (by decide +kernel) ?_
      obtain ⟨x19, hx20, hm21⟩ := bind1_some hm17
      clear hm17
      try dsimp only at hm21
      simp [hF.len, lq0, kq0, lq1, kq1, hc16]
      refine CallAt.clo (by rfl) (Does98.at0 hc0_ hx20) ?_
      simp [hF.len, lq0, kq0, lq1, kq1, hc16]
      refine hk9 _ _ ⟨x19, 1, ?_, ⟨?_, ?_, ?_, ?_, ?_⟩, hm21⟩ <;> first | rfl | simp [hF.len, lq0, kq0, lq1, kq1, hc16]
    clear hm6
    rintro fr22 h22 ⟨v7, g4_22, rfl, E22, hm23⟩
    subst hj5
    refine AWp.seqP (fun fr h => ∃ (g4_33 : Nat), st v7 = h ∧ (fr.env 1 = AV.sc (.int .i64 (sel (ieq a0.kind 2) (iadd .i64 a1 1) a1)) ∧ fr.env 3 = AV.gptr q1 0 ∧ fr.env 4 = AV.lptr 4 g4_33 0 ∧ fr.gen 4 = g4_33 ∧ fr.box 4 = some [AV.sc (.int .i64 a0.kind), AV.sc (.int .i64 a0.index), AV.sc (.int .i64 a0.typeF.kind), AV.slice .frz (List.map Ty.av a0.typeF.args), AV.slice .frz (List.map Tm.av a0.args)])) (fun K24 hk25 => ?_) ?_
    · refine AWp.sr [] fun K26 hk27 => ?_
      simp [E22, hF.len, lq0, kq0, lq1, kq1]
      apply hk27
      refine AWp.condK fun A28 B29 ga30 gb31 => ?_
      rcases Bool.eq_false_or_eq_true (ieq a0.kind 2) with hc32 | hc32
      rotate_left
      · simp [E22, hF.len, lq0, kq0, lq1, kq1, hc32]
        apply gb31
        refine AWp.skip ?_
        refine hk25 _ _ ⟨g4_22, ?_, ⟨?_, ?_, ?_, ?_, ?_⟩⟩ <;> first | rfl | simp [E22, hF.len, lq0, kq0, lq1, kq1, hc32]
      simp [E22, hF.len, lq0, kq0, lq1, kq1, hc32]
      apply ga30
      refine AWp.region [] (by decide +kernel) ?_
      simp [E22, hF.len, lq0, kq0, lq1, kq1, hc32]
      refine hk25 _ _ ⟨g4_22, ?_, ⟨?_, ?_, ?_, ?_, ?_⟩⟩ <;> first | rfl | simp [E22, hF.len, lq0, kq0, lq1, kq1, hc32]
    rintro fr33 h33 ⟨g4_33, rfl, E33⟩
    refine AWp.sr [] fun K34 hk35 => ?_
    simp [E33, hF.len, lq0, kq0, lq1, kq1]
    apply hk35
    obtain ⟨hok36, hm37⟩ := chk_some hm23
    clear hm23
    obtain ⟨F38, hF39, hm40⟩ := joinB_some hm37
    clear hm37
    try dsimp only at hm40
    obtain ⟨out41, hl42, hmB43⟩ := bind1_some hm40
    clear hm40
    refine AWp.blockK fun Q44 nn45 ne46 nx47 nr48 => ?_
    refine AWp.loopF (fun n49 fr h => ∃ (i50 : Nat) (j51 : Int) (v52 : S), st v52 = h ∧ (fr.env 1 = AV.sc (.int .i64 (sel (ieq a0.kind 2) (iadd .i64 a1 1) a1)) ∧ fr.env 3 = AV.gptr q1 0 ∧ fr.env 22 = AV.slice .frz (List.map Tm.av a0.args) ∧ fr.env 23 = AV.sc (.int .i64 (llen a0.args)) ∧ fr.env 24 = AV.sc (.int .i64 j51)) ∧ j51 = (i50 : Int) ∧ i50 + n49 = List.length a0.args ∧ forR F38 (List.drop i50 a0.args) i50 v52 = some out41) (List.length a0.args) ?_ ?_
    · refine ⟨0, 0, v7, ?_, ⟨?_, ?_, ?_, ?_, ?_⟩, rfl, (by simp), hl42⟩ <;> first | rfl | simp [E33, hF.len, lq0, kq0, lq1, kq1]
    rintro n49 fr53 h53 ⟨i50, j51, v52, rfl, E53, hj54, hi55, hl42⟩ K56 hK57
    rcases n49 with _ | n49
    · have hlt58 := ilt_notJ (l := a0.args) hj54 (by omega)
      refine AWp.sr [] fun K59 hk60 => ?_
      simp [E53, hF.len, lq0, kq0, lq1, kq1, hlt58]
      apply hk60
      refine AWp.seqK fun K61 hk62 => ?_
      refine AWp.condK fun A63 B64 ga65 gb66 => ?_
      simp [E53, hF.len, lq0, kq0, lq1, kq1, hlt58]
      apply gb66
      refine AWp.exit ?_
      apply ne46
      rw [List.drop_eq_nil_of_le (by omega), forR_nil] at hl42
      obtain rfl := Option.some.inj hl42
      rw [sumK_inl] at hmB43
      try dsimp only at hmB43
      obtain rfl := Option.some.inj hmB43
      simp [retQ, E53, hF.len, lq0, kq0, lq1, kq1, hlt58]
    have hlt58 := ilt_ofJ (l := a0.args) hj54 (by omega)
    obtain ⟨x67, hdn49, hg68⟩ := drop_ltJ (l := a0.args) hj54 (by omega)
    rw [hdn49, forR_cons] at hl42
    obtain ⟨c69, hb70, hk71⟩ := bind1_some hl42
    clear hl42
    rw [hF39, ← hj54] at hb70
    try dsimp only at hb70
    refine AWp.sr [] fun K72 hk73 => ?_
    simp [E53, hF.len, lq0, kq0, lq1, kq1, hlt58, hg68]
    apply hk73
    refine AWp.seqK fun K74 hk75 => ?_
    refine AWp.condK fun A76 B77 ga78 gb79 => ?_
    simp [E53, hF.len, lq0, kq0, lq1, kq1, hlt58, hg68]
    apply ga78
    refine AWp.skip ?_
    apply hk75
    refine AWp.seqK fun K80 hk81 => ?_
    refine AWp.blockK fun Q82 nn83 ne84 nx85 nr86 => ?_
    refine AWp.sr [] fun K87 hk88 => ?_
    simp [E53, hF.len, lq0, kq0, lq1, kq1, hlt58, hg68]
    apply hk88
    refine AWp.region [] (by decide +kernel) ?_
    obtain ⟨s89, hx90, hm91⟩ := bind1_some hb70
    clear hb70
    try dsimp only at hm91
    simp [E53, hF.len, lq0, kq0, lq1, kq1, hlt58, hg68]
    refine CallAt.clo (by rfl) (ih hF kq0 hc0_ kq1 hx90) ?_
    simp [E53, hF.len, lq0, kq0, lq1, kq1, hlt58, hg68]
    apply nn83
    apply hk81
    refine AWp.region [] (by decide +kernel) ?_
    simp [E53, hF.len, lq0, kq0, lq1, kq1, hlt58, hg68]
    obtain rfl := Option.some.inj hm91
    rw [ctlK_next] at hk71
    refine hK57 _ _ n49 (Nat.lt_succ_self _) ⟨(i50 + 1), (iadd .i64 j51 1), s89, ?_, ⟨?_, ?_, ?_, ?_, ?_⟩, (iadd_idxJ hj54 (by omega) hok36), (by omega), hk71⟩ <;> first | rfl | simp [E53, hF.len, lq0, kq0, lq1, kq1, hlt58, hg68]
theorem r_tree_Each_1 (T : Tabs) {S : Type} {st : S → Heap} {k : Nat} {a0 : Tm} {a1 : Int} {cv0 : (S → Int → Int → Option (S))} {s0 : S} {s1 : S} {q0 : Nat} {q1 : Nat} {gc0 : Nat} {kc0 : List AV} (hF : Fam st k) (kq0 : ∀ s, (st s)[q0]? = some [AV.func (.func gc0) [] kc0]) (hc0_ : Does98 T gc0 kc0 st cv0) (kq1 : ∀ s, (st s)[q1]? = some [AV.func (.func 97) [] [AV.gptr q0 0, AV.gptr q1 0]]) {n : Nat} (hm : tree_Each_1 n a0 a1 cv0 s0 = some s1) : ACall Tryd.prog T 97 [Tm.av a0, AV.sc (.int .i64 a1), AV.gptr q0 0, AV.gptr q1 0] (st s0) (AV.tuple []) (st s1) := (rg_tree_Each_1 T n) hF kq0 hc0_ kq1 hm

theorem enters78 : entersB Tryd.prog 78 = true := by kernel_rfl

theorem r_tree_Each (T : Tabs) {S : Type} {st : S → Heap} {k : Nat} {a0 : Tm} {a1 : (S → Int → Int → Option (S))} {s0 : S} {s1 : S} {g1 : Nat} {cap1 : List AV} (hF : Fam st k) (hw1 : Does98 T g1 cap1 st a1) (hm : tree_Each a0 a1 s0 = some s1) : ACall Tryd.prog T 78 [Tm.av a0, AV.func (.func g1) [] cap1] (st s0) (AV.tuple []) (st s1) := by
  rw [tree_Each] at hm
  refine ACallP.dropS hF (Post := fun x K => x = AV.tuple [] ∧ ∃ X, K = (st s1) ++ X) ?_ (fun _ _ h => ⟨_, h.2.choose, h.2.choose_spec, by rw [h.1]; simp [AV.low, AV.lowL], h.1, rfl⟩)
  refine ACallP.intro (fn := Tryd.f78) Tryd.func78 rfl enters78 (Nat.le_of_ble_eq_true rfl) ?_
  refine AWp.sr [3] fun K1 hk2 => ?_
  simp [hF.len]
  apply hk2
  refine AWp.sr [4] fun K3 hk4 => ?_
  simp [hF.len]
  apply hk4
  refine AWp.sr [] fun K5 hk6 => ?_
  simp [hF.len]
  apply hk6
  refine AWp.region [] (by decide +kernel) ?_
  obtain ⟨s7, hx8, hm9⟩ := bind1_some hm
  clear hm
  try dsimp only at hm9
  simp [hF.len]
  refine CallAt.clo (by rfl) (r_tree_Each_1 T (st := fun s => st s ++ [[AV.func (.func g1) [] cap1], [AV.func (.func 97) [] [AV.gptr k 0, AV.gptr (k + 1) 0]]]) (Fam.ext hF _ (n := k + 2) (by simp)) (fun _ => (by simp [hF.len])) (Does98.ext hw1) (fun _ => (by simp [hF.len])) hx8) ?_
  simp [hF.len]
  obtain rfl := Option.some.inj hm9
  simp [retQ, hF.len]

theorem enters51 : entersB Tryd.prog 51 = true := by kernel_rfl

theorem r_tree_Near (T : Tabs) {H : Heap} {a0 : Tm} {r0 : Bool} (hm : tree_Near a0 = some r0) : ACall Tryd.prog T 51 [Tm.av a0] H (AV.sc (.bool r0)) H := by
  rw [tree_Near] at hm
  refine ACallP.drop0 (Post := fun x K => x = AV.sc (.bool r0) ∧ ∃ X, K = H ++ X) ?_ (fun _ _ h => ⟨_, h.2.choose_spec, by rw [h.1]; simp [AV.low, AV.lowL], h.1, rfl⟩)
  refine ACallP.intro (fn := Tryd.f51) Tryd.func51 rfl enters51 (Nat.le_of_ble_eq_true rfl) ?_
  refine AWp.sr [] fun K1 hk2 => ?_
  simp
  apply hk2
  refine AWp.sr [3] fun K3 hk4 => ?_
  simp
  apply hk4
  refine AWp.sr [] fun K5 hk6 => ?_
  obtain ⟨s7, hx8, hm9⟩ := bind1_some hm
  clear hm
  try dsimp only at hm9
  simp
  refine CallAt.fn (r_tree_Each T (st := fun s : Bool => H ++ [[AV.sc (.bool s)]]) (Fam.objs H (fun s : Bool => [[AV.sc (.bool s)]]) 1 (fun _ => rfl) (by simp [AV.low, AV.lowL])) (fun X s _ _ s' h => by have := r_tree_Near_1 T (H := H ++ [[AV.sc (.bool s)]] ++ X) (q0 := (List.length H)) (by simp) h; simpa using this) hx8) ?_
  simp
  apply hk6
  refine AWp.sr [] fun K10 hk11 => ?_
  simp
  apply hk11
  refine AWp.ret ?_
  obtain rfl := Option.some.inj hm9
  simp [retQ]

theorem enters80 : entersB Tryd.prog 80 = true := by kernel_rfl

theorem r_graph_build (T : Tabs) {H : Heap} {a0 : Int} {a1 : Int} {a2 : Ty} {a3 : (List (Option Nat))} {nh : List HC} {r0 : (Option Nat)} {nh1 : List HC} (hm : graph_build a0 a1 a2 a3 nh = some (r0, nh1)) : ACall Tryd.prog T 80 [AV.sc (.int .i64 a0), AV.sc (.int .i64 a1), Ty.av a2, AV.slice .frz (List.map (pav (List.length H)) a3)] (H ++ hmap (List.length H) nh) (pav (List.length H) r0) (H ++ hmap (List.length H) nh1) := by
  rw [graph_build] at hm
  refine ACallP.intro (fn := Tryd.f80) Tryd.func80 rfl enters80 (Nat.le_of_ble_eq_true rfl) ?_
  refine AWp.sr [] fun K1 hk2 => ?_
  simp
  apply hk2
  refine AWp.sr [17] fun K3 hk4 => ?_
  have hf5 : hmap (List.length H) nh ++ [[AV.sc (.int .i64 a0), AV.sc (.int .i64 a1), AV.sc (.int .i64 a2.kind), AV.slice .frz (List.map Ty.av a2.args), AV.slice .frz (List.map (pav (List.length H)) a3), AV.sc (.int .i64 1), AV.sc (.int .i64 0), AV.sc (.bool false)]] = hmap (List.length H) (nh ++ [HC.cgraph_Node (Sgraph_Node.mk a0 a1 a2 a3 1 0 false)]) := hmapG_app rfl
  have hx6 : (nh ++ [HC.cgraph_Node (Sgraph_Node.mk a0 a1 a2 a3 1 0 false)])[(List.length nh)]? = some (HC.cgraph_Node (Sgraph_Node.mk a0 a1 a2 a3 1 0 false)) := app_get
  simp [hf5, hx6]
  apply hk4
  refine AWp.seqK fun K7 hk8 => ?_
  refine AWp.sr [] fun K9 hk10 => ?_
  simp [hf5, hx6]
  apply hk10
  obtain ⟨hok11, hm12⟩ := chk_some hm
  clear hm
  obtain ⟨F13, hF14, hm15⟩ := joinB_some hm12
  clear hm12
  try dsimp only at hm15
  obtain ⟨out16, hl17, hmB18⟩ := bind1_some hm15
  clear hm15
  refine AWp.blockK fun Q19 nn20 ne21 nx22 nr23 => ?_
  refine AWp.loopF (fun n24 fr h => ∃ (i25 : Nat) (j26 : Int) (v27 : List HC), H ++ hmap (List.length H) v27 = h ∧ (fr.env 0 = AV.sc (.int .i64 a0) ∧ fr.env 1 = AV.sc (.int .i64 a1) ∧ fr.env 9 = AV.gptr (List.length H + (List.length nh)) 0 ∧ fr.env 18 = AV.slice .frz (List.map (pav (List.length H)) a3) ∧ fr.env 19 = AV.sc (.int .i64 (llen a3)) ∧ fr.env 20 = AV.sc (.int .i64 j26)) ∧ j26 = (i25 : Int) ∧ i25 + n24 = List.length a3 ∧ forR F13 (List.drop i25 a3) i25 v27 = some out16) (List.length a3) ?_ ?_
  · refine ⟨0, 0, (nh ++ [HC.cgraph_Node (Sgraph_Node.mk a0 a1 a2 a3 1 0 false)]), ?_, ⟨?_, ?_, ?_, ?_, ?_, ?_⟩, rfl, (by simp), hl17⟩ <;> first | rfl | simp [hf5, hx6]
  rintro n24 fr28 h28 ⟨i25, j26, v27, rfl, E28, hj29, hi30, hl17⟩ K31 hK32
  rcases n24 with _ | n24
  · have hlt33 := ilt_notJ (l := a3) hj29 (by omega)
    refine AWp.sr [] fun K34 hk35 => ?_
    simp [E28, hf5, hx6, hlt33]
    apply hk35
    refine AWp.seqK fun K36 hk37 => ?_
    refine AWp.condK fun A38 B39 ga40 gb41 => ?_
    simp [E28, hf5, hx6, hlt33]
    apply gb41
    refine AWp.exit ?_
    apply ne21
    rw [List.drop_eq_nil_of_le (by omega), forR_nil] at hl17
    obtain rfl := Option.some.inj hl17
    rw [sumK_inl] at hmB18
    try dsimp only at hmB18
    apply hk8
    obtain ⟨j42, hj43, hm44⟩ := joinB_some hmB18
    clear hmB18
    refine AWp.seqP (fun fr h => ∃ (v45 : List HC), H ++ hmap (List.length H) v45 = h ∧ fr.env 9 = AV.gptr (List.length H + (List.length nh)) 0 ∧ j42 v45 = some (r0, nh1)) (fun K46 hk47 => ?_) ?_
    rotate_left
    · clear hm44
      rintro fr48 h48 ⟨v45, rfl, E48, hm49⟩
      subst hj43
      refine AWp.sr [] fun K50 hk51 => ?_
      simp [E48, hf5, hx6, hlt33]
      apply hk51
      refine AWp.ret ?_
      simp only [Option.some.injEq, Prod.mk.injEq] at hm49
      obtain ⟨rfl, rfl⟩ := hm49
      simp [retQ, E48, hf5, hx6, hlt33]
    refine AWp.sr [] fun K52 hk53 => ?_
    simp [E28, hf5, hx6, hlt33]
    apply hk53
    refine AWp.blockK fun Q54 nn55 ne56 nx57 nr58 => ?_
    refine AWp.sr [] fun K59 hk60 => ?_
    simp [E28, hf5, hx6, hlt33]
    apply hk60
    refine AWp.condK fun A61 B62 ga63 gb64 => ?_
    rcases ite_some hm44 with ⟨hc65, hm66⟩ | ⟨hc65, hm67⟩
    · clear hm44
      simp [E28, hf5, hx6, hlt33, hc65]
      apply ga63
      refine AWp.region [] (by decide +kernel) ?_
      obtain ⟨x68, hx69, hm70⟩ := bind1_some hm66
      replace hx69 := HC.get_cgraph_Node_some hx69
      clear hm66
      try dsimp only at hm70
      have hf71 : hset (hmap (List.length H) v27) (List.length nh) [AV.sc (.int .i64 x68.kind), AV.sc (.int .i64 x68.index), AV.sc (.int .i64 x68.typ.kind), AV.slice .frz (List.map Ty.av x68.typ.args), AV.slice .frz (List.map (pav (List.length H)) x68.args), AV.sc (.int .i64 x68.size), AV.sc (.int .i64 (iadd .i64 a1 1)), AV.sc (.bool x68.normal)] = hmap (List.length H) (hput v27 (List.length nh) (HC.cgraph_Node (Sgraph_Node.mk x68.kind x68.index x68.typ x68.args x68.size (iadd .i64 a1 1) x68.normal))) := hset_hmapG rfl
      have hx72 : (hput v27 (List.length nh) (HC.cgraph_Node (Sgraph_Node.mk x68.kind x68.index x68.typ x68.args x68.size (iadd .i64 a1 1) x68.normal)))[(List.length nh)]? = some (HC.cgraph_Node (Sgraph_Node.mk x68.kind x68.index x68.typ x68.args x68.size (iadd .i64 a1 1) x68.normal)) := put_get hx69
      simp [E28, hf5, hx6, hlt33, hx69, hf71, hx72, hc65]
      apply nn55
      refine hk47 _ _ ⟨(hput v27 (List.length nh) (HC.cgraph_Node (Sgraph_Node.mk x68.kind x68.index x68.typ x68.args x68.size (iadd .i64 a1 1) x68.normal))), ?_, ?_, hm70⟩ <;> first | rfl | simp [E28, hf5, hx6, hlt33, hx69, hf71, hx72, hc65]
    clear hm44
    simp [E28, hf5, hx6, hlt33, hc65]
    apply gb64
    refine AWp.sr [] fun K73 hk74 => ?_
    simp [E28, hf5, hx6, hlt33, hc65]
    apply hk74
    refine AWp.condK fun A75 B76 ga77 gb78 => ?_
    rcases ite_some hm67 with ⟨hc79, hm80⟩ | ⟨hc79, hm81⟩
    rotate_left
    · clear hm67
      simp [E28, hf5, hx6, hlt33, hc65, hc79]
      apply gb78
      refine AWp.skip ?_
      apply nn55
      refine hk47 _ _ ⟨v27, ?_, ?_, hm81⟩ <;> first | rfl | simp [E28, hf5, hx6, hlt33, hc65, hc79]
    clear hm67
    simp [E28, hf5, hx6, hlt33, hc65, hc79]
    apply ga77
    refine AWp.region [] (by decide +kernel) ?_
    obtain ⟨x82, hx83, hm84⟩ := bind1_some hm80
    replace hx83 := HC.get_cgraph_Node_some hx83
    clear hm80
    try dsimp only at hm84
    have hf85 : hset (hmap (List.length H) v27) (List.length nh) [AV.sc (.int .i64 x82.kind), AV.sc (.int .i64 x82.index), AV.sc (.int .i64 x82.typ.kind), AV.slice .frz (List.map Ty.av x82.typ.args), AV.slice .frz (List.map (pav (List.length H)) x82.args), AV.sc (.int .i64 x82.size), AV.sc (.int .i64 (imax 0 (isub .i64 x82.free 1))), AV.sc (.bool x82.normal)] = hmap (List.length H) (hput v27 (List.length nh) (HC.cgraph_Node (Sgraph_Node.mk x82.kind x82.index x82.typ x82.args x82.size (imax 0 (isub .i64 x82.free 1)) x82.normal))) := hset_hmapG rfl
    have hx86 : (hput v27 (List.length nh) (HC.cgraph_Node (Sgraph_Node.mk x82.kind x82.index x82.typ x82.args x82.size (imax 0 (isub .i64 x82.free 1)) x82.normal)))[(List.length nh)]? = some (HC.cgraph_Node (Sgraph_Node.mk x82.kind x82.index x82.typ x82.args x82.size (imax 0 (isub .i64 x82.free 1)) x82.normal)) := put_get hx83
    simp [E28, hf5, hx6, hlt33, hx83, hf85, hx86, hc65, hc79]
    apply nn55
    refine hk47 _ _ ⟨(hput v27 (List.length nh) (HC.cgraph_Node (Sgraph_Node.mk x82.kind x82.index x82.typ x82.args x82.size (imax 0 (isub .i64 x82.free 1)) x82.normal))), ?_, ?_, hm84⟩ <;> first | rfl | simp [E28, hf5, hx6, hlt33, hx83, hf85, hx86, hc65, hc79]
  have hlt33 := ilt_ofJ (l := a3) hj29 (by omega)
  obtain ⟨x87, hdn24, hg88⟩ := drop_ltJ (l := a3) hj29 (by omega)
  rw [hdn24, forR_cons] at hl17
  obtain ⟨c89, hb90, hk91⟩ := bind1_some hl17
  clear hl17
  rw [hF14, ← hj29] at hb90
  try dsimp only at hb90
  refine AWp.sr [] fun K92 hk93 => ?_
  simp [E28, hf5, hx6, hlt33, hg88]
  apply hk93
  refine AWp.seqK fun K94 hk95 => ?_
  refine AWp.condK fun A96 B97 ga98 gb99 => ?_
  simp [E28, hf5, hx6, hlt33, hg88]
  apply ga98
  refine AWp.skip ?_
  apply hk95
  refine AWp.seqK fun K100 hk101 => ?_
  refine AWp.blockK fun Q102 nn103 ne104 nx105 nr106 => ?_
  refine AWp.sr [] fun K107 hk108 => ?_
  simp [E28, hf5, hx6, hlt33, hg88]
  apply hk108
  refine AWp.seqK fun K109 hk110 => ?_
  refine AWp.regionS [] false [true, true, true, false, true, true, true, false, true, true, true, false] mixed (by decide +kernel) (by decide +kernel) ?_
  obtain ⟨x111, hx112, hm113⟩ := bind1_some hb90
  replace hx112 := HC.get_cgraph_Node_some hx112
  clear hb90
  try dsimp only at hm113
  obtain ⟨x114, hx115, hm116⟩ := bind1_some hm113
  clear hm113
  try dsimp only at hm116
  obtain ⟨x117, hx118, hm119⟩ := bind1_some hm116
  replace hx118 := HC.get_cgraph_Node_some hx118
  clear hm116
  try dsimp only at hm119
  have hf120 : hset (hmap (List.length H) v27) (List.length nh) [AV.sc (.int .i64 x111.kind), AV.sc (.int .i64 x111.index), AV.sc (.int .i64 x111.typ.kind), AV.slice .frz (List.map Ty.av x111.typ.args), AV.slice .frz (List.map (pav (List.length H)) x111.args), AV.sc (.int .i64 (iadd .i64 x111.size x117.size)), AV.sc (.int .i64 x111.free), AV.sc (.bool x111.normal)] = hmap (List.length H) (hput v27 (List.length nh) (HC.cgraph_Node (Sgraph_Node.mk x111.kind x111.index x111.typ x111.args (iadd .i64 x111.size x117.size) x111.free x111.normal))) := hset_hmapG rfl
  have hx121 : (hput v27 (List.length nh) (HC.cgraph_Node (Sgraph_Node.mk x111.kind x111.index x111.typ x111.args (iadd .i64 x111.size x117.size) x111.free x111.normal)))[(List.length nh)]? = some (HC.cgraph_Node (Sgraph_Node.mk x111.kind x111.index x111.typ x111.args (iadd .i64 x111.size x117.size) x111.free x111.normal)) := put_get hx112
  simp [E28, hf5, hx6, hlt33, hg88, hx112, hx115, hx118, hf120, hx121]
  apply hk110
  refine AWp.regionS [] false [true, true, true, true, false, true, true, true, false, true, true, true, false] mixed (by decide +kernel) (by decide +kernel) ?_
  obtain ⟨x122, hx123, hm124⟩ := bind1_some hm119
  replace hx123 := HC.get_cgraph_Node_some hx123
  clear hm119
  try dsimp only at hm124
  have hf125 : hset (hmap (List.length H) (hput v27 (List.length nh) (HC.cgraph_Node (Sgraph_Node.mk x111.kind x111.index x111.typ x111.args (iadd .i64 x111.size x117.size) x111.free x111.normal)))) (List.length nh) [AV.sc (.int .i64 x111.kind), AV.sc (.int .i64 x111.index), AV.sc (.int .i64 x111.typ.kind), AV.slice .frz (List.map Ty.av x111.typ.args), AV.slice .frz (List.map (pav (List.length H)) x111.args), AV.sc (.int .i64 (iadd .i64 x111.size x117.size)), AV.sc (.int .i64 (imax x111.free x122.free)), AV.sc (.bool x111.normal)] = hmap (List.length H) (hput (hput v27 (List.length nh) (HC.cgraph_Node (Sgraph_Node.mk x111.kind x111.index x111.typ x111.args (iadd .i64 x111.size x117.size) x111.free x111.normal))) (List.length nh) (HC.cgraph_Node (Sgraph_Node.mk x111.kind x111.index x111.typ x111.args (iadd .i64 x111.size x117.size) (imax x111.free x122.free) x111.normal))) := hset_hmapG rfl
  have hx126 : (hput (hput v27 (List.length nh) (HC.cgraph_Node (Sgraph_Node.mk x111.kind x111.index x111.typ x111.args (iadd .i64 x111.size x117.size) x111.free x111.normal))) (List.length nh) (HC.cgraph_Node (Sgraph_Node.mk x111.kind x111.index x111.typ x111.args (iadd .i64 x111.size x117.size) (imax x111.free x122.free) x111.normal)))[(List.length nh)]? = some (HC.cgraph_Node (Sgraph_Node.mk x111.kind x111.index x111.typ x111.args (iadd .i64 x111.size x117.size) (imax x111.free x122.free) x111.normal)) := put_get hx121
  simp [E28, hf5, hx6, hlt33, hg88, hx112, hx115, hx118, hf120, hx121, hx123, hf125, hx126]
  apply nn103
  apply hk101
  refine AWp.region [] (by decide +kernel) ?_
  simp [E28, hf5, hx6, hlt33, hg88, hx112, hx115, hx118, hf120, hx121, hx123, hf125, hx126]
  obtain rfl := Option.some.inj hm124
  rw [ctlK_next] at hk91
  refine hK32 _ _ n24 (Nat.lt_succ_self _) ⟨(i25 + 1), (iadd .i64 j26 1), (hput (hput v27 (List.length nh) (HC.cgraph_Node (Sgraph_Node.mk x111.kind x111.index x111.typ x111.args (iadd .i64 x111.size x117.size) x111.free x111.normal))) (List.length nh) (HC.cgraph_Node (Sgraph_Node.mk x111.kind x111.index x111.typ x111.args (iadd .i64 x111.size x117.size) (imax x111.free x122.free) x111.normal))), ?_, ⟨?_, ?_, ?_, ?_, ?_, ?_⟩, (iadd_idxJ hj29 (by omega) hok11), (by omega), hk91⟩ <;> first | rfl | simp [E28, hf5, hx6, hlt33, hg88, hx112, hx115, hx118, hf120, hx121, hx123, hf125, hx126]

theorem enters52 : entersB Tryd.prog 52 = true := by kernel_rfl

theorem rg_graph_From (T : Tabs) : ∀ (n : Nat), (∀ {H : Heap} {a0 : Tm} {nh : List HC} {r0 : (Option Nat)} {nh1 : List HC} (hm : graph_From n a0 nh = some (r0, nh1)), ACall Tryd.prog T 52 [Tm.av a0] (H ++ hmap (List.length H) nh) (pav (List.length H) r0) (H ++ hmap (List.length H) nh1)) := by
  intro n
  induction n with
  | zero =>
    skip
    all_goals
      intros
      rename_i hm
      cases hm
  | succ n ih =>
    intro H a0 nh r0 nh1 hm
    rw [graph_From] at hm
    refine ACallP.intro (fn := Tryd.f52) Tryd.func52 rfl enters52 (Nat.le_of_ble_eq_true rfl) ?_
    refine AWp.sr [] fun K1 hk2 => ?_
    simp
    apply hk2
    refine AWp.sr [] fun K3 hk4 => ?_
    simp
    apply hk4
    refine AWp.seqK fun K5 hk6 => ?_
    refine AWp.sr [] fun K7 hk8 => ?_
    simp
    apply hk8
    obtain ⟨hok9, hm10⟩ := chk_some hm
    clear hm
    obtain ⟨F11, hF12, hm13⟩ := joinB_some hm10
    clear hm10
    try dsimp only at hm13
    obtain ⟨out14, hl15, hmB16⟩ := bind1_some hm13
    clear hm13
    refine AWp.blockK fun Q17 nn18 ne19 nx20 nr21 => ?_
    refine AWp.loopF (fun n22 fr h => ∃ (i23 : Nat) (j24 : Int) (v25 : (List (Option Nat))) (v26 : List HC) (tg0_27 : Tag) (g1_27 : Nat), H ++ hmap (List.length H) v26 = h ∧ (fr.env 1 = AV.lptr 1 g1_27 0 ∧ fr.env 3 = AV.slice tg0_27 (List.map (pav (List.length H)) v25) ∧ fr.env 7 = AV.slice .frz (List.map Tm.av a0.args) ∧ fr.env 8 = AV.sc (.int .i64 (llen a0.args)) ∧ fr.env 9 = AV.sc (.int .i64 j24) ∧ fr.gen 1 = g1_27 ∧ fr.box 1 = some [AV.sc (.int .i64 a0.kind), AV.sc (.int .i64 a0.index), AV.sc (.int .i64 a0.typeF.kind), AV.slice .frz (List.map Ty.av a0.typeF.args), AV.slice .frz (List.map Tm.av a0.args)]) ∧ OwnT fr.tab fr.tgen [17] tg0_27 (List.length v25) ∧ j24 = (i23 : Int) ∧ i23 + n22 = List.length a0.args ∧ forR F11 (List.drop i23 a0.args) i23 (v25, v26) = some out14) (List.length a0.args) ?_ ?_
    · refine ⟨0, 0, [], nh, .full, 1, ?_, ⟨?_, ?_, ?_, ?_, ?_, ?_, ?_⟩, OwnT.full, rfl, (by simp), hl15⟩ <;> first | rfl | simp
    rintro n22 fr27 h27 ⟨i23, j24, v25, v26, tg0_27, g1_27, rfl, E27, o0_27, hj28, hi29, hl15⟩ K30 hK31
    rcases n22 with _ | n22
    · have hlt32 := ilt_notJ (l := a0.args) hj28 (by omega)
      refine AWp.sr [] fun K33 hk34 => ?_
      simp [E27, hlt32]
      apply hk34
      refine AWp.seqK fun K35 hk36 => ?_
      refine AWp.condK fun A37 B38 ga39 gb40 => ?_
      simp [E27, hlt32]
      apply gb40
      refine AWp.exit ?_
      apply ne19
      rw [List.drop_eq_nil_of_le (by omega), forR_nil] at hl15
      obtain rfl := Option.some.inj hl15
      rw [sumK_inl, un2_mk] at hmB16
      try dsimp only at hmB16
      apply hk6
      refine AWp.sr [] fun K41 hk42 => ?_
      obtain ⟨x43, nh44, hx45, hm46⟩ := bind2_some hmB16
      clear hmB16
      try dsimp only at hm46
      simp [E27, hlt32]
      refine CallAt.fn (r_graph_build T (H := H) hx45) ?_
      simp [E27, hlt32]
      apply hk42
      refine AWp.ret ?_
      simp only [Option.some.injEq, Prod.mk.injEq] at hm46
      obtain ⟨rfl, rfl⟩ := hm46
      simp [retQ, E27, hlt32]
    have hlt32 := ilt_ofJ (l := a0.args) hj28 (by omega)
    obtain ⟨x47, hdn22, hg48⟩ := drop_ltJ (l := a0.args) hj28 (by omega)
    rw [hdn22, forR_cons] at hl15
    obtain ⟨c49, hb50, hk51⟩ := bind1_some hl15
    clear hl15
    rw [hF12, ← hj28] at hb50
    try dsimp only at hb50
    rw [un2_mk] at hb50
    try dsimp only at hb50
    refine AWp.sr [] fun K52 hk53 => ?_
    simp [E27, hlt32, hg48]
    apply hk53
    refine AWp.seqK fun K54 hk55 => ?_
    refine AWp.condK fun A56 B57 ga58 gb59 => ?_
    simp [E27, hlt32, hg48]
    apply ga58
    refine AWp.skip ?_
    apply hk55
    refine AWp.seqK fun K60 hk61 => ?_
    refine AWp.blockK fun Q62 nn63 ne64 nx65 nr66 => ?_
    refine AWp.sr [] fun K67 hk68 => ?_
    simp [E27, hlt32, hg48]
    apply hk68
    refine AWp.region [] (by decide +kernel) ?_
    obtain ⟨x69, nh70, hx71, hm72⟩ := bind2_some hb50
    clear hb50
    try dsimp only at hm72
    simp [E27, hlt32, hg48]
    refine CallAt.fn (ih (H := H) hx71) ?_
    obtain ⟨ha73, hm74⟩ := chk_some hm72
    clear hm72
    simp [E27, hlt32, hg48]
    refine AppAt2.own (f := (pav (List.length H))) v25 [x69] o0_27 ap99 (by intro x; simp) ha73 (by first | rfl | simp) (by first | rfl | simp) ?_
    simp [E27, hlt32, hg48]
    apply nn63
    apply hk61
    refine AWp.region [] (by decide +kernel) ?_
    simp [E27, hlt32, hg48]
    obtain rfl := Option.some.inj hm74
    rw [ctlK_next] at hk51
    refine hK31 _ _ n22 (Nat.lt_succ_self _) ⟨(i23 + 1), (iadd .i64 j24 1), (lapp v25 [x69]), nh70, (.loc 17 (fr27.tgen 17 + 1)), g1_27, ?_, ⟨?_, ?_, ?_, ?_, ?_, ?_, ?_⟩, (OwnT.mono (D := [17]) (OwnT.new (D := [17]) (d := 17) (by decide)) (by decide)), (iadd_idxJ hj28 (by omega) hok9), (by omega), hk51⟩ <;> first | rfl | simp [E27, hlt32, hg48]
theorem r_graph_From (T : Tabs) {H : Heap} {a0 : Tm} {nh : List HC} {r0 : (Option Nat)} {nh1 : List HC} {n : Nat} (hm : graph_From n a0 nh = some (r0, nh1)) : ACall Tryd.prog T 52 [Tm.av a0] (H ++ hmap (List.length H) nh) (pav (List.length H) r0) (H ++ hmap (List.length H) nh1) := (rg_graph_From T n) hm

theorem enters82 : entersB Tryd.prog 82 = true := by kernel_rfl

theorem r_graph_Node_Size (T : Tabs) {H : Heap} {a0 : (Option Nat)} {nh : List HC} {r0 : Int} (hm : graph_Node_Size a0 nh = some r0) : ACall Tryd.prog T 82 [pav (List.length H) a0] (H ++ hmap (List.length H) nh) (AV.sc (.int .i64 r0)) (H ++ hmap (List.length H) nh) := by
  rw [graph_Node_Size] at hm
  refine ACallP.intro (fn := Tryd.f82) Tryd.func82 rfl enters82 (Nat.le_of_ble_eq_true rfl) ?_
  refine AWp.sr [] fun K1 hk2 => ?_
  simp
  apply hk2
  refine AWp.sr [] fun K3 hk4 => ?_
  obtain ⟨x5, hx6, hm7⟩ := bind1_some hm
  clear hm
  try dsimp only at hm7
  obtain ⟨x8, hx9, hm10⟩ := bind1_some hm7
  replace hx9 := HC.get_cgraph_Node_some hx9
  clear hm7
  try dsimp only at hm10
  simp [hx6, hx9]
  apply hk4
  refine AWp.ret ?_
  obtain rfl := Option.some.inj hm10
  simp [retQ, hx6, hx9]

theorem enters84 : entersB Tryd.prog 84 = true := by kernel_rfl

theorem r_graph_Node_redex (T : Tabs) {H : Heap} {a0 : (Option Nat)} {nh : List HC} {r0 : Bool} (hm : graph_Node_redex a0 nh = some r0) : ACall Tryd.prog T 84 [pav (List.length H) a0] (H ++ hmap (List.length H) nh) (AV.sc (.bool r0)) (H ++ hmap (List.length H) nh) := by
  rw [graph_Node_redex] at hm
  refine ACallP.intro (fn := Tryd.f84) Tryd.func84 rfl enters84 (Nat.le_of_ble_eq_true rfl) ?_
  refine AWp.sr [] fun K1 hk2 => ?_
  simp
  apply hk2
  refine AWp.seqK fun K3 hk4 => ?_
  refine AWp.sr [] fun K5 hk6 => ?_
  obtain ⟨x7, hx8, hm9⟩ := bind1_some hm
  clear hm
  try dsimp only at hm9
  obtain ⟨x10, hx11, hm12⟩ := bind1_some hm9
  replace hx11 := HC.get_cgraph_Node_some hx11
  clear hm9
  try dsimp only at hm12
  simp [hx8, hx11]
  apply hk6
  refine AWp.blockK fun Q13 nn14 ne15 nx16 nr17 => ?_
  refine AWp.sr [] fun K18 hk19 => ?_
  simp [hx8, hx11]
  apply hk19
  refine AWp.condK fun A20 B21 ga22 gb23 => ?_
  rcases ite_some hm12 with ⟨hc24, hm25⟩ | ⟨hc24, hm26⟩
  · clear hm12
    simp [hx8, hx11, hc24]
    apply ga22
    refine AWp.sr [] fun K27 hk28 => ?_
    obtain ⟨x29, hx30, hm31⟩ := bind1_some hm25
    clear hm25
    try dsimp only at hm31
    obtain ⟨x32, hx33, hm34⟩ := bind1_some hm31
    clear hm31
    try dsimp only at hm34
    obtain ⟨x35, hx36, hm37⟩ := bind1_some hm34
    replace hx36 := HC.get_cgraph_Node_some hx36
    clear hm34
    try dsimp only at hm37
    simp [hx8, hx11, hx30, hx33, hx36, hc24]
    apply hk28
    refine AWp.ret ?_
    apply nr17
    obtain rfl := Option.some.inj hm37
    simp [retQ, hx8, hx11, hx30, hx33, hx36, hc24]
  clear hm12
  simp [hx8, hx11, hc24]
  apply gb23
  refine AWp.sr [] fun K38 hk39 => ?_
  simp [hx8, hx11, hc24]
  apply hk39
  refine AWp.condK fun A40 B41 ga42 gb43 => ?_
  rcases ite_some hm26 with ⟨hc44, hm45⟩ | ⟨hc44, hm46⟩
  · clear hm26
    simp [hx8, hx11, hc24, hc44]
    apply ga42
    obtain ⟨j47, hj48, hm49⟩ := joinB_some hm45
    clear hm45
    refine AWp.seqP (fun fr h => ∃ (v50 : Bool), H ++ hmap (List.length H) nh = h ∧ fr.env 2 = AV.sc (.bool v50) ∧ j47 v50 = some r0) (fun K51 hk52 => ?_) ?_
    rotate_left
    · clear hm49
      rintro fr53 h53 ⟨v50, rfl, E53, hm54⟩
      subst hj48
      refine AWp.ret ?_
      apply nr17
      obtain rfl := Option.some.inj hm54
      simp [retQ, E53, hx8, hx11, hc24, hc44]
    refine AWp.region [] (by decide +kernel) ?_
    obtain ⟨x55, hx56, hm57⟩ := bind1_some hm49
    clear hm49
    try dsimp only at hm57
    obtain ⟨x58, hx59, hm60⟩ := bind1_some hm57
    clear hm57
    try dsimp only at hm60
    obtain ⟨x61, hx62, hm63⟩ := bind1_some hm60
    replace hx62 := HC.get_cgraph_Node_some hx62
    clear hm60
    try dsimp only at hm63
    rcases ite_some hm63 with ⟨hc64, hm65⟩ | ⟨hc64, hm66⟩
    · clear hm63
      simp [hx8, hx11, hx56, hx59, hx62, hc24, hc44, hc64]
      refine hk52 _ _ ⟨true, ?_, ?_, hm65⟩ <;> first | rfl | simp [hx8, hx11, hx56, hx59, hx62, hc24, hc44, hc64]
    clear hm63
    simp [hx8, hx11, hx56, hx59, hx62, hc24, hc44, hc64]
    refine hk52 _ _ ⟨(ieq x61.kind 5), ?_, ?_, hm66⟩ <;> first | rfl | simp [hx8, hx11, hx56, hx59, hx62, hc24, hc44, hc64]
  clear hm26
  simp [hx8, hx11, hc24, hc44]
  apply gb43
  refine AWp.sr [] fun K67 hk68 => ?_
  simp [hx8, hx11, hc24, hc44]
  apply hk68
  refine AWp.condK fun A69 B70 ga71 gb72 => ?_
  rcases ite_some hm46 with ⟨hc73, hm74⟩ | ⟨hc73, hm75⟩
  · clear hm46
    simp [hx8, hx11, hc24, hc44, hc73]
    apply ga71
    obtain ⟨j76, hj77, hm78⟩ := joinB_some hm74
    clear hm74
    refine AWp.seqP (fun fr h => ∃ (v79 : Bool), H ++ hmap (List.length H) nh = h ∧ fr.env 2 = AV.sc (.bool v79) ∧ j76 v79 = some r0) (fun K80 hk81 => ?_) ?_
    rotate_left
    · clear hm78
      rintro fr82 h82 ⟨v79, rfl, E82, hm83⟩
      subst hj77
      refine AWp.ret ?_
      apply nr17
      obtain rfl := Option.some.inj hm83
      simp [retQ, E82, hx8, hx11, hc24, hc44, hc73]
    refine AWp.region [] (by decide +kernel) ?_
    obtain ⟨x84, hx85, hm86⟩ := bind1_some hm78
    clear hm78
    try dsimp only at hm86
    obtain ⟨x87, hx88, hm89⟩ := bind1_some hm86
    clear hm86
    try dsimp only at hm89
    obtain ⟨x90, hx91, hm92⟩ := bind1_some hm89
    replace hx91 := HC.get_cgraph_Node_some hx91
    clear hm89
    try dsimp only at hm92
    rcases ite_some hm92 with ⟨hc93, hm94⟩ | ⟨hc93, hm95⟩
    · clear hm92
      simp [hx8, hx11, hx85, hx88, hx91, hc24, hc44, hc73, hc93]
      refine hk81 _ _ ⟨true, ?_, ?_, hm94⟩ <;> first | rfl | simp [hx8, hx11, hx85, hx88, hx91, hc24, hc44, hc73, hc93]
    clear hm92
    simp [hx8, hx11, hx85, hx88, hx91, hc24, hc44, hc73, hc93]
    refine hk81 _ _ ⟨(ieq x90.kind 8), ?_, ?_, hm95⟩ <;> first | rfl | simp [hx8, hx11, hx85, hx88, hx91, hc24, hc44, hc73, hc93]
  clear hm46
  simp [hx8, hx11, hc24, hc44, hc73]
  apply gb72
  refine AWp.seqP (fun fr h => H ++ hmap (List.length H) nh = h ∧ (fr.env 0 = pav (List.length H) a0 ∧ fr.env 67 = AV.sc (.bool (sel (ieq x10.kind 11) true (ieq x10.kind 12))))) (fun K96 hk97 => ?_) ?_
  · refine AWp.sr [] fun K98 hk99 => ?_
    simp [hx8, hx11, hc24, hc44, hc73]
    apply hk99
    refine AWp.condK fun A100 B101 ga102 gb103 => ?_
    rcases Bool.eq_false_or_eq_true (ieq x10.kind 11) with hc104 | hc104
    · simp [hx8, hx11, hc24, hc44, hc73, hc104]
      apply ga102
      refine AWp.skip ?_
      refine hk97 _ _ ⟨?_, ⟨?_, ?_⟩⟩ <;> first | rfl | simp [hx8, hx11, hc24, hc44, hc73, hc104]
    simp [hx8, hx11, hc24, hc44, hc73, hc104]
    apply gb103
    refine AWp.region [] (by decide +kernel) ?_
    simp [hx8, hx11, hc24, hc44, hc73, hc104]
    refine hk97 _ _ ⟨?_, ⟨?_, ?_⟩⟩ <;> first | rfl | simp [hx8, hx11, hc24, hc44, hc73, hc104]
  rintro fr105 h105 ⟨rfl, E105⟩
  refine AWp.condK fun A106 B107 ga108 gb109 => ?_
  rcases ite_some hm75 with ⟨hc110, hm111⟩ | ⟨hc110, hm112⟩
  rotate_left
  · clear hm75
    simp [E105, hx8, hx11, hc24, hc44, hc73, hc110]
    apply gb109
    refine AWp.skip ?_
    apply nn14
    apply hk4
    refine AWp.sr [] fun K113 hk114 => ?_
    simp [E105, hx8, hx11, hc24, hc44, hc73, hc110]
    apply hk114
    refine AWp.ret ?_
    obtain rfl := Option.some.inj hm112
    simp [retQ, E105, hx8, hx11, hc24, hc44, hc73, hc110]
  clear hm75
  simp [E105, hx8, hx11, hc24, hc44, hc73, hc110]
  apply ga108
  refine AWp.sr [] fun K115 hk116 => ?_
  obtain ⟨x117, hx118, hm119⟩ := bind1_some hm111
  clear hm111
  try dsimp only at hm119
  obtain ⟨x120, hx121, hm122⟩ := bind1_some hm119
  clear hm119
  try dsimp only at hm122
  obtain ⟨x123, hx124, hm125⟩ := bind1_some hm122
  replace hx124 := HC.get_cgraph_Node_some hx124
  clear hm122
  try dsimp only at hm125
  simp [E105, hx8, hx11, hx118, hx121, hx124, hc24, hc44, hc73, hc110]
  apply hk116
  refine AWp.ret ?_
  apply nr17
  obtain rfl := Option.some.inj hm125
  simp [retQ, E105, hx8, hx11, hx118, hx121, hx124, hc24, hc44, hc73, hc110]

theorem enters114 : entersB Tryd.prog 114 = true := by kernel_rfl

theorem r_graph_Node_below (T : Tabs) {H : Heap} {a0 : (Option Nat)} {nh : List HC} {r0 : Int} (hm : graph_Node_below a0 nh = some r0) : ACall Tryd.prog T 114 [pav (List.length H) a0] (H ++ hmap (List.length H) nh) (AV.sc (.int .i64 r0)) (H ++ hmap (List.length H) nh) := by
  rw [graph_Node_below] at hm
  refine ACallP.intro (fn := Tryd.f114) Tryd.func114 rfl enters114 (Nat.le_of_ble_eq_true rfl) ?_
  refine AWp.sr [] fun K1 hk2 => ?_
  simp
  apply hk2
  refine AWp.seqK fun K3 hk4 => ?_
  refine AWp.sr [] fun K5 hk6 => ?_
  obtain ⟨x7, hx8, hm9⟩ := bind1_some hm
  clear hm
  try dsimp only at hm9
  obtain ⟨x10, hx11, hm12⟩ := bind1_some hm9
  replace hx11 := HC.get_cgraph_Node_some hx11
  clear hm9
  try dsimp only at hm12
  simp [hx8, hx11]
  apply hk6
  refine AWp.condK fun A13 B14 ga15 gb16 => ?_
  rcases ite_some hm12 with ⟨hc17, hm18⟩ | ⟨hc17, hm19⟩
  · clear hm12
    simp [hx8, hx11, hc17]
    apply ga15
    refine AWp.sr [] fun K20 hk21 => ?_
    simp [hx8, hx11, hc17]
    apply hk21
    refine AWp.ret ?_
    obtain rfl := Option.some.inj hm18
    simp [retQ, hx8, hx11, hc17]
  clear hm12
  simp [hx8, hx11, hc17]
  apply gb16
  refine AWp.skip ?_
  apply hk4
  refine AWp.sr [] fun K22 hk23 => ?_
  simp [hx8, hx11, hc17]
  apply hk23
  refine AWp.ret ?_
  obtain rfl := Option.some.inj hm19
  simp [retQ, hx8, hx11, hc17]

theorem enters106 : entersB Tryd.prog 106 = true := by kernel_rfl

theorem rg_graph_Node_count (T : Tabs) : ∀ (n : Nat), (∀ {H : Heap} {a0 : (Option Nat)} {a1 : Int} {nh : List HC} {r0 : Int} (hm : graph_Node_count n a0 a1 nh = some r0), ACall Tryd.prog T 106 [pav (List.length H) a0, AV.sc (.int .i64 a1)] (H ++ hmap (List.length H) nh) (AV.sc (.int .i64 r0)) (H ++ hmap (List.length H) nh)) := by
  intro n
  induction n with
  | zero =>
    skip
    all_goals
      intros
      rename_i hm
      cases hm
  | succ n ih =>
    intro H a0 a1 nh r0 hm
    rw [graph_Node_count] at hm
    refine ACallP.intro (fn := Tryd.f106) Tryd.func106 rfl enters106 (Nat.le_of_ble_eq_true rfl) ?_
    refine AWp.sr [] fun K1 hk2 => ?_
    simp
    apply hk2
    refine AWp.seqK fun K3 hk4 => ?_
    refine AWp.sr [] fun K5 hk6 => ?_
    obtain ⟨x7, hx8, hm9⟩ := bind1_some hm
    clear hm
    try dsimp only at hm9
    obtain ⟨x10, hx11, hm12⟩ := bind1_some hm9
    replace hx11 := HC.get_cgraph_Node_some hx11
    clear hm9
    try dsimp only at hm12
    simp [hx8, hx11]
    apply hk6
    refine AWp.condK fun A13 B14 ga15 gb16 => ?_
    rcases ite_some hm12 with ⟨hc17, hm18⟩ | ⟨hc17, hm19⟩
    · clear hm12
      simp [hx8, hx11, hc17]
      apply ga15
      refine AWp.sr [] fun K20 hk21 => ?_
      simp [hx8, hx11, hc17]
      apply hk21
      refine AWp.ret ?_
      obtain rfl := Option.some.inj hm18
      simp [retQ, hx8, hx11, hc17]
    clear hm12
    simp [hx8, hx11, hc17]
    apply gb16
    refine AWp.skip ?_
    apply hk4
    refine AWp.seqK fun K22 hk23 => ?_
    refine AWp.sr [] fun K24 hk25 => ?_
    simp [hx8, hx11, hc17]
    apply hk25
    refine AWp.condK fun A26 B27 ga28 gb29 => ?_
    rcases ite_some hm19 with ⟨hc30, hm31⟩ | ⟨hc30, hm32⟩
    · clear hm19
      simp [hx8, hx11, hc17, hc30]
      apply ga28
      refine AWp.seqK fun K33 hk34 => ?_
      refine AWp.sr [] fun K35 hk36 => ?_
      simp [hx8, hx11, hc17, hc30]
      apply hk36
      refine AWp.condK fun A37 B38 ga39 gb40 => ?_
      rcases ite_some hm31 with ⟨hc41, hm42⟩ | ⟨hc41, hm43⟩
      · clear hm31
        simp [hx8, hx11, hc17, hc30, hc41]
        apply ga39
        refine AWp.sr [] fun K44 hk45 => ?_
        simp [hx8, hx11, hc17, hc30, hc41]
        apply hk45
        refine AWp.ret ?_
        obtain rfl := Option.some.inj hm42
        simp [retQ, hx8, hx11, hc17, hc30, hc41]
      clear hm31
      simp [hx8, hx11, hc17, hc30, hc41]
      apply gb40
      refine AWp.skip ?_
      apply hk34
      refine AWp.sr [] fun K46 hk47 => ?_
      simp [hx8, hx11, hc17, hc30, hc41]
      apply hk47
      refine AWp.ret ?_
      obtain rfl := Option.some.inj hm43
      simp [retQ, hx8, hx11, hc17, hc30, hc41]
    clear hm19
    simp [hx8, hx11, hc17, hc30]
    apply gb29
    refine AWp.skip ?_
    apply hk23
    refine AWp.sr [] fun K48 hk49 => ?_
    simp [hx8, hx11, hc17, hc30]
    apply hk49
    refine AWp.seqK fun K50 hk51 => ?_
    refine AWp.sr [] fun K52 hk53 => ?_
    simp [hx8, hx11, hc17, hc30]
    apply hk53
    obtain ⟨hok54, hm55⟩ := chk_some hm32
    clear hm32
    obtain ⟨F56, hF57, hm58⟩ := joinB_some hm55
    clear hm55
    try dsimp only at hm58
    obtain ⟨out59, hl60, hmB61⟩ := bind1_some hm58
    clear hm58
    refine AWp.blockK fun Q62 nn63 ne64 nx65 nr66 => ?_
    refine AWp.loopF (fun n67 fr h => ∃ (i68 : Nat) (j69 : Int) (v70 : Int), H ++ hmap (List.length H) nh = h ∧ (fr.env 0 = pav (List.length H) a0 ∧ fr.env 1 = AV.sc (.int .i64 a1) ∧ fr.env 5 = AV.sc (.int .i64 v70) ∧ fr.env 28 = AV.slice .frz (List.map (pav (List.length H)) x10.args) ∧ fr.env 29 = AV.sc (.int .i64 (llen x10.args)) ∧ fr.env 30 = AV.sc (.int .i64 j69)) ∧ j69 = (i68 : Int) ∧ i68 + n67 = List.length x10.args ∧ forR F56 (List.drop i68 x10.args) i68 v70 = some out59) (List.length x10.args) ?_ ?_
    · refine ⟨0, 0, 0, ?_, ⟨?_, ?_, ?_, ?_, ?_, ?_⟩, rfl, (by simp), hl60⟩ <;> first | rfl | simp [hx8, hx11, hc17, hc30]
    rintro n67 fr71 h71 ⟨i68, j69, v70, rfl, E71, hj72, hi73, hl60⟩ K74 hK75
    rcases n67 with _ | n67
    · have hlt76 := ilt_notJ (l := x10.args) hj72 (by omega)
      refine AWp.sr [] fun K77 hk78 => ?_
      simp [E71, hx8, hx11, hlt76, hc17, hc30]
      apply hk78
      refine AWp.seqK fun K79 hk80 => ?_
      refine AWp.condK fun A81 B82 ga83 gb84 => ?_
      simp [E71, hx8, hx11, hlt76, hc17, hc30]
      apply gb84
      refine AWp.exit ?_
      apply ne64
      rw [List.drop_eq_nil_of_le (by omega), forR_nil] at hl60
      obtain rfl := Option.some.inj hl60
      rw [sumK_inl] at hmB61
      try dsimp only at hmB61
      apply hk51
      refine AWp.sr [] fun K85 hk86 => ?_
      simp [E71, hx8, hx11, hlt76, hc17, hc30]
      apply hk86
      refine AWp.ret ?_
      obtain rfl := Option.some.inj hmB61
      simp [retQ, E71, hx8, hx11, hlt76, hc17, hc30]
    have hlt76 := ilt_ofJ (l := x10.args) hj72 (by omega)
    obtain ⟨x87, hdn67, hg88⟩ := drop_ltJ (l := x10.args) hj72 (by omega)
    rw [hdn67, forR_cons] at hl60
    obtain ⟨c89, hb90, hk91⟩ := bind1_some hl60
    clear hl60
    rw [hF57, ← hj72] at hb90
    try dsimp only at hb90
    refine AWp.sr [] fun K92 hk93 => ?_
    simp [E71, hx8, hx11, hlt76, hg88, hc17, hc30]
    apply hk93
    refine AWp.seqK fun K94 hk95 => ?_
    refine AWp.condK fun A96 B97 ga98 gb99 => ?_
    simp [E71, hx8, hx11, hlt76, hg88, hc17, hc30]
    apply ga98
    refine AWp.skip ?_
    apply hk95
    refine AWp.seqK fun K100 hk101 => ?_
    refine AWp.blockK fun Q102 nn103 ne104 nx105 nr106 => ?_
    refine AWp.sr [] fun K107 hk108 => ?_
    simp [E71, hx8, hx11, hlt76, hg88, hc17, hc30]
    apply hk108
    refine AWp.region [] (by decide +kernel) ?_
    obtain ⟨x109, hx110, hm111⟩ := bind1_some hb90
    clear hb90
    try dsimp only at hm111
    simp [E71, hx8, hx11, hlt76, hg88, hc17, hc30]
    refine CallAt.fn (r_graph_Node_below T (H := H) hx110) ?_
    obtain ⟨x112, hx113, hm114⟩ := bind1_some hm111
    clear hm111
    try dsimp only at hm114
    simp [E71, hx8, hx11, hlt76, hg88, hc17, hc30]
    refine CallAt.fn (ih (H := H) hx113) ?_
    simp [E71, hx8, hx11, hlt76, hg88, hc17, hc30]
    apply nn103
    apply hk101
    refine AWp.region [] (by decide +kernel) ?_
    simp [E71, hx8, hx11, hlt76, hg88, hc17, hc30]
    obtain rfl := Option.some.inj hm114
    rw [ctlK_next] at hk91
    refine hK75 _ _ n67 (Nat.lt_succ_self _) ⟨(i68 + 1), (iadd .i64 j69 1), (iadd .i64 v70 x112), ?_, ⟨?_, ?_, ?_, ?_, ?_, ?_⟩, (iadd_idxJ hj72 (by omega) hok54), (by omega), hk91⟩ <;> first | rfl | simp [E71, hx8, hx11, hlt76, hg88, hc17, hc30]
theorem r_graph_Node_count (T : Tabs) {H : Heap} {a0 : (Option Nat)} {a1 : Int} {nh : List HC} {r0 : Int} {n : Nat} (hm : graph_Node_count n a0 a1 nh = some r0) : ACall Tryd.prog T 106 [pav (List.length H) a0, AV.sc (.int .i64 a1)] (H ++ hmap (List.length H) nh) (AV.sc (.int .i64 r0)) (H ++ hmap (List.length H) nh) := (rg_graph_Node_count T n) hm

end Go.Proofs.YtnabbjnhemmkhaaDoor
