/- A part of the proof of TypesLevelsSaid: contracts of functions of the program, and what they need. -/
import Derived.Test.YtnbbnjmjpnncfaaTyD
namespace Go.Proofs.Ytnbbnjmjpnncfaa
set_option linter.unusedSimpArgs false
set_option linter.unusedVariables false
open Go Go.Abs

/-- The type of functions of some arguments. -/
def Ty.funs (l : List Ty) (t : Ty) : Ty := l.foldr (fun a r => .mk 4 [a, r]) t
theorem Ty.nodes_funs (l : List Ty) (t : Ty) : (Ty.funs l t).nodes = t.nodes + Ty.nodesL l + l.length := by
  induction l with
  | nil => simp [Ty.funs, Ty.nodesL]
  | cons a l ih => simp only [Ty.funs, List.foldr_cons] at ih ⊢; rw [Ty.nodes_two, ih]; simp [Ty.nodesL]; omega
theorem Ty.cases_shape {k : Int} {l : List Ty} (h : (Ty.mk k l).shape = true) : ((k = 1 ∨ k = 2 ∨ k = 5) ∧ l = []) ∨ ((k = 3 ∨ k = 4) ∧ ∃ a b, l = [a, b] ∧ a.shape = true ∧ b.shape = true) := by
  rw [Ty.shape_mk] at h
  simp only [Bool.and_eq_true, decide_eq_true_eq] at h
  rcases Ty.want_some h.1 with ⟨h1, h2⟩ | ⟨h1, h2⟩
  · exact .inl ⟨h1, List.length_eq_zero_iff.1 h2⟩
  · refine .inr ⟨h1, ?_⟩
    match l, h2 with
    | [a, b], _ =>
      have := h.2
      simp [Ty.shapeL] at this
      exact ⟨a, b, rfl, this.1, this.2⟩
def firstErr : List Ty → Int
  | [] => 0
  | t :: l => if t.chk.2 ≠ 0 then t.chk.2 else firstErr l
def sumChk : List Ty → Int
  | [] => 0
  | t :: l => t.chk.1 + sumChk l
/-- What 'types.Function' returns. -/
def funct (l : List Ty) (t : Ty) : Ty × Int :=
  if firstErr (l ++ [t]) ≠ 0 then (.mk 0 [], firstErr (l ++ [t])) else if 64 < sumChk (l ++ [t]) + l.length then (.mk 0 [], 4) else (Ty.funs l t, 0)


theorem enters38 : entersB Try.prog 38 = true := by kernel_rfl
set_option maxRecDepth 20000 in
theorem c38a (T : Tabs) (H : Heap) (k : Int) (h3 : k ≠ 3) (h4 : k ≠ 4) : ACall Try.prog T 38 [(Ty.mk k []).av] H (.sc (.int .i64 (Ty.mk k []).lvl)) H := by
  refine ACallP.intro (fn := Try.f38) Try.func38 rfl enters38 (Nat.le_of_ble_eq_true rfl) ?_
  refine AWp.seqK fun K1 hk2 => ?_
  refine AWp.region [] (by decide +kernel) ?_
  simp [h3, h4, Ty.lvl_none]
  refine hk2 _ _ ?_
  refine AWp.seqK fun K3 hk4 => ?_
  refine AWp.seqK fun K5 hk6 => ?_
  refine AWp.region [] (by decide +kernel) ?_
  simp [h3, h4, Ty.lvl_none]
  refine hk6 _ _ ?_
  refine AWp.blockK fun Q7 nn8 ne9 nx10 nr11 => ?_
  refine AWp.seqK fun K12 hk13 => ?_
  refine AWp.region [] (by decide +kernel) ?_
  simp [h3, h4, Ty.lvl_none]
  refine hk13 _ _ ?_
  refine AWp.condK rfl fun A14 B15 ga_16 gb_17 => ?_
  simp [h3, h4, Ty.lvl_none]
  refine gb_17 _ _ ?_
  refine AWp.seqK fun K18 hk19 => ?_
  refine AWp.region [] (by decide +kernel) ?_
  simp [h3, h4, Ty.lvl_none]
  refine hk19 _ _ ?_
  refine AWp.condK rfl fun A20 B21 ga_22 gb_23 => ?_
  simp [h3, h4, Ty.lvl_none]
  refine gb_23 _ _ ?_
  refine AWp.skip ?_
  try simp only [thenQ_normal]
  refine nn8 _ _ ?_
  try simp only [thenQ_normal]
  refine hk4 _ _ ?_
  refine AWp.seqK fun K24 hk25 => ?_
  refine AWp.region [] (by decide +kernel) ?_
  simp [h3, h4, Ty.lvl_none]
  refine hk25 _ _ ?_
  refine AWp.ret ?_
  try simp only [thenQ_ret]
  simp [retQ, h3, h4, Ty.lvl_none]
set_option maxRecDepth 20000 in
theorem c38b (T : Tabs) (H : Heap) (a b : Ty) (ha : ∀ H, ACall Try.prog T 38 [a.av] H (.sc (.int .i64 a.lvl)) H) (hb : ∀ H, ACall Try.prog T 38 [b.av] H (.sc (.int .i64 b.lvl)) H) : ACall Try.prog T 38 [(Ty.mk 3 [a, b]).av] H (.sc (.int .i64 (Ty.mk 3 [a, b]).lvl)) H := by
  refine ACallP.intro (fn := Try.f38) Try.func38 rfl enters38 (Nat.le_of_ble_eq_true rfl) ?_
  refine AWp.seqK fun K1 hk2 => ?_
  refine AWp.region [] (by decide +kernel) ?_
  simp
  refine hk2 _ _ ?_
  refine AWp.seqK fun K3 hk4 => ?_
  refine AWp.seqK fun K5 hk6 => ?_
  refine AWp.region [] (by decide +kernel) ?_
  simp
  refine hk6 _ _ ?_
  refine AWp.blockK fun Q7 nn8 ne9 nx10 nr11 => ?_
  refine AWp.seqK fun K12 hk13 => ?_
  refine AWp.region [] (by decide +kernel) ?_
  simp
  refine hk13 _ _ ?_
  refine AWp.condK rfl fun A14 B15 ga_16 gb_17 => ?_
  simp
  refine ga_16 _ _ ?_
  refine AWp.seqK fun K18 hk19 => ?_
  refine AWp.regionD [] false mixed (by decide +kernel) (by decide +kernel) ?_
  simp
  refine CallAtD.fn0 (ha _) ?_
  simp
  refine CallAtD.fn0 (hb _) ?_
  simp
  refine hk19 _ _ ?_
  refine AWp.ret ?_
  try simp only [thenQ_ret]
  refine nr11 _ _ ?_
  try simp only [thenQ_ret]
  simp [retQ, Ty.lvl_two]
  omega
set_option maxRecDepth 20000 in
theorem c38c (T : Tabs) (H : Heap) (a b : Ty) (hn : a.nodes ≤ 1000000000) (ha : ∀ H, ACall Try.prog T 38 [a.av] H (.sc (.int .i64 a.lvl)) H) (hb : ∀ H, ACall Try.prog T 38 [b.av] H (.sc (.int .i64 b.lvl)) H) : ACall Try.prog T 38 [(Ty.mk 4 [a, b]).av] H (.sc (.int .i64 (Ty.mk 4 [a, b]).lvl)) H := by
  have hw := wrap_succ (n := a.lvl) (by have := a.lvl_nodes; omega)
  refine ACallP.intro (fn := Try.f38) Try.func38 rfl enters38 (Nat.le_of_ble_eq_true rfl) ?_
  refine AWp.seqK fun K1 hk2 => ?_
  refine AWp.region [] (by decide +kernel) ?_
  simp [hw]
  refine hk2 _ _ ?_
  refine AWp.seqK fun K3 hk4 => ?_
  refine AWp.seqK fun K5 hk6 => ?_
  refine AWp.region [] (by decide +kernel) ?_
  simp [hw]
  refine hk6 _ _ ?_
  refine AWp.blockK fun Q7 nn8 ne9 nx10 nr11 => ?_
  refine AWp.seqK fun K12 hk13 => ?_
  refine AWp.region [] (by decide +kernel) ?_
  simp [hw]
  refine hk13 _ _ ?_
  refine AWp.condK rfl fun A14 B15 ga_16 gb_17 => ?_
  simp [hw]
  refine gb_17 _ _ ?_
  refine AWp.seqK fun K18 hk19 => ?_
  refine AWp.region [] (by decide +kernel) ?_
  simp [hw]
  refine hk19 _ _ ?_
  refine AWp.condK rfl fun A20 B21 ga_22 gb_23 => ?_
  simp [hw]
  refine ga_22 _ _ ?_
  refine AWp.seqK fun K24 hk25 => ?_
  refine AWp.regionD [] false mixed (by decide +kernel) (by decide +kernel) ?_
  simp [hw]
  refine CallAtD.fn0 (ha _) ?_
  simp [hw]
  refine CallAtD.fn0 (hb _) ?_
  simp [hw]
  refine hk25 _ _ ?_
  refine AWp.ret ?_
  try simp only [thenQ_ret]
  refine nr11 _ _ ?_
  try simp only [thenQ_ret]
  simp [retQ, Ty.lvl_two]
  omega
theorem c38 (T : Tabs) : ∀ (n : Nat) (t : Ty), t.nodes ≤ n → n ≤ 1000000000 → t.shape = true → ∀ H : Heap, ACall Try.prog T 38 [t.av] H (.sc (.int .i64 t.lvl)) H := by
  intro n
  induction n with
  | zero => intro t h; have := t.nodes_pos; omega
  | succ n ih =>
    intro t h hn hs H
    cases t with
    | mk k l =>
      rcases Ty.cases_shape hs with ⟨hk, rfl⟩ | ⟨hk, a, b, rfl, ha, hb⟩
      · exact c38a T H k (by omega) (by omega)
      · rw [Ty.nodes_two] at h
        rcases hk with rfl | rfl
        · exact c38b T H a b (ih a (by omega) (by omega) ha) (ih b (by omega) (by omega) hb)
        · exact c38c T H a b (by omega) (ih a (by omega) (by omega) ha) (ih b (by omega) (by omega) hb)
theorem Ty.chk_ok {t : Ty} (h : t.chk.2 = 0) : t.shape = true ∧ t.nodes ≤ 64 ∧ t.chk = ((t.nodes : Int), 0) := by
  unfold Ty.chk at h ⊢
  split at h
  · simp at h
  · split at h
    · simp at h
    · rename_i h1 h2
      exact ⟨by simpa using h1, by omega, by simp [h1, h2]⟩
/-- What 'types.Level' returns. -/
def Ty.levelR (t : Ty) : Int × Int := if t.chk.2 ≠ 0 then (0, t.chk.2) else (t.lvl, 0)
theorem enters11 : entersB Try.prog 11 = true := by kernel_rfl
set_option maxRecDepth 20000 in
theorem c11 (T : Tabs) (H : Heap) (t : Ty) (hn : t.nodes ≤ 1000000000) : ACall Try.prog T 11 [t.av] H (.tuple [.sc (.int .i64 t.levelR.1), .sc (.int .i64 t.levelR.2)]) H := by
  refine ACallP.intro (fn := Try.f11) Try.func11 rfl enters11 (Nat.le_of_ble_eq_true rfl) ?_
  refine AWp.seqK fun K1 hk2 => ?_
  refine AWp.region [] (by decide +kernel) ?_
  simp
  refine hk2 _ _ ?_
  refine AWp.seqK fun K3 hk4 => ?_
  refine AWp.seqK fun K5 hk6 => ?_
  refine AWp.region [] (by decide +kernel) ?_
  simp
  refine CallAt.fn (c22 T t hn _) ?_
  simp
  refine hk6 _ _ ?_
  refine AWp.seqK fun K7 hk8 => ?_
  refine AWp.region [] (by decide +kernel) ?_
  simp
  refine hk8 _ _ ?_
  refine AWp.condK rfl fun A9 B10 ga_11 gb_12 => ?_
  simp
  first | refine ite_intro (fun cc13 => ga_11 _ _ ?_) (fun cc13 => gb_12 _ _ ?_) | refine ite_introN (fun cc13 => ga_11 _ _ ?_) (fun cc13 => gb_12 _ _ ?_)
  · skip
    have he := cc13
    refine AWp.seqK fun K14 hk15 => ?_
    refine AWp.region [] (by decide +kernel) ?_
    simp [cc13]
    refine hk15 _ _ ?_
    refine AWp.ret ?_
    try simp only [thenQ_ret]
    simp [retQ, Ty.levelR, he]
  · skip
    have he : t.chk.2 = 0 := by simpa using cc13
    refine AWp.skip ?_
    try simp only [thenQ_normal]
    refine hk4 _ _ ?_
    refine AWp.seqK fun K16 hk17 => ?_
    refine AWp.region [] (by decide +kernel) ?_
    simp [he]
    refine CallAt.fn (c38 T _ t (Nat.le_refl _) hn (Ty.chk_ok he).1 _) ?_
    simp [he]
    refine hk17 _ _ ?_
    refine AWp.ret ?_
    try simp only [thenQ_ret]
    simp [retQ, Ty.levelR, he]
theorem enters36 : entersB Try.prog 36 = true := by kernel_rfl
set_option maxRecDepth 20000 in
theorem c36x (T : Tabs) (H : Heap) (k : Int) (l : List Ty) (hn : l.length ≤ 1000000000) (ih : ∀ t ∈ l, ∀ (H : Heap), ACall Try.prog T 36 [t.av] H t.av H) : ACall Try.prog T 36 [(Ty.mk k l).av] H (Ty.mk k l).av H := by
  refine ACallP.intro (fn := Try.f36) Try.func36 rfl enters36 (Nat.le_of_ble_eq_true rfl) ?_
  refine AWp.seqK fun K1 hk2 => ?_
  refine AWp.region [] (by decide +kernel) ?_
  simp [Ty.av_mk, -Ty.agg_mk]
  refine hk2 _ _ ?_
  refine AWp.seqK fun K3 hk4 => ?_
  refine AWp.region [] (by decide +kernel) ?_
  simp [Ty.av_mk, -Ty.agg_mk]
  refine hk4 _ _ ?_
  refine AWp.seqK fun K5 hk6 => ?_
  refine AWp.seqK fun K7 hk8 => ?_
  refine AWp.region [] (by decide +kernel) ?_
  simp [Ty.av_mk, -Ty.agg_mk]
  refine hk8 _ _ ?_
  refine AWp.blockK fun Q9 nn10 ne11 nx12 nr13 => ?_
  refine AWp.loopI (fun fr h => ∃ i tag, H = h ∧ i ≤ l.length ∧ fr.env 12 = .sc (.int .i64 (i : Nat)) ∧ fr.env 11 = .sc (.int .i64 (l.length : Nat)) ∧ fr.env 10 = .slice .frz (l.map Ty.av) ∧ fr.env 2 = .lptr 2 1 0 ∧ fr.gen 2 = 1 ∧ fr.box 2 = some [.sc (.int .i64 0), .slice .full []] ∧ fr.env 3 = .lptr 3 1 0 ∧ fr.gen 3 = 1 ∧ fr.box 3 = some [.sc (.int .i64 k), .slice tag ((l.map Ty.av).take i)] ∧ canGrowT fr.tab fr.tgen tag ((l.map Ty.av).take i) = true) (fun fr h => match fr.env 12 with | .sc (.int _ n) => l.length - n.toNat | _ => 0) (⟨0, .full, by simp [Nat.zero_le, Ty.av_mk, -Ty.agg_mk]⟩) ?_
  rintro fr h ⟨i, tag, rfl, hi, e12_, e11_, e10_, e2_, g2_, b2_, e3_, g3_, b3_, hcg⟩
  refine AWp.seqK fun K14 hk15 => ?_
  refine AWp.region [] (by decide +kernel) ?_
  simp [Ty.av_mk, -Ty.agg_mk, e12_, e11_, e10_, e2_, g2_, b2_, e3_, g3_, b3_, hcg]
  refine hk15 _ _ ?_
  refine AWp.seqK fun K16 hk17 => ?_
  refine AWp.condK rfl fun A18 B19 ga_20 gb_21 => ?_
  simp [Ty.av_mk, -Ty.agg_mk, e12_, e11_, e10_, e2_, g2_, b2_, e3_, g3_, b3_, hcg]
  first | refine ite_intro (fun cc22 => ga_20 _ _ ?_) (fun cc22 => gb_21 _ _ ?_) | refine ite_introN (fun cc22 => ga_20 _ _ ?_) (fun cc22 => gb_21 _ _ ?_)
  · skip
    have hw := wrap_succ (n := i) (by omega)
    
    refine AWp.skip ?_
    try simp only [thenQ_normal]
    refine hk17 _ _ ?_
    refine AWp.seqK fun K23 hk24 => ?_
    refine AWp.blockK fun Q25 nn26 ne27 nx28 nr29 => ?_
    refine AWp.seqK fun K30 hk31 => ?_
    refine AWp.region [] (by decide +kernel) ?_
    simp [Ty.av_mk, -Ty.agg_mk, e12_, e11_, e10_, e2_, g2_, b2_, e3_, g3_, b3_, hcg, cc22, hw]
    refine hk31 _ _ ?_
    refine AWp.regionD [] false mixed (by decide +kernel) (by decide +kernel) ?_
    simp [Ty.av_mk, -Ty.agg_mk, e12_, e11_, e10_, e2_, g2_, b2_, e3_, g3_, b3_, hcg, cc22, hw]
    refine CallAtD.fn0 (ih _ (by simp) _) ?_
    simp [Ty.av_mk, -Ty.agg_mk, e12_, e11_, e10_, e2_, g2_, b2_, e3_, g3_, b3_, hcg, cc22, hw]
    refine ⟨grow_ok (by omega), ?_⟩
    refine nn26 _ _ ?_
    try simp only [thenQ_normal]
    refine hk24 _ _ ?_
    refine AWp.region [] (by decide +kernel) ?_
    simp [Ty.av_mk, -Ty.agg_mk, e12_, e11_, e10_, e2_, g2_, b2_, e3_, g3_, b3_, hcg, cc22, hw]
    refine ⟨⟨i + 1, by omega, by simp, _, ⟨rfl, take_succ_map Ty.av l i (by omega)⟩, by simp; omega⟩, by omega⟩
  · skip
    refine AWp.exit ?_
    try simp only [thenQ_exit]
    refine ne11 _ _ ?_
    try simp only [thenQ_normal]
    refine hk6 _ _ ?_
    refine AWp.seqK fun K32 hk33 => ?_
    refine AWp.region [] (by decide +kernel) ?_
    simp [Ty.av_mk, -Ty.agg_mk, e12_, e11_, e10_, e2_, g2_, b2_, e3_, g3_, b3_, hcg, cc22]
    refine hk33 _ _ ?_
    refine AWp.ret ?_
    try simp only [thenQ_ret]
    simp [retQ, take_all_map Ty.av l i (by omega), Ty.av_mk, -Ty.agg_mk, e12_, e11_, e10_, e2_, g2_, b2_, e3_, g3_, b3_, hcg, cc22]
theorem c36 (T : Tabs) : ∀ (n : Nat) (t : Ty), t.nodes ≤ n → n ≤ 1000000000 → ∀ H : Heap, ACall Try.prog T 36 [t.av] H t.av H := by
  intro n
  induction n with
  | zero => intro t h; have := t.nodes_pos; omega
  | succ n ih =>
    intro t h hn H
    cases t with
    | mk k l =>
      rw [Ty.nodes_mk] at h
      have := Ty.nodesL_len l
      refine c36x T H k l (by omega) fun u hu H => ih u ?_ (by omega) H
      have := Ty.nodesL_mem hu
      omega
theorem c36' (T : Tabs) (t : Ty) (h : t.nodes ≤ 1000000000) (H : Heap) : ACall Try.prog T 36 [t.av] H t.av H := c36 T _ t h (Nat.le_refl _) H
end Go.Proofs.Ytnbbnjmjpnncfaa
