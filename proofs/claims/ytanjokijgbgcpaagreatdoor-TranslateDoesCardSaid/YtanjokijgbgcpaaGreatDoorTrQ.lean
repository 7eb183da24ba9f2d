/-
  The translation of formulas: the law TranslateDoes.
-/
import Derived.Test.YtanjokijgbgcpaaGreatDoorTrP
set_option maxRecDepth 20000
set_option linter.unusedSimpArgs false
set_option linter.unusedVariables false
namespace Go.Mdl
open Go

theorem tree_Own_eq : ∀ (n : Nat) (t : Tm), t.wt ≤ n → t.wt ≤ 1000000000 → tree_Own n t = some t := by
  intro n
  induction n with
  | zero => intro t h; have := t.wt_pos; omega
  | succ n ih =>
    intro t h hb
    cases t with
    | mk k i s l =>
      rw [Tm.wt_mk] at h hb
      have hl := Tm.len_wt l
      rw [tree_Own]
      simp only [Tm.args_mk, Tm.kind_mk, Tm.index_mk, Tm.typeF_mk, joinB_eq, okLen_of (l := l) (by omega), chk_true]
      rw [forR_map id l 0 [] (by simp; omega)]
      · simp [tree_OwnType' (t := s) (by omega)]
      · intro j x v hx hv
        have := sumL_mem Tm.wt hx
        rw [ih x (by omega) (by omega)]
        simp [okApp_of (l := v) (m := [x]) (by simpa using hv)]
theorem reb_free {h : Tm → Int → Option Tm} {ψ : Tm → Int → Tm} (hh : ∀ t b, t.ok = true → t.nodes ≤ 10000000 → h t b = some (ψ t b)) : ∀ (n : Nat) (f : Fm) (b : Int), f.nodes ≤ n → f.nodes ≤ 10000000 → f.ok = true → 0 ≤ b → b + f.nodes ≤ 1000000000 →
    tree_RebuildFormula n f b (fun (s : Unit) (y0 : Tm) (y1 : Int) => pureW (h y0 y1) s) () = some (f.reb ψ b, ()) := by
  intro n
  induction n with
  | zero => intro f b h; have := f.nodes_pos; omega
  | succ n ih =>
    intro f b hn hb ho h0 hbn
    cases f with
    | mk k s ts l =>
      rw [Fm.nodes_mk] at hn hb hbn
      have hlt := sumL_len Tm.nodes ts fun t _ => t.nodes_pos
      have hll := sumL_len Fm.nodes l fun t _ => t.nodes_pos
      obtain ⟨hty, hot, hol⟩ := Fm.ok_parts ho
      rw [tree_RebuildFormula, Fm.reb_mk]
      simp only [Fm.typeF_mk, Fm.args_mk, Fm.kind_mk, Fm.terms_mk, joinB_eq]
      rw [tree_OwnType' (by omega), bind1_of, okLen_of (by omega), chk_true]
      have hqb := qB_bd k
      have loop1 : ∀ (us : List Tm) (j : Nat) (v : List Tm), (∀ t ∈ us, t ∈ ts) → v.length + us.length ≤ 50000000 →
          forR (fun (j51 : Int) (x53 : Tm) => (un2 fun (v91 : (List Tm)) (v92 : Unit) =>
            bind2 (pureW (h x53 b) v92) fun x112 x113 =>
            chk (okApp v91 [x112]) <|
            some ((.next ((lapp v91 [x112]), x113)) : Ctl ((List Tm) × Unit) (Fm × Unit)))) us j (v, ()) = some (.inl (v ++ us.map (fun t => ψ t b), ())) := by
        intro us
        induction us with
        | nil => intro j v _ _; simp
        | cons t us iht =>
          intro j v hm hv
          simp only [List.length_cons] at hv
          have htl := hm t (by simp)
          have hmn := sumL_mem Tm.nodes htl
          rw [forR_cons]
          simp only [un2]
          rw [hh t b (hot t htl) (by omega), pureW_some', bind2_of, okApp_of (by simp; omega), chk_true]
          simp only [bind1_of, ctlK_next]
          rw [lapp_eq]
          have := iht (j + 1) (v ++ [ψ t b]) (fun u hu => hm u (by simp [hu])) (by simp; omega)
          rw [this]
          simp
      rw [loop1 ts 0 [] (fun t h => h) (by simp; omega), bind1_of]
      simp only [sumK_inl, un2]
      rw [tree_Quantifier_eq, bind1_of]
      have loop2 : ∀ (us : List Fm) (j : Nat) (v : List Fm), (∀ t ∈ us, t ∈ l) → v.length + us.length ≤ 50000000 →
          forR (fun (j171 : Int) (x173 : Fm) => (un2 fun (v211 : (List Fm)) (v212 : Unit) =>
            bind2 (tree_RebuildFormula n x173 (b + qB k) (fun (s : Unit) (y0 : Tm) (y1 : Int) => pureW (h y0 y1) s) v212) fun x232 s233 =>
            chk (okApp v211 [x232]) <|
            some ((.next ((lapp v211 [x232]), s233)) : Ctl ((List Fm) × Unit) (Fm × Unit)))) us j (v, ()) = some (.inl (v ++ us.map (Fm.reb ψ (b + qB k)), ())) := by
        intro us
        induction us with
        | nil => intro j v _ _; simp
        | cons t us iht =>
          intro j v hm hv
          simp only [List.length_cons] at hv
          have htl := hm t (by simp)
          have hmn := sumL_mem Fm.nodes htl
          rw [forR_cons]
          simp only [un2]
          rw [ih t (b + qB k) (by omega) (by omega) (hol t htl) (by omega) (by omega), bind2_of, okApp_of (by simp; omega), chk_true]
          simp only [bind1_of, ctlK_next]
          rw [lapp_eq]
          have := iht (j + 1) (v ++ [t.reb ψ (b + qB k)]) (fun u hu => hm u (by simp [hu])) (by simp; omega)
          rw [this]
          simp
      have fin : (chk (okLen l) <| bind1 (forR (fun (j171 : Int) (x173 : Fm) => (un2 fun (v211 : (List Fm)) (v212 : Unit) =>
            bind2 (tree_RebuildFormula n x173 (b + qB k) (fun (s : Unit) (y0 : Tm) (y1 : Int) => pureW (h y0 y1) s) v212) fun x232 s233 =>
            chk (okApp v211 [x232]) <|
            some ((.next ((lapp v211 [x232]), s233)) : Ctl ((List Fm) × Unit) (Fm × Unit)))) l 0 ([], ())) (sumK (un2 fun (v211 : (List Fm)) (v212 : Unit) => some ((Fm.mk k s ([] ++ ts.map fun t => ψ t b) v211), v212)) (fun r => some r))) =
          some (Fm.mk k s (ts.map fun t => ψ t b) (l.map (Fm.reb ψ (b + qB k))), ()) := by
        rw [okLen_of (by omega), chk_true, loop2 l 0 [] (fun t h => h) (by simp; omega), bind1_of]
        simp
      by_cases hq : quantB k = true
      · rw [if_pos hq]
        have e1 : b + qB k = b + 1 := by unfold qB; rw [if_pos hq]
        rw [e1] at fin ⊢
        rw [iadd_in (by omega) (by omega)]
        exact fin
      · rw [if_neg hq]
        have e1 : b + qB k = b := by unfold qB; rw [if_neg hq]; omega
        rw [e1] at fin ⊢
        exact fin
theorem Fm.reb_id (f : Fm) : ∀ b, f.reb (fun t _ => t) b = f := by
  induction f using Fm.ind with
  | h k s ts l ih =>
    intro b
    rw [Fm.reb_mk]
    congr 1
    · simp
    · exact map_id' fun x hx => ih x hx _
theorem own_eq {f : Fm} (ho : f.ok = true) (hn : f.nodes ≤ 10000000) : tree_OwnFormula f = some f := by
  unfold tree_OwnFormula
  rw [reb_free (h := tree_OwnFormula_1) (ψ := fun t _ => t) (fun t b h h1 => ?_) FU f 0 (by have := FU_eq; omega) hn ho (by omega) (by omega)]
  · rw [bind2_of, Fm.reb_id]
  · unfold tree_OwnFormula_1
    have := Tm.ok_wt t h
    rw [tree_Own_eq FU t (by rw [FU_eq]; omega) (by omega)]
    rfl
theorem imul_two {c : Nat} (hc : c ≤ 1000000) : imul .i64 2 (c : Int) = ((2 * c : Nat) : Int) := by unfold imul; rw [IntKind.wrap_i64]; omega
theorem iadd3 {a b c : Int} (ha : 0 ≤ a) (ha2 : a ≤ 1000000000000) (hb : 0 ≤ b) (hb2 : b ≤ 1000000000000) (hc : 0 ≤ c) (hc2 : c ≤ 1000000000000) : iadd .i64 (iadd .i64 a b) c = a + b + c := by
  rw [iadd_in (a := a) (b := b) (by omega) (by omega), iadd_in (by omega) (by omega)]
/-- A number, cut off one above the limit. -/
def cutN (n : Nat) : Int := if n ≤ 4097 then (n : Int) else 4097
theorem imin_cut (n : Nat) : imin (n : Int) 4097 = cutN n := by unfold imin cutN; split <;> split <;> omega
theorem cutN_bd (n : Nat) : 0 ≤ cutN n ∧ cutN n ≤ 4097 ∧ (cutN n = n ∧ n ≤ 4097 ∨ cutN n = 4097 ∧ 4097 < n) := by unfold cutN; split <;> omega
theorem imin_sum {n : Nat} {v : Int} (h1 : v ≤ n) (h2 : v = n ∨ 4097 ≤ v) : imin v 4097 = cutN n := by unfold imin cutN; split <;> split <;> omega
/-- The size of a translation, in both forms. -/
def SzEq (c : Nat) (f : Fm) : Prop := f.uni = false → f.nodes ≤ 4096 → ∀ n, f.nodes ≤ n → translate_size n f c = some (f.tr c : Int) ∧ ref20_count n f c = some (cutN (f.tr c)) ∧ f.tr c ≤ 10000 * f.nodes
theorem size_eq {c : Nat} (hc : c ≤ 4096) (f : Fm) (hf : f.ok = true) : SzEq c f := by
  have him := imul_two (c := c) (by omega)
  have errz : ∀ {g : Fm}, g.ok = true → g.nodes ≤ 4096 → g.err = 0 := fun {g} h1 h2 => by unfold Fm.err; rw [if_pos h1, if_neg (by omega)]
  refine Fm.ok_cases (p := SzEq c) ?_ ?_ ?_ f hf
  · intro x y hx hy _ h4 n hn
    have hfo : (Fm.mk 1 (Ty.mk 0 []) [x, y] []).ok = true := by rw [Fm.ok_mk]; simp [hx, hy, Fm.node, Ty.zeroB_iff]
    have hnn : (Fm.mk 1 (Ty.mk 0 []) [x, y] []).nodes = 1 + sumL Tm.nodes [x, y] := by rw [Fm.nodes_mk]; simp [sumL]
    have htr : (Fm.mk 1 (Ty.mk 0 []) [x, y] []).tr c = 3 + sumL Tm.nodes [x, y] + 2 * c := by rw [Fm.tr_mk]; simp
    have hw := Fm.ok_wt _ hfo
    have he := errz hfo h4
    have hp := (Fm.mk 1 (Ty.mk 0 []) [x, y] []).nodes_pos
    obtain ⟨n, rfl⟩ : ∃ m, n = m + 1 := ⟨n - 1, by omega⟩
    refine ⟨?_, ?_, by rw [htr]; omega⟩
    · rw [translate_size, tree_CheckFormula_eq (by omega), he]
      simp only [bind2_of, if_true, Fm.kind_mk, show ieq 1 1 = true from rfl]
      rw [him, htr, hnn, iadd3 (by omega) (by omega) (by omega) (by omega) (by omega) (by omega)]
      exact congrArg some (by omega)
    · rw [ref20_count]
      simp only [joinB_eq, Fm.kind_mk, show ieq 1 1 = true from rfl, if_true]
      rw [ref07_Count_eq FU _ (by rw [FU_eq]; omega) (by omega)]
      simp only [bind1_of]
      rw [him, hnn, iadd3 (by omega) (by omega) (by omega) (by omega) (by omega) (by omega), htr]
      rw [show ((1 + sumL Tm.nodes [x, y] : Nat) : Int) + ((2 * c : Nat) : Int) + 2 = ((3 + sumL Tm.nodes [x, y] + 2 * c : Nat) : Int) by omega, imin_cut]
  · intro kk x y hk hx hy px py hu h4 n hn
    have hfo := trTwo_ok hk hx hy
    rw [trTwo_nodes] at h4 hn
    have hu2 : x.uni = false ∧ y.uni = false := by
      rw [Fm.uni_mk] at hu
      simpa [Fm.uniL] using (Bool.or_eq_false_iff.1 hu).2
    have htr : (Fm.mk kk (Ty.mk 0 []) [] [x, y]).tr c = 1 + (x.tr c + y.tr c) := by
      rw [Fm.tr_mk, Fm.trL_two]
      rcases hk with rfl | rfl <;> simp
    have hx1 := x.nodes_pos
    have hy1 := y.nodes_pos
    have hnn : (Fm.mk kk (Ty.mk 0 []) [] [x, y]).nodes = 1 + x.nodes + y.nodes := trTwo_nodes
    have hw := Fm.ok_wt _ hfo
    have he := errz hfo (by omega)
    obtain ⟨n, rfl⟩ : ∃ m, n = m + 1 := ⟨n - 1, by omega⟩
    obtain ⟨a1, a2, a3⟩ := px hu2.1 (by omega) n (by omega)
    obtain ⟨b1, b2, b3⟩ := py hu2.2 (by omega) n (by omega)
    have k1 : ieq kk 1 = false := by rcases hk with rfl | rfl <;> rfl
    have k5 : ieq kk 5 = false := by rcases hk with rfl | rfl <;> rfl
    refine ⟨?_, ?_, by rw [htr, hnn]; omega⟩
    · rw [translate_size, tree_CheckFormula_eq (by omega), he]
      simp only [bind2_of, if_true, Fm.kind_mk, Fm.args_mk, k1, k5, Bool.false_eq_true, if_false, joinB_eq, okLen_of (l := [x, y]) (by simp), chk_true]
      simp only [forR_cons, forR_nil, a1, b1, bind1_of, ctlK_next, sumK_inl]
      rw [htr, iadd3 (by omega) (by omega) (by omega) (by omega) (by omega) (by omega)]
      exact congrArg some (by omega)
    · rw [ref20_count]
      simp only [joinB_eq, Fm.kind_mk, Fm.args_mk, k1, k5, Bool.false_eq_true, if_false, okLen_of (l := [x, y]) (by simp), chk_true]
      simp only [forR_cons, forR_nil, a2, b2, bind1_of, ctlK_next, sumK_inl]
      rw [htr]
      obtain ⟨c1, c2, c3⟩ := cutN_bd (x.tr c)
      obtain ⟨d1, d2, d3⟩ := cutN_bd (y.tr c)
      rw [iadd3 (by omega) (by omega) (by omega) (by omega) (by omega) (by omega), imin_sum (n := 1 + (x.tr c + y.tr c)) (by omega) (by omega)]
  · intro kk s x hk hs hx px hu h4 n hn
    rw [trQ_nodes] at h4 hn
    have hx1 := x.nodes_pos
    rw [Fm.uni_mk] at hu
    have hu1 := (Bool.or_eq_false_iff.1 hu).1
    have hu2 : x.uni = false := by simpa [Fm.uniL] using (Bool.or_eq_false_iff.1 hu).2
    simp only [decide_eq_false_iff_not] at hu1
    obtain ⟨n, rfl⟩ : ∃ m, n = m + 1 := ⟨n - 1, by omega⟩
    obtain ⟨a1, a2, a3⟩ := px hu2 (by omega) n (by omega)
    rcases hk with rfl | rfl | rfl | rfl
    · have htr : (Fm.mk 4 s [] [x]).tr c = 1 + x.tr c := by rw [Fm.tr_mk, Fm.trL_one]; simp
      have hnn : (Fm.mk 4 s [] [x]).nodes = 1 + x.nodes := trQ_nodes
      have hfo := trQ_ok hs hx
      have hw := Fm.ok_wt _ hfo
      have he := errz hfo (by omega)
      refine ⟨?_, ?_, by rw [htr, hnn]; omega⟩
      · rw [translate_size, tree_CheckFormula_eq (by omega), he]
        simp only [bind2_of, if_true, Fm.kind_mk, Fm.args_mk, show ieq 4 1 = false from rfl, show ieq 4 5 = false from rfl, Bool.false_eq_true, if_false, joinB_eq, okLen_of (l := [x]) (by simp), chk_true]
        simp only [forR_cons, forR_nil, a1, bind1_of, ctlK_next, sumK_inl]
        rw [htr, iadd_in (by omega) (by omega)]
        exact congrArg some (by omega)
      · rw [ref20_count]
        simp only [joinB_eq, Fm.kind_mk, Fm.args_mk, show ieq 4 1 = false from rfl, show ieq 4 5 = false from rfl, Bool.false_eq_true, if_false, okLen_of (l := [x]) (by simp), chk_true]
        simp only [forR_cons, forR_nil, a2, bind1_of, ctlK_next, sumK_inl]
        obtain ⟨c1, c2, c3⟩ := cutN_bd (x.tr c)
        rw [htr, iadd_in (by omega) (by omega), imin_sum (n := 1 + x.tr c) (by omega) (by omega)]
    · have htr : (Fm.mk 5 s [] [x]).tr c = 3 + 2 * c + x.tr c := by rw [Fm.tr_mk, Fm.trL_one]; simp
      have hnn : (Fm.mk 5 s [] [x]).nodes = 1 + x.nodes := trQ_nodes
      have hfo : (Fm.mk 5 s [] [x]).ok = true := by rw [Fm.ok_mk]; simp [hx, hs, Fm.node, quantB]
      have hw := Fm.ok_wt _ hfo
      have he := errz hfo (by omega)
      refine ⟨?_, ?_, by rw [htr, hnn]; omega⟩
      · rw [translate_size, tree_CheckFormula_eq (by omega), he]
        simp only [bind2_of, if_true, Fm.kind_mk, Fm.args_mk, show ieq 5 1 = false from rfl, show ieq 5 5 = true from rfl, Bool.false_eq_true, if_false, lget_zero, List.getElem?_cons_zero, bind1_of, a1]
        rw [him, htr, iadd3 (by omega) (by omega) (by omega) (by omega) (by omega) (by omega)]
        exact congrArg some (by omega)
      · rw [ref20_count]
        simp only [joinB_eq, Fm.kind_mk, Fm.args_mk, show ieq 5 1 = false from rfl, show ieq 5 5 = true from rfl, Bool.false_eq_true, if_false, if_true, lget_zero, List.getElem?_cons_zero, bind1_of, a2]
        obtain ⟨c1, c2, c3⟩ := cutN_bd (x.tr c)
        rw [him, htr, iadd3 (by omega) (by omega) (by omega) (by omega) (by omega) (by omega), imin_sum (n := 3 + 2 * c + x.tr c) (by omega) (by omega)]
    · exact (hu1 (.inl rfl)).elim
    · exact (hu1 (.inr rfl)).elim
theorem near1_eq (i b : Int) (s : Bool) : tree_Near_1 i b s = some (s && decide (i ≤ 536870912)) := by
  unfold tree_Near_1 ile
  cases s <;> simp
theorem each_near : ∀ (n : Nat) (t : Tm) (b : Int) (s : Bool), t.nodes ≤ n → t.nodes ≤ 10000000 → t.ok = true → tree_Each_1 n t b (fun (s : Bool) (y0 : Int) (y1 : Int) => tree_Near_1 y0 y1 s) s = some (s && t.least 536870912) := by
  intro n
  induction n with
  | zero => intro t b s h; have := t.nodes_pos; omega
  | succ n ih =>
    intro t b s hn hb ho
    cases t with
    | mk k i ty l =>
      rw [Tm.nodes_mk] at hn hb
      have hll := sumL_len Tm.nodes l fun t _ => t.nodes_pos
      rw [Tm.ok_mk] at ho
      simp only [Bool.and_eq_true, List.all_eq_true] at ho
      have loop : ∀ (us : List Tm) (bb : Int) (j : Nat) (v : Bool), (∀ t ∈ us, t ∈ l) →
          forR (fun (j13 : Int) (x15 : Tm) => (fun (v28 : Bool) =>
            bind1 (tree_Each_1 n x15 bb (fun (s : Bool) (y0 : Int) (y1 : Int) => tree_Near_1 y0 y1 s) v28) fun s38 =>
            some ((.next s38) : Ctl Bool Bool))) us j v = some (.inl (v && us.all (Tm.least 536870912))) := by
        intro us bb
        induction us with
        | nil => intro j v _; simp
        | cons t us iht =>
          intro j v hm
          have htl := hm t (by simp)
          have hmn := sumL_mem Tm.nodes htl
          rw [forR_cons, ih t bb v (by omega) (by omega) (ho.2 t htl)]
          simp only [bind1_of, ctlK_next]
          rw [iht (j + 1) _ (fun u hu => hm u (by simp [hu])), List.all_cons, Bool.and_assoc]
      rw [tree_Each_1, Tm.least_mk]
      have hinv := Tm.ok_inv (k := k) (i := i) (s := ty) (l := l) (by rw [Tm.ok_mk]; simp only [Bool.and_eq_true, List.all_eq_true]; exact ho)
      simp only [Tm.args_mk, Tm.kind_mk, Tm.index_mk, joinB_eq, okLen_of (l := l) (by omega), chk_true, bind1_of]
      have loop' := loop l (sel (ieq k 2) (iadd .i64 b 1) b) 0
      by_cases hk : k = 1
      · have h1 : ieq k 1 = true := by rw [hk]; rfl
        simp only [h1, if_true]
        rw [near1_eq]
        simp only [bind1_of]
        rw [loop' _ (fun t h => h)]
        simp [Bool.and_assoc]
      · have h1 : ieq k 1 = false := by simpa [ieq] using hk
        have hi := hinv.2.2.1 hk
        simp only [h1, Bool.false_eq_true, if_false]
        rw [loop' _ (fun t h => h)]
        simp [hi]
theorem near_eq {t : Tm} (ho : t.ok = true) (hn : t.nodes ≤ 10000000) : tree_Near t = some (t.least 536870912) := by
  unfold tree_Near tree_Each
  rw [each_near FU t 0 true (by rw [FU_eq]; omega) hn ho]
  simp
theorem eachTerm_near : ∀ (n : Nat) (f : Fm) (b : Int) (s : Bool), f.nodes ≤ n → f.nodes ≤ 10000000 → f.ok = true → tree_EachTerm n f b (fun (s : Bool) (y0 : Tm) (y1 : Int) => tree_NearFormula_1 y0 y1 s) s = some (s && f.least 536870912) := by
  intro n
  induction n with
  | zero => intro f b s h; have := f.nodes_pos; omega
  | succ n ih =>
    intro f b s hn hb ho
    cases f with
    | mk k ty ts l =>
      rw [Fm.nodes_mk] at hn hb
      have hlt := sumL_len Tm.nodes ts fun t _ => t.nodes_pos
      have hll := sumL_len Fm.nodes l fun t _ => t.nodes_pos
      obtain ⟨_, hot, hol⟩ := Fm.ok_parts ho
      have one : ∀ t ∈ ts, ∀ (bb : Int) (v : Bool), tree_NearFormula_1 t bb v = some (v && t.least 536870912) := by
        intro t ht bb v
        have hmn := sumL_mem Tm.nodes ht
        unfold tree_NearFormula_1
        cases v with
        | true => simp [near_eq (hot t ht) (by omega)]
        | false => simp
      have loop1 : ∀ (us : List Tm) (j : Nat) (v : Bool), (∀ t ∈ us, t ∈ ts) →
          forR (fun (j17 : Int) (x19 : Tm) => (fun (v32 : Bool) =>
            bind1 (tree_NearFormula_1 x19 b v32) fun x42 =>
            some ((.next x42) : Ctl Bool Bool))) us j v = some (.inl (v && us.all (Tm.least 536870912))) := by
        intro us
        induction us with
        | nil => intro j v _; simp
        | cons t us iht =>
          intro j v hm
          rw [forR_cons, one t (hm t (by simp))]
          simp only [bind1_of, ctlK_next]
          rw [iht (j + 1) _ (fun u hu => hm u (by simp [hu])), List.all_cons, Bool.and_assoc]
      have loop2 : ∀ (bb : Int) (us : List Fm) (j : Nat) (v : Bool), (∀ t ∈ us, t ∈ l) →
          forR (fun (j57 : Int) (x59 : Fm) => (fun (v72 : Bool) =>
            bind1 (tree_EachTerm n x59 bb (fun (s : Bool) (y0 : Tm) (y1 : Int) => tree_NearFormula_1 y0 y1 s) v72) fun s82 =>
            some ((.next s82) : Ctl Bool Bool))) us j v = some (.inl (v && us.all (Fm.least 536870912))) := by
        intro bb us
        induction us with
        | nil => intro j v _; simp
        | cons t us iht =>
          intro j v hm
          have htl := hm t (by simp)
          have hmn := sumL_mem Fm.nodes htl
          rw [forR_cons, ih t bb v (by omega) (by omega) (hol t htl)]
          simp only [bind1_of, ctlK_next]
          rw [iht (j + 1) _ (fun u hu => hm u (by simp [hu])), List.all_cons, Bool.and_assoc]
      rw [tree_EachTerm, Fm.least_mk]
      simp only [Fm.args_mk, Fm.kind_mk, Fm.terms_mk, joinB_eq]
      rw [okLen_of (by omega), chk_true, loop1 ts 0 s (fun t h => h)]
      simp only [bind1_of, sumK_inl]
      rw [tree_Quantifier_eq, bind1_of]
      by_cases hq : quantB k = true
      · rw [if_pos hq, okLen_of (by omega), chk_true, loop2 _ l 0 _ (fun t h => h)]
        simp [Bool.and_assoc]
      · rw [if_neg hq, okLen_of (by omega), chk_true, loop2 _ l 0 _ (fun t h => h)]
        simp [Bool.and_assoc]
theorem nearF_eq {f : Fm} (ho : f.ok = true) (hn : f.nodes ≤ 10000000) : tree_NearFormula f = some (f.least 536870912) := by
  unfold tree_NearFormula
  rw [eachTerm_near FU f 0 true (by rw [FU_eq]; omega) hn ho]
  simp
theorem uni_eq : ∀ (n : Nat) (f : Fm), f.nodes ≤ n → f.nodes ≤ 10000000 → ref20_uniform n f = some f.uni := by
  intro n
  induction n with
  | zero => intro f h; have := f.nodes_pos; omega
  | succ n ih =>
    intro f h hb
    cases f with
    | mk k s ts l =>
      rw [Fm.nodes_mk] at h hb
      have hll := sumL_len Fm.nodes l fun t _ => t.nodes_pos
      have huL : ∀ us : List Fm, Fm.uniL us = us.any Fm.uni := by
        intro us
        induction us with
        | nil => rfl
        | cons x us ih => rw [Fm.uniL, List.any_cons, ih]
      rw [ref20_uniform, Fm.uni_mk, huL]
      have hs : sel (ieq k 6) true (ieq k 7) = decide (k = 6 ∨ k = 7) := by
        by_cases h6 : k = 6 <;> by_cases h7 : k = 7 <;> simp [sel, ieq, h6, h7]
      simp only [Fm.args_mk, Fm.kind_mk, joinB_eq, hs]
      have key := forR_ok (ρ := Bool) (F := fun (j : Int) (x : Fm) (_ : Unit) => bind1 (ref20_uniform n x) fun b => if b = true then some (.ret true) else some (.next ())) (fun x => !x.uni) true l 0 (by
        intro j x hx
        have := sumL_mem Fm.nodes hx
        rw [ih x (by omega) (by omega)]
        simp only [bind1_of]
        cases x.uni <;> rfl)
      cases hd : decide (k = 6 ∨ k = 7) with
      | true => simp
      | false =>
        simp only [Bool.false_eq_true, if_false, okLen_of (l := l) (by omega), chk_true, Bool.false_or]
        rw [key]
        have : l.all (fun x => !x.uni) = !(l.any Fm.uni) := by
          clear key hll h hb
          induction l with
          | nil => rfl
          | cons x l ihl => rw [List.all_cons, List.any_cons, ihl, Bool.not_or]
        cases ha : l.any Fm.uni with
        | true => rw [this, ha]; rfl
        | false => rw [this, ha]; rfl
end Go.Mdl
