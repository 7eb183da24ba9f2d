/-
  Trees in shared objects: rows of nodes, each with a height; a kind and a slice over a lower row.
-/
import Derived.Test.YtnbbnjmjpnncfaaGsl
set_option linter.unusedSimpArgs false
set_option linter.unusedVariables false
namespace Go.Abs
open Go Go.Mdl

/-- A node: its kind, and what stands for the slice of its parts. -/
def nodeAV (p : Int × AV) : AV := .agg [sI p.1, p.2]
theorem nodeAV_cells (p : Int × AV) : (nodeAV p).cells.length = 2 := rfl
/-- A row: nodes, what is spare, and a height. -/
structure TRow where
  L : List (Int × AV)
  j : Nat
  k : Nat
def TRow.C (r : TRow) : List AV := arrC nodeAV r.L r.j
def Hof (H0 : Heap) (X : List TRow) : Heap := H0 ++ X.map TRow.C

theorem Hof_len (H0 : Heap) (X : List TRow) : (Hof H0 X).length = H0.length + X.length := by simp [Hof]
theorem Hof_at {H0 : Heap} {X : List TRow} {i : Nat} {r : TRow} (h : X[i]? = some r) : (Hof H0 X)[H0.length + i]? = some r.C := by
  unfold Hof
  rw [List.getElem?_append_right (by omega), Nat.add_sub_cancel_left, List.getElem?_map, h]
  rfl
theorem Hof_old {H0 : Heap} {X : List TRow} {o : Nat} (h : o < H0.length) : (Hof H0 X)[o]? = H0[o]? := by
  unfold Hof
  rw [List.getElem?_append_left h]
theorem Hof_set {H0 : Heap} {X : List TRow} {i : Nat} {r : TRow} : (Hof H0 X).set (H0.length + i) r.C = Hof H0 (X.set i r) := by
  unfold Hof
  rw [List.set_append_right _ _ (by omega), Nat.add_sub_cancel_left, List.map_set]
theorem Hof_app {H0 : Heap} {X : List TRow} {r : TRow} : Hof H0 X ++ [r.C] = Hof H0 (X ++ [r]) := by
  simp [Hof]

/-- A slice over a row of a lower height, or none. -/
def SOK (B : Nat) (X : List TRow) (b : Nat) (s : AV) : Prop :=
  s = .nul ∨ ∃ (i n cap : Nat) (r : TRow), s = .gsl (B + i) 0 n cap ∧ X[i]? = some r ∧ r.k < b ∧ n ≤ r.L.length ∧ n ≤ cap ∧ cap * 2 = r.L.length * 2 + r.j ∧ 0 < n
/-- All rows are short, and lead to lower ones. -/
def Reg (B W : Nat) (X : List TRow) : Prop := ∀ (i : Nat) (r : TRow), X[i]? = some r → r.L.length ≤ W ∧ 0 < r.L.length ∧ ∀ p ∈ r.L, SOK B X r.k p.2
/-- Rows have grown. -/
structure Ge (X X' : List TRow) : Prop where
  at_ : ∀ (i : Nat) (r : TRow), X[i]? = some r → ∃ r' : TRow, X'[i]? = some r' ∧ r'.k = r.k ∧ r.L.length ≤ r'.L.length ∧ r'.L.length * 2 + r'.j = r.L.length * 2 + r.j

theorem Ge.refl {X : List TRow} : Ge X X := ⟨fun i r h => ⟨r, h, rfl, Nat.le_refl _, rfl⟩⟩
theorem Ge.trans {X Y Z : List TRow} (h : Ge X Y) (h' : Ge Y Z) : Ge X Z := ⟨fun i r hr => by
  obtain ⟨r1, h1, h2, h3, h4⟩ := h.at_ i r hr
  obtain ⟨r2, g1, g2, g3, g4⟩ := h'.at_ i r1 h1
  exact ⟨r2, g1, by rw [g2, h2], Nat.le_trans h3 g3, by rw [g4, h4]⟩⟩
theorem Ge.app {X : List TRow} {r : TRow} : Ge X (X ++ [r]) := ⟨fun i r' h => ⟨r', by rw [List.getElem?_append_left (List.getElem?_eq_some_iff.1 h).1]; exact h, rfl, Nat.le_refl _, rfl⟩⟩
theorem Ge.set {X : List TRow} {i : Nat} {r r' : TRow} (h : X[i]? = some r) (hk : r'.k = r.k) (hl : r.L.length ≤ r'.L.length) (hj : r'.L.length * 2 + r'.j = r.L.length * 2 + r.j) : Ge X (X.set i r') := ⟨fun a q hq => by
  have hi := (List.getElem?_eq_some_iff.1 h).1
  by_cases e : i = a
  · subst e
    rw [h] at hq
    cases hq
    exact ⟨r', by rw [List.getElem?_set_self hi], hk, hl, hj⟩
  · exact ⟨q, by rw [List.getElem?_set_ne e]; exact hq, rfl, Nat.le_refl _, rfl⟩⟩
theorem SOK.ge {B b : Nat} {X X' : List TRow} {s : AV} (hg : Ge X X') (h : SOK B X b s) : SOK B X' b s := by
  rcases h with h | ⟨i, n, cap, r, h1, h2, h3, h4, h5, h6, h7⟩
  · exact .inl h
  · obtain ⟨r', g1, g2, g3, g4⟩ := hg.at_ i r h2
    exact .inr ⟨i, n, cap, r', h1, g1, by omega, by omega, h5, by omega, h7⟩
theorem SOK.up {B b b' : Nat} {X : List TRow} {s : AV} (hb : b ≤ b') (h : SOK B X b s) : SOK B X b' s := by
  rcases h with h | ⟨i, n, cap, r, h1, h2, h3, h4⟩
  · exact .inl h
  · exact .inr ⟨i, n, cap, r, h1, h2, by omega, h4⟩
theorem Reg.app {B W : Nat} {X : List TRow} {r : TRow} (h : Reg B W X) (hl : r.L.length ≤ W) (h0 : 0 < r.L.length) (hr : ∀ p ∈ r.L, SOK B X r.k p.2) : Reg B W (X ++ [r]) := by
  intro i q hq
  rcases Nat.lt_or_ge i X.length with hi | hi
  · rw [List.getElem?_append_left hi] at hq
    exact ⟨(h i q hq).1, (h i q hq).2.1, fun p hp => ((h i q hq).2.2 p hp).ge .app⟩
  · rw [List.getElem?_append_right hi] at hq
    have : i - X.length = 0 := by
      rcases hh : i - X.length with _ | m
      · rfl
      · rw [hh] at hq; simp at hq
    rw [this] at hq
    simp at hq
    subst hq
    exact ⟨hl, h0, fun p hp => (hr p hp).ge .app⟩
theorem Reg.set {B W : Nat} {X : List TRow} {i : Nat} {r r' : TRow} (h : Reg B W X) (hi : X[i]? = some r) (hk : r'.k = r.k) (hge : r.L.length ≤ r'.L.length) (hj : r'.L.length * 2 + r'.j = r.L.length * 2 + r.j) (hl : r'.L.length ≤ W) (hr : ∀ p ∈ r'.L, SOK B X r'.k p.2) : Reg B W (X.set i r') := by
  intro a q hq
  have hlt := (List.getElem?_eq_some_iff.1 hi).1
  have hg := Ge.set hi hk hge hj
  by_cases e : i = a
  · subst e
    rw [List.getElem?_set_self hlt] at hq
    cases hq
    exact ⟨hl, by have := (h i r hi).2.1; omega, fun p hp => (hr p hp).ge hg⟩
  · rw [List.getElem?_set_ne e] at hq
    exact ⟨(h a q hq).1, (h a q hq).2.1, fun p hp => ((h a q hq).2.2 p hp).ge hg⟩

/-! ### appends -/

theorem flat_nodes (L : List (Int × AV)) : (L.map nodeAV).flatMap AV.cells = L.flatMap fun p => [sI p.1, p.2] := by
  rw [List.flatMap_map]
  rfl
/-- What an append of a node to a slice over a row comes to. -/
inductive App1 (B : Nat) (X : List TRow) (b : Nat) : AV → (Int × AV) → AV → List TRow → Prop
  | nul {a cap} : 1 ≤ cap → App1 B X b .nul a (.gsl (B + X.length) 0 1 cap) (X ++ [⟨[a], (cap - 1) * 2, b⟩])
  | room {i n cap r a} : X[i]? = some r → n + 1 ≤ cap → n < r.L.length → App1 B X b (.gsl (B + i) 0 n cap) a (.gsl (B + i) 0 (n + 1) cap) (X.set i ⟨r.L.set n a, r.j, r.k⟩)
  | room2 {i cap r a} : X[i]? = some r → r.L.length + 1 ≤ cap → App1 B X b (.gsl (B + i) 0 r.L.length cap) a (.gsl (B + i) 0 (r.L.length + 1) cap) (X.set i ⟨r.L ++ [a], r.j - 2, r.k⟩)
  | new {i n cap r a cap'} : X[i]? = some r → n ≤ r.L.length → n + 1 ≤ cap' → App1 B X b (.gsl (B + i) 0 n cap) a (.gsl (B + X.length) 0 (n + 1) cap') (X ++ [⟨r.L.take n ++ [a], (cap' - (n + 1)) * 2, r.k⟩])

theorem AppG.node {P : Program} {t e d : Nat} {x s : AV} {K : Fr → Heap → Prop} {fr : Fr} {H0 : Heap} {X : List TRow} {W b bb : Nat} {a : Int × AV} {tag' : Tag} (hap : apOf P t = some (e, 2)) (hz : ∃ zs, zeroA P e = some zs) (hW : W < 1000)
    (hx : x = .slice tag' [nodeAV a]) (hs : SOK H0.length X b s) (hR : Reg H0.length W X)
    (hk : ∀ s' X', App1 H0.length X bb s a s' X' → K (fr.put (some d) s') (Hof H0 X')) : AppG P t s x d K fr (Hof H0 X) := by
  subst hx
  obtain ⟨zs, hz⟩ := hz
  unfold AppG
  rw [hap]
  refine ⟨rfl, by rw [hz]; rfl, by simp, ?_⟩
  rcases hs with rfl | ⟨i, n, cap, r, rfl, hi, h3, h4, h5, h6, h7⟩
  · refine ⟨by simp [growLim], fun cap hc => ?_⟩
    have := hk _ _ (.nul (cap := cap) (by simpa using hc))
    rw [← Hof_app] at this
    simpa [Hof_len, TRow.C, arrC] using this
  · have hrl := (hR i r hi).1
    have hfit : r.C.length = cap * 2 := by
      rw [TRow.C, arrC_length nodeAV_cells, h6]
    refine ⟨rfl, by simp only [List.length_singleton, growLim]; omega, ?_⟩
    rw [Hof_at hi]
    refine ⟨?_, hfit, fun hc => ?_, fun cap' h1 h2 => ?_⟩
    · unfold TRow.C arrC
      cases hL : r.L with
      | nil => rw [hL] at h4; simp at h4; omega
      | cons p l => rfl
    · simp only [List.length_singleton] at hc ⊢
      rcases Nat.lt_or_ge n r.L.length with hn | hn
      · have := hk _ _ (.room (a := a) (b := bb) hi hc hn)
        rw [← Hof_set] at this
        have e1 : setCells r.C (n * 2) ([nodeAV a].flatMap AV.cells) = TRow.C ⟨r.L.set n a, r.j, r.k⟩ := by
          have := arrC_set (k := r.j) nodeAV_cells (y := a) hn
          simpa [TRow.C] using this
        rw [e1]
        exact this
      · have hn' : n = r.L.length := by omega
        subst hn'
        have := hk _ _ (.room2 (a := a) (b := bb) hi hc)
        rw [← Hof_set] at this
        have e1 : setCells r.C (r.L.length * 2) ([nodeAV a].flatMap AV.cells) = TRow.C ⟨r.L ++ [a], r.j - 2, r.k⟩ := by
          have ht : r.C.take (r.L.length * 2) = (r.L.map nodeAV).flatMap AV.cells := arrC_take nodeAV_cells
          have hfl := map_flat_len nodeAV_cells r.L
          have hd : r.C.drop (r.L.length * 2 + 2) = junk (r.j - 2) := by
            unfold TRow.C arrC
            rw [List.drop_append, List.drop_eq_nil_of_le (by omega), List.nil_append, hfl]
            simp only [junk, List.drop_replicate]
            congr 1
            omega
          unfold setCells
          have h2 : ([nodeAV a].flatMap AV.cells).length = 2 := rfl
          rw [h2, ht, hd]
          unfold TRow.C arrC
          simp
        rw [e1]
        exact this
    · simp only [List.length_singleton] at h1 h2 ⊢
      have := hk _ _ (.new (a := a) (b := bb) (cap := cap) hi h4 h2)
      rw [← Hof_app] at this
      have e1 : r.C.take (n * 2) = ((r.L.take n).map nodeAV).flatMap AV.cells := by
        unfold TRow.C arrC
        have hfl := map_flat_len nodeAV_cells r.L
        rw [List.take_append_of_le_length (by rw [hfl]; exact Nat.mul_le_mul_right _ h4), ← flatMap_take (sz := 2) (by
          intro y hy
          obtain ⟨z, _, rfl⟩ := List.mem_map.1 hy
          rfl), List.map_take]
      rw [e1, Hof_len]
      simpa [TRow.C, arrC] using this

theorem set_row {X : List TRow} {H0 : Heap} {i : Nat} {r : TRow} (hi : X[i]? = some r) (C : List AV) (h : C = r.C) : (Hof H0 X).set (H0.length + i) C = Hof H0 X := by
  subst h
  rw [Hof_set]
  obtain ⟨hlt, h1⟩ := List.getElem?_eq_some_iff.1 hi
  rw [← h1, List.set_getElem_self hlt]
theorem setCells_twice {C a a' : List AV} {o : Nat} (hl : a.length = a'.length) (ho : o + a.length ≤ C.length) : setCells (setCells C o a) o a' = setCells C o a' := by
  unfold setCells
  have h1 : (C.take o).length = o := by rw [List.length_take]; omega
  have h2 : (C.take o ++ a ++ C.drop (o + a.length)).take o = C.take o := by rw [List.append_assoc, List.take_left' h1]
  have h3 : (C.take o ++ a ++ C.drop (o + a.length)).drop (o + a'.length) = C.drop (o + a'.length) := by
    rw [List.drop_append, List.drop_eq_nil_of_le (by simp only [List.length_append, h1]; omega), List.nil_append, List.length_append, h1, hl, Nat.sub_self, List.drop_zero]
  rw [h2, h3]
theorem setCells_mid {A a a' C : List AV} {o : Nat} (hA : A.length = o) (hl : a.length = a'.length) : setCells (A ++ a ++ C) o a' = A ++ a' ++ C := by
  unfold setCells
  have h1 : (A ++ a ++ C).take o = A := by rw [List.append_assoc, List.take_left' hA]
  have h2 : (A ++ a ++ C).drop (o + a'.length) = C := List.drop_left' (by simp [hA, hl])
  rw [h1, h2]
/-- The same, where what is appended is written over before it is looked at. -/
theorem AppG.raw {P : Program} {t e d : Nat} {x s : AV} {K : Fr → Heap → Prop} {fr : Fr} {H0 : Heap} {X : List TRow} {W b bb : Nat} {c : AV} {a : Int × AV} {tag' : Tag} (hap : apOf P t = some (e, 2)) (hz : ∃ zs, zeroA P e = some zs) (hW : W < 1000)
    (hc : c.cells.length = 2) (hx : x = .slice tag' [c]) (hs : SOK H0.length X b s) (hR : Reg H0.length W X)
    (hk : ∀ s' X' (i n cap : Nat) (r : TRow), App1 H0.length X bb s a s' X' → s' = .gsl (H0.length + i) 0 (n + 1) cap → X'[i]? = some r → n < r.L.length → r.L[n]? = some a → (s = .nul ∧ n = 0 ∨ ∃ i0 cap0, s = .gsl (H0.length + i0) 0 n cap0) →
      K (fr.put (some d) s') ((Hof H0 X').set (H0.length + i) (setCells r.C (n * 2) c.cells))) : AppG P t s x d K fr (Hof H0 X) := by
  subst hx
  obtain ⟨zs, hz⟩ := hz
  have hfc : [c].flatMap AV.cells = c.cells := by simp
  have hn2 : (nodeAV a).cells.length = c.cells.length := by rw [hc]; rfl
  unfold AppG
  rw [hap]
  refine ⟨by simp [headOk, hc], by rw [hz]; rfl, by simp, ?_⟩
  rcases hs with rfl | ⟨i, n, cap, r, rfl, hi, h3, h4, h5, h6, h7⟩
  · refine ⟨by simp [growLim], fun cap hc1 => ?_⟩
    simp only [List.length_singleton] at hc1 ⊢
    have := hk _ _ X.length 0 cap ⟨[a], (cap - 1) * 2, bb⟩ (.nul (b := bb) (a := a) (cap := cap) hc1) rfl (by simp) (by simp) (by simp) (.inl ⟨rfl, rfl⟩)
    rw [← Hof_app, ← Hof_len H0 X, List.set_append_right _ _ (Nat.le_refl _), Nat.sub_self] at this
    rw [hfc]
    have e1 : setCells (TRow.C ⟨[a], (cap - 1) * 2, bb⟩) (0 * 2) c.cells = c.cells ++ junk ((cap - 1) * 2) := by
      have := setCells_mid (A := []) (a := (nodeAV a).cells) (a' := c.cells) (C := junk ((cap - 1) * 2)) (o := 0 * 2) rfl hn2
      simpa [TRow.C, arrC] using this
    rw [e1] at this
    exact this
  · have hrl := (hR i r hi).1
    have hlt := (List.getElem?_eq_some_iff.1 hi).1
    have hfit : r.C.length = cap * 2 := by
      rw [TRow.C, arrC_length nodeAV_cells, h6]
    refine ⟨rfl, by simp only [List.length_singleton, growLim]; omega, ?_⟩
    rw [Hof_at hi]
    refine ⟨?_, hfit, fun hc1 => ?_, fun cap' h1 h2 => ?_⟩
    · unfold TRow.C arrC
      cases hL : r.L with
      | nil => rw [hL] at h4; simp at h4; omega
      | cons p l => rfl
    · simp only [List.length_singleton] at hc1 ⊢
      rw [hfc]
      have key : ∀ r' : TRow, r'.C = setCells r.C (n * 2) (nodeAV a).cells → (Hof H0 (X.set i r')).set (H0.length + i) (setCells r'.C (n * 2) c.cells) = (Hof H0 X).set (H0.length + i) (setCells r.C (n * 2) c.cells) := by
        intro r' hr'
        rw [hr', setCells_twice hn2 (by rw [hn2, hc, hfit]; omega), ← Hof_set, List.set_set]
      rcases Nat.lt_or_ge n r.L.length with hn | hn
      · have := hk _ _ i n cap ⟨r.L.set n a, r.j, r.k⟩ (.room (a := a) (b := bb) hi hc1 hn) rfl (by rw [List.getElem?_set_self hlt]) (by simpa using hn) (by simp [hn]) (.inr ⟨_, _, rfl⟩)
        rw [key] at this
        · exact this
        · exact (arrC_set (k := r.j) nodeAV_cells (y := a) hn).symm
      · have hn' : n = r.L.length := by omega
        subst hn'
        have := hk _ _ i r.L.length cap ⟨r.L ++ [a], r.j - 2, r.k⟩ (.room2 (a := a) (b := bb) hi hc1) rfl (by rw [List.getElem?_set_self hlt]) (by simp) (by simp) (.inr ⟨_, _, rfl⟩)
        rw [key] at this
        · exact this
        · have ht : r.C.take (r.L.length * 2) = (r.L.map nodeAV).flatMap AV.cells := arrC_take nodeAV_cells
          have hfl := map_flat_len nodeAV_cells r.L
          have hd : r.C.drop (r.L.length * 2 + 2) = junk (r.j - 2) := by
            unfold TRow.C arrC
            rw [List.drop_append, List.drop_eq_nil_of_le (by omega), List.nil_append, hfl]
            simp only [junk, List.drop_replicate]
            congr 1
            omega
          unfold setCells
          have h2 : (nodeAV a).cells.length = 2 := rfl
          rw [h2, ht, hd]
          unfold TRow.C arrC
          simp
    · simp only [List.length_singleton] at h1 h2 ⊢
      have hlL : (r.L.take n ++ [a]).length = n + 1 := by simp; omega
      have hat : (r.L.take n ++ [a])[n]? = some a := by
        rw [List.getElem?_append_right (by simp; omega)]
        have h0 : n - (r.L.take n).length = 0 := by simp; omega
        rw [h0]
        rfl
      have := hk _ _ X.length n cap' ⟨r.L.take n ++ [a], (cap' - (n + 1)) * 2, r.k⟩ (.new (a := a) (b := bb) (cap := cap) hi h4 h2) rfl (by simp) (by show n < (r.L.take n ++ [a]).length; omega) hat (.inr ⟨_, _, rfl⟩)
      rw [← Hof_app, ← Hof_len H0 X, List.set_append_right _ _ (Nat.le_refl _), Nat.sub_self] at this
      rw [hfc]
      have hfl := map_flat_len nodeAV_cells r.L
      have e1 : r.C.take (n * 2) = ((r.L.take n).map nodeAV).flatMap AV.cells := by
        unfold TRow.C arrC
        rw [List.take_append_of_le_length (by rw [hfl]; exact Nat.mul_le_mul_right _ h4), ← flatMap_take (sz := 2) (by
          intro y hy
          obtain ⟨z, _, rfl⟩ := List.mem_map.1 hy
          rfl), List.map_take]
      have e2 : setCells (TRow.C ⟨r.L.take n ++ [a], (cap' - (n + 1)) * 2, r.k⟩) (n * 2) c.cells = r.C.take (n * 2) ++ c.cells ++ junk ((cap' - (n + 1)) * 2) := by
        have := setCells_mid (A := r.C.take (n * 2)) (a := (nodeAV a).cells) (a' := c.cells) (C := junk ((cap' - (n + 1)) * 2)) (o := n * 2) (by rw [List.length_take]; omega) hn2
        rw [e1] at this ⊢
        simpa [TRow.C, arrC] using this
      rw [e2] at this
      exact this
theorem SOK.ncell {B b : Nat} {X : List TRow} {s : AV} (h : SOK B X b s) : s.ncell = s := by
  rcases h with rfl | ⟨i, n, cap, r, rfl, _⟩ <;> rfl
theorem SOK.isOne {B b : Nat} {X : List TRow} {s : AV} (h : SOK B X b s) : s.isOne = true := by
  rcases h with rfl | ⟨i, n, cap, r, rfl, _⟩ <;> rfl
theorem SOK.cells {B b : Nat} {X : List TRow} {s : AV} (h : SOK B X b s) : s.cells = [s] := by
  rcases h with rfl | ⟨i, n, cap, r, rfl, _⟩ <;> rfl
theorem SOK.nt {B b : Nat} {X : List TRow} {s : AV} (h : SOK B X b s) : notTuple s = true := by
  rcases h with rfl | ⟨i, n, cap, r, rfl, _⟩ <;> rfl

theorem SOK.inv {B b i n cap : Nat} {X : List TRow} {r : TRow} (h : SOK B X b (.gsl (B + i) 0 n cap)) (hi : X[i]? = some r) : r.k < b ∧ n ≤ r.L.length ∧ n ≤ cap ∧ cap * 2 = r.L.length * 2 + r.j ∧ 0 < n := by
  rcases h with h | ⟨i', n', cap', r', e, hi', h⟩
  · cases h
  · injection e with e1 e2 e3 e4
    have : i' = i := by omega
    subst this; subst e3; subst e4
    rw [hi] at hi'
    cases hi'
    exact h
/-- Such an append keeps all that is said of the rows. -/
theorem App1.ok {B W bb b : Nat} {X X' : List TRow} {s s' : AV} {a : Int × AV} (h : App1 B X bb s a s' X') (hR : Reg B W X) (hs : SOK B X b s) (ha : ∀ k, (s = .nul → k = bb) → (∀ (i n cap : Nat) (r : TRow), s = .gsl (B + i) 0 n cap → X[i]? = some r → r.k = k) → SOK B X k a.2) (hW : ∀ (i n cap : Nat) (r : TRow), s = .gsl (B + i) 0 n cap → X[i]? = some r → r.L.length + 1 ≤ W) (hW1 : 1 ≤ W) :
    Ge X X' ∧ Reg B W X' ∧ ∃ (i cap : Nat) (r : TRow) (n : Nat), s' = .gsl (B + i) 0 n cap ∧ X'[i]? = some r ∧ n ≤ r.L.length ∧ n ≤ cap ∧ cap * 2 = r.L.length * 2 + r.j ∧ 0 < n ∧ (s = .nul → r.k = bb ∧ n = 1) ∧ (∀ (i n0 cap : Nat) (r0 : TRow), s = .gsl (B + i) 0 n0 cap → X[i]? = some r0 → r.k = r0.k ∧ n = n0 + 1) := by
  have same : ∀ {i i' n n' cap cap' : Nat} {r r' : TRow}, AV.gsl (B + i) 0 n cap = .gsl (B + i') 0 n' cap' → X[i]? = some r → X[i']? = some r' → r' = r ∧ n' = n ∧ cap' = cap := by
    intro i i' n n' cap cap' r r' e hi hi'
    injection e with e1 e2 e3 e4
    have : i' = i := by omega
    subst this
    rw [hi] at hi'
    cases hi'
    exact ⟨rfl, e3.symm, e4.symm⟩
  cases h with
  | nul hc =>
    rename_i cap
    refine ⟨.app, hR.app hW1 (by simp) ?_, X.length, cap, ⟨[a], (cap - 1) * 2, bb⟩, 1, rfl, by simp, Nat.le_refl _, hc, ?_, by omega, fun _ => ⟨rfl, rfl⟩, ?_⟩
    · intro p hp
      simp only [List.mem_singleton] at hp
      subst hp
      exact ha bb (fun _ => rfl) (fun _ _ _ _ e => by cases e)
    · show cap * 2 = 1 * 2 + (cap - 1) * 2
      omega
    · intro i n0 cap r0 e
      cases e
  | room g1 g2 g3 =>
    rename_i i n cap r
    obtain ⟨h3, h4, h5, h6, h7⟩ := hs.inv g1
    have haa : SOK B X r.k a.2 := ha r.k (fun e => by cases e) (fun i' n' cap' r' e hi' => by rw [(same e g1 hi').1])
    refine ⟨Ge.set g1 rfl (by simp) (by simp), hR.set g1 rfl (by simp) (by simp) (by simp; have := hW _ _ _ _ rfl g1; omega) ?_, i, cap, ⟨r.L.set n a, r.j, r.k⟩, n + 1, rfl, by rw [List.getElem?_set_self (List.getElem?_eq_some_iff.1 g1).1], by simp; omega, g2, by simp; omega, by omega, ?_, ?_⟩
    · intro p hp
      rcases List.mem_or_eq_of_mem_set hp with hp | rfl
      · exact (hR i r g1).2.2 p hp
      · exact haa
    · intro e; cases e
    · intro i2 n0 cap2 r0 e h0
      obtain ⟨rfl, rfl, _⟩ := same e g1 h0
      exact ⟨rfl, rfl⟩
  | room2 g1 g2 =>
    rename_i i cap r
    obtain ⟨h3, h4, h5, h6, h7⟩ := hs.inv g1
    have haa : SOK B X r.k a.2 := ha r.k (fun e => by cases e) (fun i' n' cap' r' e hi' => by rw [(same e g1 hi').1])
    refine ⟨Ge.set g1 rfl (by simp) (by simp; omega), hR.set g1 rfl (by simp) (by simp; omega) (by simp; have := hW _ _ _ _ rfl g1; omega) ?_, i, cap, ⟨r.L ++ [a], r.j - 2, r.k⟩, r.L.length + 1, rfl, by rw [List.getElem?_set_self (List.getElem?_eq_some_iff.1 g1).1], by simp, g2, by simp; omega, by omega, ?_, ?_⟩
    · intro p hp
      rcases List.mem_append.1 hp with hp | hp
      · exact (hR i r g1).2.2 p hp
      · simp only [List.mem_singleton] at hp
        subst hp
        exact haa
    · intro e; cases e
    · intro i2 n0 cap2 r0 e h0
      obtain ⟨rfl, h1, _⟩ := same e g1 h0
      exact ⟨rfl, by omega⟩
  | new g1 g2 g3 =>
    rename_i i n cap r cap'
    obtain ⟨h3, h4, h5, h6, h7⟩ := hs.inv g1
    have haa : SOK B X r.k a.2 := ha r.k (fun e => by cases e) (fun i' n' cap' r' e hi' => by rw [(same e g1 hi').1])
    have hlt : (r.L.take n ++ [a]).length = n + 1 := by simp; omega
    refine ⟨.app, hR.app (by simp only; rw [hlt]; have := hW _ _ _ _ rfl g1; omega) (by simp only; rw [hlt]; omega) ?_, X.length, cap', ⟨r.L.take n ++ [a], (cap' - (n + 1)) * 2, r.k⟩, n + 1, rfl, by simp, by simp only; rw [hlt]; exact Nat.le_refl _, g3, by simp only; rw [hlt]; omega, by omega, ?_, ?_⟩
    · intro p hp
      rcases List.mem_append.1 hp with hp | hp
      · exact (hR i r g1).2.2 p (List.mem_of_mem_take hp)
      · simp only [List.mem_singleton] at hp
        subst hp
        exact haa
    · intro e; cases e
    · intro i2 n0 cap2 r0 e h0
      obtain ⟨rfl, rfl, _⟩ := same e g1 h0
      exact ⟨rfl, rfl⟩

/-! ### a slice that grows by one node after the other -/

theorem pre_at {X X2 : List TRow} (h : X2.take X.length = X) {a : Nat} {r : TRow} (hr : X[a]? = some r) : X2[a]? = some r := by
  have hlt := (List.getElem?_eq_some_iff.1 hr).1
  rw [← h, List.getElem?_take, if_pos hlt] at hr
  exact hr
theorem Ge.pre {X X2 : List TRow} (h : X2.take X.length = X) : Ge X X2 := ⟨fun i r hr => ⟨r, pre_at h hr, rfl, Nat.le_refl _, rfl⟩⟩
theorem pre_trans {X X2 X3 : List TRow} (h : X2.take X.length = X) (h' : X3.take X2.length = X2) : X3.take X.length = X := by
  have hl : X.length ≤ X2.length := by
    have := congrArg List.length h
    rw [List.length_take] at this
    omega
  rw [← h', List.take_take, Nat.min_eq_left hl] at h
  exact h
/-- The slice after some rounds; its row lies behind the first rows. -/
def GrwS (B p : Nat) (X : List TRow) (bb i : Nat) (s : AV) : Prop := (i = 0 ∧ s = .nul) ∨ (0 < i ∧ ∃ (a cap : Nat) (r : TRow), s = .gsl (B + a) 0 i cap ∧ p ≤ a ∧ X[a]? = some r ∧ r.k = bb ∧ r.L.length = i ∧ i ≤ cap ∧ cap * 2 = r.L.length * 2 + r.j)
theorem GrwS.sok {B p b bb i : Nat} {X : List TRow} {s : AV} (h : GrwS B p X bb i s) (hb : 0 < i → bb < b) : SOK B X b s := by
  rcases h with ⟨_, h⟩ | ⟨hi, a, cap, r, h1, _, h2, h3, h4, h5, h6⟩
  · exact .inl h
  · exact .inr ⟨a, i, cap, r, h1, h2, by rw [h3]; exact hb hi, by omega, h5, h6, hi⟩
theorem GrwS.pre {B p bb i : Nat} {X X2 : List TRow} {s : AV} (h : GrwS B p X bb i s) (h2 : X2.take X.length = X) : GrwS B p X2 bb i s := by
  rcases h with h | ⟨hi, a, cap, r, h1, h3, h4, h5⟩
  · exact .inl h
  · exact .inr ⟨hi, a, cap, r, h1, h3, pre_at h2 h4, h5⟩
theorem App1.grw {B W bb i p : Nat} {X X' : List TRow} {s s' : AV} {a : Int × AV} (h : App1 B X bb s a s' X') (hown : GrwS B p X bb i s) (hR : Reg B W X) (ha : SOK B X bb a.2) (hW : i + 1 ≤ W) (hp : p ≤ X.length) :
    GrwS B p X' bb (i + 1) s' ∧ Reg B W X' ∧ X'.take p = X.take p ∧ p ≤ X'.length := by
  rcases hown with ⟨rfl, rfl⟩ | ⟨hi, c, cap, r, rfl, g1, g2, g3, g4, g5, g6⟩
  · cases h with
    | nul hc =>
      rename_i cap
      refine ⟨.inr ⟨by omega, X.length, cap, ⟨[a], (cap - 1) * 2, bb⟩, rfl, hp, by simp, rfl, rfl, hc, ?_⟩, hR.app (by simpa using hW) (by simp) ?_, ?_, by simp; omega⟩
      · show cap * 2 = 1 * 2 + (cap - 1) * 2
        omega
      · intro q hq
        simp only [List.mem_singleton] at hq
        subst hq
        exact ha
      · rw [List.take_append_of_le_length hp]
  · have hc := (List.getElem?_eq_some_iff.1 g2).1
    generalize hs : AV.gsl (B + c) 0 i cap = s at h
    cases h with
    | nul => cases hs
    | room q1 q2 q3 =>
      injection hs with e1 e2 e3 e4
      rename_i i' n cap' r'
      have : i' = c := by omega
      subst this
      rw [q1] at g2
      cases g2
      omega
    | room2 q1 q2 =>
      injection hs with e1 e2 e3 e4
      rename_i i' cap' r'
      have : i' = c := by omega
      subst this
      have hrr : r' = r := by rw [q1] at g2; exact Option.some.inj g2
      subst hrr
      subst e4
      refine ⟨.inr ⟨by omega, i', cap, ⟨r'.L ++ [a], r'.j - 2, r'.k⟩, by rw [g4], g1, by rw [List.getElem?_set_self hc], g3, by simp [g4], by omega, by simp; omega⟩, hR.set q1 rfl (by simp) (by simp; omega) (by simp; omega) ?_, ?_, by simp; exact hp⟩
      · intro q hq
        rcases List.mem_append.1 hq with hq | hq
        · exact (hR _ _ q1).2.2 q hq
        · simp only [List.mem_singleton] at hq
          subst hq
          rw [g3]
          exact ha
      · rw [List.take_set, List.set_eq_of_length_le]
        rw [List.length_take]
        omega
    | new q1 q2 q3 =>
      injection hs with e1 e2 e3 e4
      rename_i i' n cap1 r' cap'
      have : i' = c := by omega
      subst this
      have hrr : r' = r := by rw [q1] at g2; exact Option.some.inj g2
      subst hrr
      subst e3; subst e4
      have hlt : (r'.L.take i ++ [a]).length = i + 1 := by simp; omega
      refine ⟨.inr ⟨by omega, X.length, cap', ⟨r'.L.take i ++ [a], (cap' - (i + 1)) * 2, r'.k⟩, rfl, hp, by simp, g3, hlt, q3, by simp only; rw [hlt]; omega⟩, hR.app (by simp only; rw [hlt]; exact hW) (by simp only; rw [hlt]; omega) ?_, ?_, by simp; omega⟩
      · intro q hq
        rcases List.mem_append.1 hq with hq | hq
        · exact (hR _ _ q1).2.2 q (List.mem_of_mem_take hq)
        · simp only [List.mem_singleton] at hq
          subst hq
          simp only
          rw [g3]
          exact ha
      · rw [List.take_append_of_le_length hp]

/-! ### single cells of nodes -/

theorem node_at {r : TRow} {q : Nat} {p : Int × AV} (hq : r.L[q]? = some p) : (r.C.drop (q * 2)).take 2 = [sI p.1, p.2] := arrC_at (k := r.j) nodeAV_cells hq
theorem node_cell0 {r : TRow} {q : Nat} {p : Int × AV} (hq : r.L[q]? = some p) : r.C[q * 2]? = some (sI p.1) := by
  have := congrArg (·[0]?) (node_at hq)
  simpa [List.getElem?_take, List.getElem?_drop] using this
theorem node_cell1 {r : TRow} {q : Nat} {p : Int × AV} (hq : r.L[q]? = some p) : r.C[q * 2 + 1]? = some p.2 := by
  have := congrArg (·[1]?) (node_at hq)
  simpa [List.getElem?_take, List.getElem?_drop] using this
theorem node_set {r : TRow} {q : Nat} (a : Int × AV) (hq : q < r.L.length) : setCells r.C (q * 2) [sI a.1, a.2] = TRow.C ⟨r.L.set q a, r.j, r.k⟩ := arrC_set (k := r.j) nodeAV_cells (y := a) hq
theorem drop_cons {C : List AV} {o : Nat} {c : AV} (h : C[o]? = some c) : C.drop o = c :: C.drop (o + 1) := by
  obtain ⟨hlt, rfl⟩ := List.getElem?_eq_some_iff.1 h
  exact List.drop_eq_getElem_cons hlt
theorem node_set0 {r : TRow} {q : Nat} {p : Int × AV} (hq : r.L[q]? = some p) (x : Int) : setCells r.C (q * 2) [sI x] = TRow.C ⟨r.L.set q (x, p.2), r.j, r.k⟩ := by
  rw [← node_set (x, p.2) (List.getElem?_eq_some_iff.1 hq).1]
  unfold setCells
  have := drop_cons (node_cell1 hq)
  simp only [List.length_singleton, List.length_cons, List.length_nil, Nat.zero_add, this]
  simp
theorem node_set1 {r : TRow} {q : Nat} {p : Int × AV} (hq : r.L[q]? = some p) (s : AV) : setCells r.C (q * 2 + 1) [s] = TRow.C ⟨r.L.set q (p.1, s), r.j, r.k⟩ := by
  rw [← node_set (p.1, s) (List.getElem?_eq_some_iff.1 hq).1]
  unfold setCells
  have h0 := node_cell0 hq
  have : r.C.take (q * 2 + 1) = r.C.take (q * 2) ++ [sI p.1] := by
    rw [List.take_add_one, h0]
    rfl
  rw [this]
  simp
theorem C_len (r : TRow) : r.C.length = r.L.length * 2 + r.j := arrC_length nodeAV_cells
theorem C_ok {r : TRow} (h : 0 < r.L.length) : okObj r.C = true := by
  unfold TRow.C arrC
  cases hL : r.L with
  | nil => rw [hL] at h; simp at h
  | cons p l => rfl

/-! ### values behind the end -/

def SOKF (B : Nat) (X : List TRow) (b : Nat) (s : AV) : Prop := SOK B X b s ∨ s = .slice .frz []
def RegF (B W : Nat) (X : List TRow) : Prop := ∀ (i : Nat) (r : TRow), X[i]? = some r → r.L.length ≤ W ∧ 0 < r.L.length ∧ ∀ p ∈ r.L, SOKF B X r.k p.2
theorem SOKF.ncell {B b : Nat} {X : List TRow} {s : AV} (h : SOKF B X b s) : s.ncell = s := by
  rcases h with h | rfl
  · exact h.ncell
  · rfl
theorem SOKF.ge {B b : Nat} {X X' : List TRow} {s : AV} (hg : Ge X X') (h : SOKF B X b s) : SOKF B X' b s := h.imp (fun h => h.ge hg) id
theorem RegF.set {B W : Nat} {X : List TRow} {i : Nat} {r r' : TRow} (h : RegF B W X) (hi : X[i]? = some r) (hk : r'.k = r.k) (hge : r.L.length ≤ r'.L.length) (hj : r'.L.length * 2 + r'.j = r.L.length * 2 + r.j) (hl : r'.L.length ≤ W) (hr : ∀ p ∈ r'.L, SOKF B X r'.k p.2) : RegF B W (X.set i r') := by
  intro a q hq
  have hlt := (List.getElem?_eq_some_iff.1 hi).1
  have hg := Ge.set hi hk hge hj
  by_cases e : i = a
  · subst e
    rw [List.getElem?_set_self hlt] at hq
    cases hq
    exact ⟨hl, by have := (h i r hi).2.1; omega, fun p hp => (hr p hp).ge hg⟩
  · rw [List.getElem?_set_ne e] at hq
    exact ⟨(h a q hq).1, (h a q hq).2.1, fun p hp => ((h a q hq).2.2 p hp).ge hg⟩
/-- The rows seen from one object further down. -/
theorem SOK.shift {B b : Nat} {X : List TRow} {r0 : TRow} {s : AV} (h : SOK (B + 1) X b s) : SOK B (r0 :: X) b s := by
  rcases h with h | ⟨i, n, cap, r, h1, h2, h3⟩
  · exact .inl h
  · exact .inr ⟨i + 1, n, cap, r, by rw [h1]; congr 1; omega, by simpa using h2, h3⟩
theorem Hof_shift {H : Heap} {X : List TRow} {c : List AV} {r0 : TRow} : (Hof (H ++ [c]) X).set H.length r0.C = Hof H (r0 :: X) := by
  unfold Hof
  rw [List.set_append_left _ _ (by simp), List.set_append_right _ _ (Nat.le_refl _), Nat.sub_self]
  simp

/-! ### all heights one more -/

def bump (X : List TRow) : List TRow := X.map fun r => ⟨r.L, r.j, r.k + 1⟩
theorem Hof_bump {H : Heap} {X : List TRow} : Hof H (bump X) = Hof H X := by
  unfold Hof bump
  rw [List.map_map]
  rfl
theorem bump_at {X : List TRow} {i : Nat} {r : TRow} (h : X[i]? = some r) : (bump X)[i]? = some ⟨r.L, r.j, r.k + 1⟩ := by
  unfold bump
  rw [List.getElem?_map, h]
  rfl
theorem SOK.bump {B b : Nat} {X : List TRow} {s : AV} (h : SOK B X b s) : SOK B (bump X) (b + 1) s := by
  rcases h with h | ⟨i, n, cap, r, h1, h2, h3, h4⟩
  · exact .inl h
  · exact .inr ⟨i, n, cap, _, h1, bump_at h2, by simp only; omega, h4⟩
theorem Reg.bump {B W : Nat} {X : List TRow} (h : Reg B W X) : Reg B W (bump X) := by
  intro i r hr
  unfold Abs.bump at hr
  rw [List.getElem?_map] at hr
  cases hx : X[i]? with
  | none => rw [hx] at hr; cases hr
  | some r0 =>
    rw [hx] at hr
    cases hr
    exact ⟨(h i r0 hx).1, (h i r0 hx).2.1, fun p hp => ((h i r0 hx).2.2 p hp).bump⟩
theorem Reg.f {B W : Nat} {X : List TRow} (h : Reg B W X) : RegF B (W + 1) X := fun i r hi => ⟨by have := (h i r hi).1; omega, (h i r hi).2.1, fun p hp => .inl ((h i r hi).2.2 p hp)⟩
theorem RegF.app {B W : Nat} {X : List TRow} {r : TRow} (h : RegF B W X) (hl : r.L.length ≤ W) (h0 : 0 < r.L.length) (hr : ∀ p ∈ r.L, SOKF B X r.k p.2) : RegF B W (X ++ [r]) := by
  intro i q hq
  rcases Nat.lt_or_ge i X.length with hi | hi
  · rw [List.getElem?_append_left hi] at hq
    exact ⟨(h i q hq).1, (h i q hq).2.1, fun p hp => ((h i q hq).2.2 p hp).ge .app⟩
  · rw [List.getElem?_append_right hi] at hq
    have : i - X.length = 0 := by
      rcases hh : i - X.length with _ | m
      · rfl
      · rw [hh] at hq; simp at hq
    rw [this] at hq
    simp at hq
    subst hq
    exact ⟨hl, h0, fun p hp => (hr p hp).ge .app⟩
/-- An append of a node without parts, at the end. -/
theorem App1.okF {B W b : Nat} {X X' : List TRow} {s s' : AV} {x : Int} (h : App1 B X 0 s (x, .slice .frz []) s' X') (hR : Reg B W X) (hs : SOK B X b s) (hb : 0 < b) (hW : 1 ≤ W) {i n cap : Nat} {r : TRow} (hs' : s' = .gsl (B + i) 0 n cap) (hr : X'[i]? = some r) :
    Ge X X' ∧ RegF B (W + 1) X' ∧ SOK B X' b s' ∧ r.k < b ∧ ∀ c : Nat, c ≠ i → c < X.length → X'[c]? = X[c]? := by
  have ha : ∀ k, SOKF B X k (AV.slice .frz []) := fun k => .inr rfl
  cases h with
  | nul hc =>
    rename_i cap0
    injection hs' with e1 e2 e3 e4
    have : i = X.length := by omega
    subst this
    subst e3; subst e4
    simp at hr
    subst hr
    refine ⟨.app, hR.f.app (by simp) (by simp) (fun p hp => ?_), .inr ⟨X.length, 1, cap0, ⟨[(x, .slice .frz [])], (cap0 - 1) * 2, 0⟩, rfl, by simp, hb, by simp, hc, by show cap0 * 2 = 1 * 2 + (cap0 - 1) * 2; omega, by omega⟩, hb, fun c h1 h2 => List.getElem?_append_left h2⟩
    simp only [List.mem_singleton] at hp
    subst hp
    exact ha _
  | room g1 g2 g3 =>
    rename_i i' n' cap' r'
    obtain ⟨q1, q2, q3, q4, q5⟩ := hs.inv g1
    injection hs' with e1 e2 e3 e4
    have : i = i' := by omega
    subst this
    subst e3; subst e4
    have hlt := (List.getElem?_eq_some_iff.1 g1).1
    rw [List.getElem?_set_self hlt] at hr
    cases hr
    refine ⟨Ge.set g1 rfl (by simp) (by simp), hR.f.set g1 rfl (by simp) (by simp) (by simp; have := (hR i r' g1).1; omega) (fun p hp => ?_), .inr ⟨i, n' + 1, cap', ⟨r'.L.set n' (x, .slice .frz []), r'.j, r'.k⟩, rfl, by rw [List.getElem?_set_self hlt], q1, by simp; omega, g2, by simp; omega, by omega⟩, q1, fun c h1 h2 => List.getElem?_set_ne (fun e => h1 e.symm)⟩
    rcases List.mem_or_eq_of_mem_set hp with hp | rfl
    · exact .inl ((hR i r' g1).2.2 p hp)
    · exact ha _
  | room2 g1 g2 =>
    rename_i i' cap' r'
    obtain ⟨q1, q2, q3, q4, q5⟩ := hs.inv g1
    injection hs' with e1 e2 e3 e4
    have : i = i' := by omega
    subst this
    subst e3; subst e4
    have hlt := (List.getElem?_eq_some_iff.1 g1).1
    rw [List.getElem?_set_self hlt] at hr
    cases hr
    refine ⟨Ge.set g1 rfl (by simp) (by simp; omega), hR.f.set g1 rfl (by simp) (by simp; omega) (by simp; have := (hR i r' g1).1; omega) (fun p hp => ?_), .inr ⟨i, r'.L.length + 1, cap', ⟨r'.L ++ [(x, .slice .frz [])], r'.j - 2, r'.k⟩, rfl, by rw [List.getElem?_set_self hlt], q1, by simp, g2, by simp; omega, by omega⟩, q1, fun c h1 h2 => List.getElem?_set_ne (fun e => h1 e.symm)⟩
    rcases List.mem_append.1 hp with hp | hp
    · exact .inl ((hR i r' g1).2.2 p hp)
    · simp only [List.mem_singleton] at hp
      subst hp
      exact ha _
  | new g1 g2 g3 =>
    rename_i i' n' cap1 r' cap'
    obtain ⟨q1, q2, q3, q4, q5⟩ := hs.inv g1
    injection hs' with e1 e2 e3 e4
    have : i = X.length := by omega
    subst this
    subst e3; subst e4
    have hlL : (r'.L.take n' ++ [(x, AV.slice .frz [])]).length = n' + 1 := by simp; omega
    simp at hr
    subst hr
    refine ⟨.app, hR.f.app (by simp only; rw [hlL]; have := (hR i' r' g1).1; omega) (by simp only; rw [hlL]; omega) (fun p hp => ?_), .inr ⟨X.length, n' + 1, cap', ⟨r'.L.take n' ++ [(x, .slice .frz [])], (cap' - (n' + 1)) * 2, r'.k⟩, rfl, by simp, q1, by simp only; rw [hlL]; exact Nat.le_refl _, g3, by simp only; rw [hlL]; omega, by omega⟩, q1, fun c h1 h2 => List.getElem?_append_left h2⟩
    rcases List.mem_append.1 hp with hp | hp
    · exact .inl ((hR i' r' g1).2.2 p (List.mem_of_mem_take hp))
    · simp only [List.mem_singleton] at hp
      subst hp
      exact ha _
end Go.Abs
