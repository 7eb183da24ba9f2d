/- A part of the proof of TranslatePuts: contracts of functions of the program, and what they need. -/
import Derived.Test.YtanjokijgbgcpaaGreatDoorPk
/-
  What the texts on lifting want of the others.
-/
set_option linter.unusedSimpArgs false
set_option linter.unusedVariables false
namespace Go.Mdl
open Go

theorem Ty.nodes_of_node {k i : Int} {s : Ty} {n : Nat} (h : Tm.node k i s n = true) : s.nodes ≤ 64 := by
  unfold Tm.node at h
  simp only [Bool.and_eq_true] at h
  have h4 := h.2
  by_cases hk : typedB k = true
  · rw [if_pos hk] at h4
    simp only [decide_eq_true_eq] at h4
    unfold Ty.err at h4
    split at h4
    · split at h4
      · omega
      · omega
    · omega
  · rw [if_neg hk] at h4
    rw [(Ty.zeroB_iff s).1 h4, Ty.nodes_mk]
    simp [sumL]
theorem Tm.ok_inv {k i : Int} {s : Ty} {l : List Tm} (h : (Tm.mk k i s l).ok = true) : (k = 1 → l = []) ∧ 0 ≤ i ∧ (k ≠ 1 → i = 0) ∧ (∀ t ∈ l, t.ok = true) ∧ (l.length : Int) = tmArgs k := by
  rw [Tm.ok_mk] at h
  simp only [Bool.and_eq_true, List.all_eq_true, decide_eq_true_eq, Tm.node, Bool.or_eq_true] at h
  obtain ⟨⟨⟨⟨h1, h2⟩, h3⟩, h4⟩, h5⟩ := h
  refine ⟨?_, h2, fun hk => h3.resolve_left hk, h5, h1⟩
  rintro rfl
  have : (l.length : Int) = 0 := h1
  exact List.eq_nil_of_length_eq_zero (by omega)
theorem tree_OwnType_eq : ∀ (n : Nat) (t : Ty), t.nodes ≤ n → t.nodes ≤ 1000000000 → tree_OwnType n t = some t := by
  intro n
  induction n with
  | zero => intro t h; have := t.nodes_pos; omega
  | succ n ih =>
    intro t h hb
    cases t with
    | mk k l =>
      rw [Ty.nodes_mk] at h hb
      have hl := Ty.len_nodes l
      rw [tree_OwnType]
      simp only [Ty.args_mk, Ty.kind_mk, joinB_eq, okLen_of (l := l) (by omega), chk_true]
      rw [forR_map id l 0 [] (by simp; omega)]
      · simp
      · intro j x v hx hv
        have := sumL_mem Ty.nodes hx
        rw [ih x (by omega) (by omega)]
        simp [okApp_of (l := v) (m := [x]) (by simpa using hv)]
theorem tree_OwnType' {t : Ty} (h : t.nodes ≤ 1000000000) : tree_OwnType FU t = some t := tree_OwnType_eq FU t (by rw [FU_eq]; exact h) h
theorem err_nodes {t : Ty} (h : t.err = 0) : t.nodes ≤ 64 := by have := (Ty.err_zero h).2; omega
end Go.Mdl

/-
  The program's rebuilding of terms and formulas: lifting and putting.
-/
namespace Go.Mdl
open Go

/-- A term with something in place of each variable; b: how many Lams are above. -/
def Tm.reb (φ : Int → Int → Tm) (b : Int) : Tm → Tm
  | .mk k i s l => if k = 1 then φ i b else .mk k i s (l.attach.map fun x => Tm.reb φ (b + lamB k) x.1)
decreasing_by
  have := List.sizeOf_lt_of_mem x.2
  simp only [Tm.mk.sizeOf_spec]
  omega
theorem Tm.reb_mk (φ : Int → Int → Tm) (b k i : Int) (s : Ty) (l : List Tm) : (Tm.mk k i s l).reb φ b = if k = 1 then φ i b else .mk k i s (l.map (Tm.reb φ (b + lamB k))) := by
  rw [Tm.reb]
  congr 2
  exact List.attach_map_val

theorem lamB_sel (k b : Int) (h1 : -1000000000000 ≤ b) (h2 : b ≤ 1000000000000) : sel (ieq k 2) (iadd .i64 b 1) b = b + lamB k := by
  unfold lamB
  by_cases h : k = 2
  · subst h
    rw [show ieq 2 2 = true from rfl, if_pos rfl]
    exact iadd_in (by omega) (by omega)
  · rw [show ieq k 2 = false by simpa [ieq] using h, if_neg h]
    show b = b + 0
    omega

theorem tree_Rebuild_1_eq {h : Int → Int → Option Tm} {φ : Int → Int → Tm} {M : Int} (hh : ∀ i b, 0 ≤ i → i ≤ M → 0 ≤ b → b ≤ 10000000000 → h i b = some (φ i b)) : ∀ (n : Nat) (t : Tm) (b : Int), t.nodes ≤ n → t.nodes ≤ 50000000 → t.ok = true → t.least M = true → 0 ≤ b → b + t.nodes ≤ 10000000000 →
    tree_Rebuild_1 n t b (fun (s : Unit) (y0 : Int) (y1 : Int) => pureW (h y0 y1) s) () = some (t.reb φ b, ()) := by
  intro n
  induction n with
  | zero => intro t b h; have := t.nodes_pos; omega
  | succ n ih =>
    intro t b hn hb ho hl h0 hbn
    cases t with
    | mk k i s l =>
      rw [Tm.nodes_mk] at hn hb hbn
      have hlen := Tm.len_nodes l
      have ho' := ho
      rw [Tm.ok_mk, Bool.and_eq_true] at ho
      have hty := Ty.nodes_of_node ho.1
      rw [Tm.least_mk, Bool.and_eq_true, decide_eq_true_iff, List.all_eq_true] at hl
      rw [tree_Rebuild_1, Tm.reb_mk]
      by_cases hk : k = 1
      · subst hk
        have hi := (Tm.ok_inv ho').2.1
        rw [if_pos (by rfl), if_pos rfl]
        simp only [Tm.index_mk]
        rw [hh i b hi hl.1 h0 (by omega), pureW_some', bind2_of]
      · rw [if_neg (by simpa [ieq] using hk), if_neg hk]
        simp only [Tm.typeF_mk, Tm.args_mk, Tm.kind_mk, Tm.index_mk, joinB_eq]
        rw [tree_OwnType' (by omega), bind1_of, okLen_of (by omega), chk_true, lamB_sel k b (by omega) (by omega)]
        have hlb := lamB_bd k
        have loop : ∀ (ts : List Tm) (j : Nat) (v : List Tm), (∀ t ∈ ts, t ∈ l) → v.length + ts.length ≤ 50000000 →
            forR (fun (j66 : Int) (x68 : Tm) => (un2 fun (v106 : (List Tm)) (v107 : Unit) =>
              bind2 (tree_Rebuild_1 n x68 (b + lamB k) (fun (s : Unit) (y0 : Int) (y1 : Int) => pureW (h y0 y1) s) v107) fun x127 s128 =>
              chk (okApp v106 [x127]) <|
              some ((.next ((lapp v106 [x127]), s128)) : Ctl ((List Tm) × Unit) (Tm × Unit)))) ts j (v, ()) = some (.inl (v ++ ts.map (Tm.reb φ (b + lamB k)), ())) := by
          intro ts
          induction ts with
          | nil => intro j v _ _; simp
          | cons t ts iht =>
            intro j v hm hv
            simp only [List.length_cons] at hv
            have htl := hm t (by simp)
            have hmn := sumL_mem Tm.nodes htl
            rw [forR_cons]
            simp only [un2]
            rw [ih t (b + lamB k) (by omega) (by omega) ((Tm.ok_inv ho').2.2.2.1 t htl) (hl.2 t htl) (by omega) (by omega), bind2_of, okApp_of (by simp; omega), chk_true]
            simp only [bind1_of, ctlK_next]
            rw [lapp_eq]
            have := iht (j + 1) (v ++ [t.reb φ (b + lamB k)]) (fun u hu => hm u (by simp [hu])) (by simp; omega)
            rw [this]
            simp
        rw [loop l 0 [] (fun t h => h) (by simp; omega), bind1_of]
        simp
end Go.Mdl

/-
  The program's lifting and putting: Tm.up, Tm.inn, Fm.up, Fm.inn.
-/
namespace Go.Mdl
open Go

/-- Bounds for terms that are lifted. -/
structure Bd (t : Tm) : Prop where
  ok : t.ok = true
  least : t.least 1000000000000 = true
  nodes : t.nodes ≤ 50000000

theorem Tm.reb_up (f c : Int) (hf : 0 ≤ f) : ∀ (t : Tm) (b : Int), 0 ≤ b → t.ok = true → t.reb (fun i b => .mk 1 (if f ≤ i - b then i + c else i) (.mk 0 []) []) b = t.up (f + b) c := by
  intro t
  induction t using Tm.ind with
  | h k i s l ih =>
    intro b hb ho
    have hi := Tm.ok_inv ho
    rw [Tm.reb_mk, Tm.up_mk]
    by_cases hk : k = 1
    · subst hk
      rw [if_pos rfl]
      have hl : l = [] := by
        have := hi.2.2.2.2
        unfold tmArgs at this
        rw [if_pos (.inl rfl)] at this
        exact List.eq_nil_of_length_eq_zero (by omega)
      have hs : s = .mk 0 [] := by
        rw [Tm.ok_mk] at ho
        simp only [Tm.node, Bool.and_eq_true] at ho
        have := ho.1.2
        rw [if_neg (by decide)] at this
        exact (Ty.zeroB_iff s).1 this
      subst hl; subst hs
      simp only [List.map_nil, true_and]
      congr 1
      by_cases h : f + b ≤ i
      · rw [if_pos h, if_pos (by omega)]
      · rw [if_neg h, if_neg (by omega)]
    · rw [if_neg hk, if_neg (fun h => hk h.1)]
      have hlb := lamB_bd k
      congr 1
      exact List.map_congr_left fun x hx => by rw [ih x hx (b + lamB k) (by omega) (hi.2.2.2.1 x hx), show f + (b + lamB k) = f + b + lamB k by omega]

theorem tree_Lift_eq {t : Tm} {f c : Int} (h : Bd t) (hf : 0 ≤ f) (hf2 : f ≤ 10000000000) (hc : 0 ≤ c) (hc2 : c ≤ 10000000000) : tree_Lift t f c = some (t.up f c) := by
  unfold tree_Lift tree_Rebuild
  rw [tree_Rebuild_1_eq (h := fun y0 y1 => tree_Lift_1 y0 y1 f c) (φ := fun i b => .mk 1 (if f ≤ i - b then i + c else i) (.mk 0 []) []) (M := 1000000000000) (fun i b h0 h1 h2 h3 => ?_) FU t 0 (by have := FU_eq; have := h.nodes; omega) h.nodes h.ok h.least (by omega) (by have := h.nodes; omega)]
  · rw [bind2_of, bind2_of, Tm.reb_up f c hf t 0 (by omega) h.ok, show f + 0 = f by omega]
  · unfold tree_Lift_1 tree_Var
    simp only [bind1_of]
    rw [isub_in (by omega) (by omega), iadd_in (by omega) (by omega)]
    by_cases h' : f ≤ i - b
    · rw [if_pos h', show ige (i - b) f = true by rw [ige_iff]; exact h']; rfl
    · rw [if_neg h', show ige (i - b) f = false by
        cases hq : ige (i - b) f with
        | false => rfl
        | true => exact absurd ((ige_iff _ _).1 hq) h']; rfl

theorem tree_Quantifier_eq (k : Int) : tree_Quantifier k = some (quantB k) := by
  unfold tree_Quantifier quantB
  rw [sel_and]
  simp only [ige, ile, Option.some.injEq]
  rw [← Bool.decide_and]
  exact Bool.eq_iff_iff.2 (by simp only [decide_eq_true_iff]; omega)
theorem Fm.ok_parts {k : Int} {s : Ty} {ts : List Tm} {l : List Fm} (h : (Fm.mk k s ts l).ok = true) : s.nodes ≤ 64 ∧ (∀ t ∈ ts, t.ok = true) ∧ (∀ f ∈ l, f.ok = true) := by
  rw [Fm.ok_mk] at h
  simp only [Bool.and_eq_true, List.all_eq_true] at h
  refine ⟨?_, h.1.2, h.2⟩
  have hn := h.1.1
  unfold Fm.node at hn
  split at hn
  · simp only [Bool.and_eq_true] at hn
    rw [(Ty.zeroB_iff s).1 hn.1.1, Ty.nodes_mk]
    simp [sumL]
  · split at hn
    · simp only [Bool.and_eq_true] at hn
      rw [(Ty.zeroB_iff s).1 hn.1.1, Ty.nodes_mk]
      simp [sumL]
    · simp only [Bool.and_eq_true, decide_eq_true_eq] at hn
      exact err_nodes hn.1.1.2

/-- A formula with something in place of each term; b: how many quantifiers are above. -/
def Fm.reb (ψ : Tm → Int → Tm) (b : Int) : Fm → Fm
  | .mk k s ts l => .mk k s (ts.map fun t => ψ t b) (l.attach.map fun x => Fm.reb ψ (b + qB k) x.1)
decreasing_by
  have := List.sizeOf_lt_of_mem x.2
  simp only [Fm.mk.sizeOf_spec]
  omega
theorem Fm.reb_mk (ψ : Tm → Int → Tm) (b k : Int) (s : Ty) (ts : List Tm) (l : List Fm) : (Fm.mk k s ts l).reb ψ b = .mk k s (ts.map fun t => ψ t b) (l.map (Fm.reb ψ (b + qB k))) := by
  rw [Fm.reb]
  congr 1
  exact List.attach_map_val

theorem tree_RebuildFormula_eq {h : Tm → Int → Option Tm} {ψ : Tm → Int → Tm} (hh : ∀ t b, Bd t → 0 ≤ b → b ≤ 1000000000 → h t b = some (ψ t b)) : ∀ (n : Nat) (f : Fm) (b : Int), f.nodes ≤ n → f.nodes ≤ 50000000 → f.ok = true → f.least 1000000000000 = true → 0 ≤ b → b + f.nodes ≤ 1000000000 →
    tree_RebuildFormula n f b (fun (s : Unit) (y0 : Tm) (y1 : Int) => pureW (h y0 y1) s) () = some (f.reb ψ b, ()) := by
  intro n
  induction n with
  | zero => intro f b h; have := f.nodes_pos; omega
  | succ n ih =>
    intro f b hn hb ho hl h0 hbn
    cases f with
    | mk k s ts l =>
      rw [Fm.nodes_mk] at hn hb hbn
      have hlt := sumL_len Tm.nodes ts fun t _ => t.nodes_pos
      have hll := sumL_len Fm.nodes l fun t _ => t.nodes_pos
      obtain ⟨hty, hot, hol⟩ := Fm.ok_parts ho
      rw [Fm.least_mk, Bool.and_eq_true, List.all_eq_true, List.all_eq_true] at hl
      rw [tree_RebuildFormula, Fm.reb_mk]
      simp only [Fm.typeF_mk, Fm.args_mk, Fm.kind_mk, Fm.terms_mk, joinB_eq]
      rw [tree_OwnType' (by omega), bind1_of, okLen_of (by omega), chk_true]
      have hqb := qB_bd k
      have loop1 : ∀ (us : List Tm) (j : Nat) (v : List Tm), (∀ t ∈ us, t ∈ ts) → v.length + us.length ≤ 50000000 →
          forR (fun (j51 : Int) (x53 : Tm) => (un2 fun (v91 : (List Tm)) (v92 : Unit) =>
            bind2 (pureW (h x53 b) v92) fun x112 x113 =>
            chk (okApp v91 [x112]) <|
            some ((.next ((lapp v91 [x112]), x113)) : Ctl ((List Tm) × Unit) (Fm × Unit)))) us j (v, ()) = some (.inl (v ++ us.map (fun t => ψ t b), ())) := by
        intro us
        induction us with
        | nil => intro j v _ _; simp
        | cons t us iht =>
          intro j v hm hv
          simp only [List.length_cons] at hv
          have htl := hm t (by simp)
          have hmn := sumL_mem Tm.nodes htl
          rw [forR_cons]
          simp only [un2]
          rw [hh t b ⟨hot t htl, hl.1 t htl, by omega⟩ h0 (by omega), pureW_some', bind2_of, okApp_of (by simp; omega), chk_true]
          simp only [bind1_of, ctlK_next]
          rw [lapp_eq]
          have := iht (j + 1) (v ++ [ψ t b]) (fun u hu => hm u (by simp [hu])) (by simp; omega)
          rw [this]
          simp
      rw [loop1 ts 0 [] (fun t h => h) (by simp; omega), bind1_of]
      simp only [sumK_inl, un2]
      rw [tree_Quantifier_eq, bind1_of]
      have loop2 : ∀ (us : List Fm) (j : Nat) (v : List Fm), (∀ t ∈ us, t ∈ l) → v.length + us.length ≤ 50000000 →
          forR (fun (j171 : Int) (x173 : Fm) => (un2 fun (v211 : (List Fm)) (v212 : Unit) =>
            bind2 (tree_RebuildFormula n x173 (b + qB k) (fun (s : Unit) (y0 : Tm) (y1 : Int) => pureW (h y0 y1) s) v212) fun x232 s233 =>
            chk (okApp v211 [x232]) <|
            some ((.next ((lapp v211 [x232]), s233)) : Ctl ((List Fm) × Unit) (Fm × Unit)))) us j (v, ()) = some (.inl (v ++ us.map (Fm.reb ψ (b + qB k)), ())) := by
        intro us
        induction us with
        | nil => intro j v _ _; simp
        | cons t us iht =>
          intro j v hm hv
          simp only [List.length_cons] at hv
          have htl := hm t (by simp)
          have hmn := sumL_mem Fm.nodes htl
          rw [forR_cons]
          simp only [un2]
          rw [ih t (b + qB k) (by omega) (by omega) (hol t htl) (hl.2 t htl) (by omega) (by omega), bind2_of, okApp_of (by simp; omega), chk_true]
          simp only [bind1_of, ctlK_next]
          rw [lapp_eq]
          have := iht (j + 1) (v ++ [t.reb ψ (b + qB k)]) (fun u hu => hm u (by simp [hu])) (by simp; omega)
          rw [this]
          simp
      have fin : (chk (okLen l) <| bind1 (forR (fun (j171 : Int) (x173 : Fm) => (un2 fun (v211 : (List Fm)) (v212 : Unit) =>
            bind2 (tree_RebuildFormula n x173 (b + qB k) (fun (s : Unit) (y0 : Tm) (y1 : Int) => pureW (h y0 y1) s) v212) fun x232 s233 =>
            chk (okApp v211 [x232]) <|
            some ((.next ((lapp v211 [x232]), s233)) : Ctl ((List Fm) × Unit) (Fm × Unit)))) l 0 ([], ())) (sumK (un2 fun (v211 : (List Fm)) (v212 : Unit) => some ((Fm.mk k s ([] ++ ts.map fun t => ψ t b) v211), v212)) (fun r => some r))) =
          some (Fm.mk k s (ts.map fun t => ψ t b) (l.map (Fm.reb ψ (b + qB k))), ()) := by
        rw [okLen_of (by omega), chk_true, loop2 l 0 [] (fun t h => h) (by simp; omega), bind1_of]
        simp
      by_cases hq : quantB k = true
      · rw [if_pos hq]
        have e1 : b + qB k = b + 1 := by unfold qB; rw [if_pos hq]
        rw [e1] at fin ⊢
        rw [iadd_in (by omega) (by omega)]
        exact fin
      · rw [if_neg hq]
        have e1 : b + qB k = b := by unfold qB; rw [if_neg hq]; omega
        rw [e1] at fin ⊢
        exact fin

theorem Fm.reb_up (f c : Int) : ∀ (g : Fm) (b : Int), g.reb (fun t b => t.up (f + b) c) b = g.up (f + b) c := by
  intro g
  induction g using Fm.ind with
  | h k s ts l ih =>
    intro b
    rw [Fm.reb_mk, Fm.up_mk]
    congr 1
    exact List.map_congr_left fun x hx => by rw [ih x hx (b + qB k), show f + (b + qB k) = f + b + qB k by omega]

/-- Lifting formulas. -/
theorem tree_LiftFormula_eq {g : Fm} {f c : Int} (ho : g.ok = true) (hn : g.nodes ≤ 50000000) (hl : g.least 1000000000000 = true) (hf : 0 ≤ f) (hf2 : f ≤ 1000000000) (hc : 0 ≤ c) (hc2 : c ≤ 10000000000) : tree_LiftFormula g f c = some (g.up f c) := by
  unfold tree_LiftFormula
  rw [tree_RebuildFormula_eq (h := fun y0 y1 => tree_LiftFormula_1 y0 y1 f c) (ψ := fun t b => t.up (f + b) c) (fun t b h h0 h1 => ?_) FU g 0 (by have := FU_eq; omega) hn ho hl (by omega) (by omega)]
  · rw [bind2_of, Fm.reb_up f c g 0, show f + 0 = f by omega]
  · unfold tree_LiftFormula_1
    rw [iadd_in (by omega) (by omega), tree_Lift_eq h (by omega) (by omega) hc hc2]
    rfl
end Go.Mdl
