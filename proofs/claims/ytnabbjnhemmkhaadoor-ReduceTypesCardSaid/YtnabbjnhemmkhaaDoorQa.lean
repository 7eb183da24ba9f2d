/-
  Nodes of shared terms: which term a node stands for, and what making, lifting, counting, putting of nodes comes to.
-/
import Derived.Test.YtnabbjnhemmkhaaDoorPd
import Derived.Test.YtnabbjnhemmkhaaDoorGr0
set_option linter.unusedSimpArgs false
set_option linter.unusedVariables false
namespace Go.Mdl
open Go

mutual
/-- One more than the greatest free variable, 0 without any. -/
def Tm.fr : Tm → Int
  | .mk k i _ l => if k = 1 then i + 1 else if k = 2 then imax 0 (Tm.frL 0 l - 1) else Tm.frL 0 l
def Tm.frL (m : Int) : List Tm → Int
  | [] => m
  | t :: l => Tm.frL (imax m t.fr) l
end
theorem imax_eq (a b : Int) : imax a b = max a b := by unfold imax; omega
theorem Tm.frL_ge (l : List Tm) : ∀ m, m ≤ Tm.frL m l := by
  induction l with
  | nil => intro m; exact Int.le_refl _
  | cons t l ih => intro m; rw [Tm.frL]; have := ih (imax m t.fr); rw [imax_eq] at *; omega
theorem Tm.frL_mem {l : List Tm} {t : Tm} (h : t ∈ l) : ∀ m, t.fr ≤ Tm.frL m l := by
  induction l with
  | nil => cases h
  | cons u l ih =>
    intro m
    rw [Tm.frL]
    rcases List.mem_cons.1 h with rfl | h
    · have := Tm.frL_ge l (imax m t.fr); rw [imax_eq] at *; omega
    · exact ih h _
theorem Tm.frL_le {M : Int} {l : List Tm} (h : ∀ t ∈ l, t.fr ≤ M) : ∀ m, m ≤ M → Tm.frL m l ≤ M := by
  induction l with
  | nil => intro m hm; exact hm
  | cons u l ih =>
    intro m hm
    rw [Tm.frL]
    refine ih (fun t ht => h t (by simp [ht])) _ ?_
    have := h u (by simp)
    rw [imax_eq]; omega
theorem Tm.fr_bd (t : Tm) : ∀ {M : Int}, 0 ≤ M → t.ok = true → t.least M = true → 0 ≤ t.fr ∧ t.fr ≤ M + 1 := by
  induction t using Tm.ind with
  | h k i s l ih =>
    intro M hM ho hl
    rw [Tm.ok_mk] at ho
    rw [Tm.least_mk] at hl
    simp only [Bool.and_eq_true, List.all_eq_true, decide_eq_true_eq, Tm.node] at ho hl
    have h1 : Tm.frL 0 l ≤ M + 1 := Tm.frL_le (fun t ht => (ih t ht hM (ho.2 t ht) (hl.2 t ht)).2) 0 (by omega)
    have h0 := Tm.frL_ge l 0
    rw [Tm.fr]
    split
    · omega
    · split
      · rw [imax_eq]; omega
      · omega

theorem map_id' {α : Type} {g : α → α} {l : List α} (h : ∀ x ∈ l, g x = x) : l.map g = l := by
  induction l with
  | nil => rfl
  | cons x l ih => simp only [List.map_cons, h x (by simp), ih fun y hy => h y (by simp [hy])]
theorem Tm.ok_inv {k i : Int} {s : Ty} {l : List Tm} (h : (Tm.mk k i s l).ok = true) : (k = 1 → l = []) ∧ 0 ≤ i ∧ (k ≠ 1 → i = 0) ∧ (∀ t ∈ l, t.ok = true) ∧ (l.length : Int) = tmArgs k := by
  rw [Tm.ok_mk] at h
  simp only [Bool.and_eq_true, List.all_eq_true, decide_eq_true_eq, Tm.node, Bool.or_eq_true] at h
  obtain ⟨⟨⟨⟨h1, h2⟩, h3⟩, h4⟩, h5⟩ := h
  refine ⟨?_, h2, fun hk => h3.resolve_left hk, h5, h1⟩
  rintro rfl
  have : (l.length : Int) = 0 := h1
  exact List.eq_nil_of_length_eq_zero (by omega)
/-- Free variables of the parts. -/
theorem Tm.fr_args {k i : Int} {s : Ty} {l : List Tm} (hk : k ≠ 1) {f : Int} (h : (Tm.mk k i s l).fr ≤ f) (h0 : 0 ≤ f) : ∀ x ∈ l, x.fr ≤ f + lamB k := by
  intro x hx
  have := Tm.frL_mem hx 0
  rw [Tm.fr, if_neg hk] at h
  unfold lamB
  split at h
  · rename_i hk; rw [if_pos hk]; rw [imax_eq] at h; omega
  · rename_i hk; rw [if_neg hk]; omega
theorem Tm.up_none (t : Tm) : ∀ f b, t.ok = true → 0 ≤ f → t.fr ≤ f → t.up f b = t := by
  induction t using Tm.ind with
  | h k i s l ih =>
    intro f b ho hf h
    obtain ⟨o1, o2, o3, o4, _⟩ := Tm.ok_inv ho
    rw [Tm.up_mk]
    by_cases hk : k = 1
    · have := o1 hk
      subst this
      rw [Tm.fr, if_pos hk] at h
      rw [if_neg (by omega)]
      rfl
    · rw [if_neg (fun h => hk h.1)]
      congr 1
      exact map_id' fun x hx => ih x hx _ _ (o4 x hx) (by have := lamB_bd k; omega) (Tm.fr_args hk h hf x hx)
theorem Tm.up_zero (t : Tm) : ∀ f, t.up f 0 = t := by
  induction t using Tm.ind with
  | h k i s l ih =>
    intro f
    rw [Tm.up_mk, map_id' fun x hx => ih x hx _]
    congr 1
    split <;> omega
theorem Tm.inn_none (s : Tm) (t : Tm) : ∀ n, t.ok = true → 0 ≤ n → t.fr ≤ n → Tm.inn n t s = t := by
  induction t using Tm.ind with
  | h k i ty l ih =>
    intro n ho hn h
    obtain ⟨o1, o2, o3, o4, _⟩ := Tm.ok_inv ho
    rw [Tm.inn_mk]
    by_cases hk : k = 1
    · rw [if_pos hk]
      rw [Tm.fr, if_pos hk] at h
      unfold Tm.innVar
      rw [if_neg (by omega), if_neg (by omega)]
    · rw [if_neg hk]
      congr 1
      exact map_id' fun x hx => ih x hx _ (o4 x hx) (by have := lamB_bd k; omega) (Tm.fr_args hk h hn x hx)
theorem sumL_zero {α : Type} {g : α → Nat} {l : List α} (h : ∀ x ∈ l, g x = 0) : sumL g l = 0 := by
  induction l with
  | nil => rfl
  | cons x l ih => simp [sumL, h x (by simp), ih fun y hy => h y (by simp [hy])]
theorem Tm.times_none (t : Tm) : ∀ n, t.ok = true → 0 ≤ n → t.fr ≤ n → t.times n = 0 := by
  induction t using Tm.ind with
  | h k i ty l ih =>
    intro n ho hn h
    obtain ⟨o1, o2, o3, o4, _⟩ := Tm.ok_inv ho
    rw [Tm.times_mk]
    by_cases hk : k = 1
    · have := o1 hk
      subst this
      rw [Tm.fr, if_pos hk] at h
      rw [if_neg (by omega)]
      rfl
    · rw [if_neg (fun h => hk h.1)]
      simp only [Nat.zero_add]
      exact sumL_zero fun x hx => ih x hx _ (o4 x hx) (by have := lamB_bd k; omega) (Tm.fr_args hk h hn x hx)

/-! ### redexes -/
def Tm.kd : Option Tm → Int
  | some t => t.kind
  | none => 0
/-- The root is a redex. -/
def Tm.root : Tm → Bool
  | .mk k _ _ l => (decide (k = 3) && decide (Tm.kd l[0]? = 2)) || (decide (k = 6) && (decide (Tm.kd l[2]? = 4) || decide (Tm.kd l[2]? = 5))) || (decide (k = 9) && (decide (Tm.kd l[2]? = 7) || decide (Tm.kd l[2]? = 8))) ||
      ((decide (k = 11) || decide (k = 12)) && decide (Tm.kd l[0]? = 10))
mutual
/-- There is no redex. -/
def Tm.nf : Tm → Bool
  | .mk k i s l => !(Tm.mk k i s l).root && Tm.nfL l
def Tm.nfL : List Tm → Bool
  | [] => true
  | t :: l => t.nf && Tm.nfL l
end
theorem Tm.nfL_eq (l : List Tm) : Tm.nfL l = l.all Tm.nf := by
  induction l with
  | nil => rfl
  | cons t l ih => simp [Tm.nfL, ih]
theorem Tm.nf_mk (k i : Int) (s : Ty) (l : List Tm) : (Tm.mk k i s l).nf = (!(Tm.mk k i s l).root && l.all Tm.nf) := by rw [Tm.nf, Tm.nfL_eq]
def appL (f : Tm) : List Tm → Tm
  | [] => f
  | a :: l => appL (.mk 3 0 (.mk 0 []) [f, a]) l
/-- What a redex becomes. -/
def Tm.contr : Tm → Tm
  | .mk k i s l =>
    if k = 3 then (match l with | [.mk _ _ _ [b], a] => Tm.inn 0 b a | _ => .mk k i s l)
    else if k = 11 then (match l with | [.mk _ _ _ (a :: _)] => a | _ => .mk k i s l)
    else if k = 12 then (match l with | [.mk _ _ _ [_, b]] => b | _ => .mk k i s l)
    else (match l with
      | [b, st, .mk _ _ _ []] => b
      | [b, st, .mk _ _ _ [n]] => appL st [n, .mk k i s [b, st, n]]
      | [b, st, .mk _ _ _ [h, t]] => appL st [h, t, .mk k i s [b, st, t]]
      | _ => .mk k i s l)

/-! ### which term a node stands for -/
mutual
inductive NR (nh : List HC) : Nat → Tm → Prop
  | mk {p : Nat} {x : Sgraph_Node} {l : List Tm} : HC.get_cgraph_Node nh p = some x → NRL nh x.args l → x.size = ((Tm.mk x.kind x.index x.typ l).nodes : Int) → x.free = (Tm.mk x.kind x.index x.typ l).fr →
      (x.normal = true → (Tm.mk x.kind x.index x.typ l).nf = true) → NR nh p (.mk x.kind x.index x.typ l)
inductive NRL (nh : List HC) : List (Option Nat) → List Tm → Prop
  | nil : NRL nh [] []
  | cons {p : Nat} {t : Tm} {ps : List (Option Nat)} {ts : List Tm} : NR nh p t → NRL nh ps ts → NRL nh (some p :: ps) (t :: ts)
end
theorem NR.inv {nh : List HC} {p : Nat} {t : Tm} (h : NR nh p t) : ∃ x, HC.get_cgraph_Node nh p = some x ∧ x.kind = t.kind ∧ x.index = t.index ∧ x.typ = t.typeF ∧ NRL nh x.args t.args ∧ x.size = (t.nodes : Int) ∧ x.free = t.fr ∧ (x.normal = true → t.nf = true) := by
  cases h with
  | mk h1 h2 h3 h4 h5 => exact ⟨_, h1, rfl, rfl, rfl, h2, h3, h4, h5⟩
theorem NR.of {nh : List HC} {p : Nat} {t : Tm} {x : Sgraph_Node} (h1 : HC.get_cgraph_Node nh p = some x) (h2 : x.kind = t.kind) (h3 : x.index = t.index) (h4 : x.typ = t.typeF) (h5 : NRL nh x.args t.args) (h6 : x.size = (t.nodes : Int)) (h7 : x.free = t.fr)
    (h8 : x.normal = true → t.nf = true) : NR nh p t := by
  cases t with
  | mk k i s l =>
    simp only [Tm.kind_mk, Tm.index_mk, Tm.typeF_mk, Tm.args_mk] at h2 h3 h4 h5
    subst h2; subst h3; subst h4
    exact .mk h1 h5 h6 h7 h8
theorem NRL.len {nh : List HC} : ∀ {ps : List (Option Nat)} {ts : List Tm}, NRL nh ps ts → ps.length = ts.length
  | _, _, .nil => rfl
  | _, _, .cons _ h => by simp [h.len]
theorem NRL.get {nh : List HC} : ∀ {ps : List (Option Nat)} {ts : List Tm} {i : Nat} {t : Tm}, NRL nh ps ts → ts[i]? = some t → ∃ p, ps[i]? = some (some p) ∧ NR nh p t
  | _, _, i, _, .nil, h => by simp at h
  | _, _, 0, _, .cons h1 h2, h => by
    simp at h
    subst h
    exact ⟨_, rfl, h1⟩
  | _, _, i + 1, _, .cons h1 h2, h => by
    simp at h
    obtain ⟨p, hp, hr⟩ := NRL.get h2 h
    exact ⟨p, by simpa using hp, hr⟩
theorem NRL.append {nh : List HC} : ∀ {ps qs : List (Option Nat)} {ts us : List Tm}, NRL nh ps ts → NRL nh qs us → NRL nh (ps ++ qs) (ts ++ us)
  | _, _, _, _, .nil, h => h
  | _, _, _, _, .cons h1 h2, h => .cons h1 (h2.append h)
theorem NRL.set {nh : List HC} : ∀ {ps : List (Option Nat)} {ts : List Tm} {i p : Nat} {t : Tm}, NRL nh ps ts → NR nh p t → NRL nh (ps.set i (some p)) (ts.set i t)
  | _, _, _, _, _, .nil, _ => .nil
  | _, _, 0, _, _, .cons h1 h2, h => .cons h h2
  | _, _, i + 1, _, _, .cons h1 h2, h => .cons h1 (h2.set h)

/-- A memory of which all that was known stays true. -/
structure NE (nh nh' : List HC) : Prop where
  node : ∀ p t, NR nh p t → NR nh' p t
  state : ∀ p st, HC.get_creduce_state nh p = some st → HC.get_creduce_state nh' p = some st
  get : ∀ p x, HC.get_cgraph_Node nh p = some x → ∃ b, HC.get_cgraph_Node nh' p = some { x with normal := b }
theorem NE.refl (nh : List HC) : NE nh nh := ⟨fun _ _ h => h, fun _ _ h => h, fun _ x h => ⟨x.normal, h⟩⟩
theorem NE.trans {a b c : List HC} (h1 : NE a b) (h2 : NE b c) : NE a c := ⟨fun p t h => h2.node p t (h1.node p t h), fun p st h => h2.state p st (h1.state p st h), fun p x h => by
  obtain ⟨b1, e1⟩ := h1.get p x h
  obtain ⟨b2, e2⟩ := h2.get p _ e1
  exact ⟨b2, e2⟩⟩
theorem NE.list {nh nh' : List HC} (h : NE nh nh') : ∀ {ps : List (Option Nat)} {ts : List Tm}, NRL nh ps ts → NRL nh' ps ts
  | _, _, .nil => .nil
  | _, _, .cons h1 h2 => .cons (h.node _ _ h1) (h.list h2)
theorem get_app {nh X : List HC} {p : Nat} {x : Sgraph_Node} (h : HC.get_cgraph_Node nh p = some x) : HC.get_cgraph_Node (nh ++ X) p = some x := by
  have := HC.get_cgraph_Node_some h
  have hlt := (List.getElem?_eq_some_iff.1 this).1
  unfold HC.get_cgraph_Node
  rw [List.getElem?_append_left hlt, this]
theorem get_app_state {nh X : List HC} {p : Nat} {x : Sreduce_state} (h : HC.get_creduce_state nh p = some x) : HC.get_creduce_state (nh ++ X) p = some x := by
  have := HC.get_creduce_state_some h
  have hlt := (List.getElem?_eq_some_iff.1 this).1
  unfold HC.get_creduce_state
  rw [List.getElem?_append_left hlt, this]
mutual
theorem NR.app {nh X : List HC} : ∀ {p : Nat} {t : Tm}, NR nh p t → NR (nh ++ X) p t
  | _, _, .mk h1 h2 h3 h4 h5 => .mk (get_app h1) h2.app h3 h4 h5
theorem NRL.app {nh X : List HC} : ∀ {ps : List (Option Nat)} {ts : List Tm}, NRL nh ps ts → NRL (nh ++ X) ps ts
  | _, _, .nil => .nil
  | _, _, .cons h1 h2 => .cons h1.app h2.app
end
theorem NE.kp {nh nh' : List HC} (h : Kp nh nh') : NE nh nh' := by
  obtain ⟨X, rfl⟩ := h
  exact ⟨fun _ _ h => h.app, fun _ _ h => get_app_state h, fun p x h => ⟨x.normal, get_app h⟩⟩

/-! ### nodes that are made -/
theorem build_loop {a0 a1 : Int} {a2 : Ty} {a3 : List (Option Nat)} {nh : List HC} {F : Int → Option Nat → List HC → Option (Ctl (List HC) ((Option Nat) × List HC))}
    (hF : ∀ j q v x y, HC.get_cgraph_Node v nh.length = some x → HC.get_cgraph_Node v q = some y → HC.get_cgraph_Node (hput v nh.length (HC.cgraph_Node (Sgraph_Node.mk x.kind x.index x.typ x.args (iadd .i64 x.size y.size) x.free x.normal))) q = some y →
      F j (some q) v = some (.next (hput (hput v nh.length (HC.cgraph_Node (Sgraph_Node.mk x.kind x.index x.typ x.args (iadd .i64 x.size y.size) x.free x.normal))) nh.length (HC.cgraph_Node (Sgraph_Node.mk x.kind x.index x.typ x.args (iadd .i64 x.size y.size) (imax x.free y.free) x.normal))))) :
    ∀ (ps : List (Option Nat)) (ts : List Tm) (i : Nat) (s : Nat) (f : Int), NRL nh ps ts → s + sumL Tm.nodes ts ≤ 1000000000 →
      forR F ps i (nh ++ [HC.cgraph_Node (Sgraph_Node.mk a0 a1 a2 a3 s f false)]) = some (.inl (nh ++ [HC.cgraph_Node (Sgraph_Node.mk a0 a1 a2 a3 ((s + sumL Tm.nodes ts : Nat) : Int) (Tm.frL f ts) false)]))
  | _, _, i, s, f, .nil, _ => by simp [sumL, Tm.frL]
  | _, _, i, s, f, .cons (p := p) (t := t) h1 h2, hb => by
    rw [sumL] at hb
    obtain ⟨y, e1, e2, e3, e4, e5, e6, e7, e8⟩ := h1.inv
    have hlt : p < nh.length := (List.getElem?_eq_some_iff.1 (HC.get_cgraph_Node_some e1)).1
    have hadd : iadd .i64 (s : Int) (t.nodes : Int) = ((s + t.nodes : Nat) : Int) := by rw [iadd_in (by omega) (by omega)]; omega
    rw [forR_cons, hF _ p _ _ y get_last (get_app e1) (by rw [hput_last]; exact get_app e1)]
    simp only [hput_last, bind1_of, ctlK_next, e6, e7, hadd]
    rw [build_loop hF _ _ (i + 1) (s + t.nodes) (imax f t.fr) h2 (by omega)]
    simp only [sumL, Tm.frL, Nat.add_assoc]
/-- What a node is made of, and what it stands for. -/
theorem build_eq {k i : Int} {s : Ty} {ps : List (Option Nat)} {ts : List Tm} {nh : List HC} (h : NRL nh ps ts) (hn : sumL Tm.nodes ts ≤ 100000000) (hi : 0 ≤ i ∧ i ≤ 1000000000000) (hf : ∀ t ∈ ts, 0 ≤ t.fr ∧ t.fr ≤ 1000000000000) :
    ∃ nh', graph_build k i s ps nh = some (some nh.length, nh') ∧ Kp nh nh' ∧ NR nh' nh.length (.mk k i s ts) := by
  have hlen : ps.length ≤ 100000000 := by
    rw [h.len]
    exact Nat.le_trans (Tm.len_nodes ts) hn
  have hfr : 0 ≤ Tm.frL 0 ts ∧ Tm.frL 0 ts ≤ 1000000000000 := ⟨Tm.frL_ge ts 0, Tm.frL_le (fun t ht => (hf t ht).2) 0 (by omega)⟩
  unfold graph_build
  rw [okLen_of (by omega)]
  simp only [chk_true, joinB_eq]
  have hl := build_loop (a0 := k) (a1 := i) (a2 := s) (a3 := ps) (nh := nh) (F := fun j279 x281 v542 =>
      bind1 (HC.get_cgraph_Node v542 (List.length nh)) fun x683 =>
      bind1 (x281) fun x686 =>
      bind1 (HC.get_cgraph_Node v542 x686) fun x689 =>
      bind1 (HC.get_cgraph_Node (hput v542 (List.length nh) (HC.cgraph_Node (Sgraph_Node.mk x683.kind x683.index x683.typ x683.args (iadd .i64 x683.size x689.size) x683.free x683.normal))) x686) fun x699 =>
      some (.next (hput (hput v542 (List.length nh) (HC.cgraph_Node (Sgraph_Node.mk x683.kind x683.index x683.typ x683.args (iadd .i64 x683.size x689.size) x683.free x683.normal))) (List.length nh) (HC.cgraph_Node (Sgraph_Node.mk x683.kind x683.index x683.typ x683.args (iadd .i64 x683.size x689.size) (imax x683.free x699.free) x683.normal)))))
    (by intro j q v x y h1 h2 h3; simp only [h1, h2, h3, bind1_of]) ps ts 0 1 0 h (by omega)
  have e1 : ((1 : Nat) : Int) = 1 := rfl
  rw [e1] at hl
  rw [hl]
  simp only [bind1_of, sumK_inl, get_last, hput_last]
  have hnode : ((1 + sumL Tm.nodes ts : Nat) : Int) = ((Tm.mk k i s ts).nodes : Int) := by rw [Tm.nodes_mk]
  have fin : ∀ f : Int, f = (Tm.mk k i s ts).fr → NR (nh ++ [HC.cgraph_Node (Sgraph_Node.mk k i s ps ((1 + sumL Tm.nodes ts : Nat) : Int) f false)]) nh.length (.mk k i s ts) := by
    intro f hf
    exact NR.of get_last rfl rfl rfl h.app hnode hf (by intro h; cases h)
  by_cases h1 : k = 1
  · subst h1
    refine ⟨_, by rw [if_pos (by decide)], ⟨_, rfl⟩, fin _ ?_⟩
    rw [Tm.fr, if_pos rfl, iadd_in (by omega) (by omega)]
  · rw [if_neg (by simpa using h1)]
    by_cases h2 : k = 2
    · subst h2
      refine ⟨_, by rw [if_pos (by decide)], ⟨_, rfl⟩, fin _ ?_⟩
      rw [Tm.fr, if_neg (by decide), if_pos rfl, isub_in (by omega) (by omega)]
    · refine ⟨_, by rw [if_neg (by simpa using h2)], ⟨_, rfl⟩, fin _ ?_⟩
      rw [Tm.fr, if_neg h1, if_neg h2]
end Go.Mdl
