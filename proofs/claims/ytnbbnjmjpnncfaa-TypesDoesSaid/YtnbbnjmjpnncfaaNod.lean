/-
  The iterator of types.Data (nodes$1) at this program: it goes through the nodes of a type, with a slice of its own that is cut and appended to.
-/
import Derived.RangeFuncNested
import Derived.RangeFuncBound
import Derived.RangeFuncCalls
import Derived.RangeFuncLeaves
import Derived.RangeFuncBox
import Derived.Shelf.Abstract
import Derived.WalkKit
import Derived.OwnWalkIn
import Derived.TacticsInMore
import Derived.LoopNIn
import Derived.LoopIn
import Derived.Maps.AppendAt
import Derived.IntWalk
import Derived.StillTailTactics
import Derived.Test.YtnbbnjmjpnncfaaRfn
import Derived.Test.YtnbbnjmjpnncfaaYE
import Derived.Test.YtnbbnjmjpnncfaaTyN
import Derived.Test.YtnbbnjmjpnncfaaLib
set_option linter.unusedSimpArgs false
set_option linter.unusedVariables false
namespace Go.Proofs
open Go Go.RowKit Go.Shelf Go.Abs Go.Mdl
attribute [local go_sem] Oper.semAt_some

/-- A node as it is handed to the loop's body. -/
structure Nd where
  k : Int
  b : Option Addr
  l : Nat
  c : Nat
def Nd.enc (x : Nd) : Array Value := #[.agg #[.int .i64 x.k, .slice x.b x.l x.c]]

/-- The cells of some types. -/
def tcells (ts : List Ty) : List AV := ts.flatMap fun t => t.av.cells
theorem tcells_len : ∀ (ts : List Ty), (tcells ts).length = ts.length * 2
  | [] => rfl
  | t :: ts => by
    have := tcells_len ts
    unfold tcells at this ⊢
    rw [List.flatMap_cons, List.length_append, this, Ty.cells_av]
    simp only [List.length_cons, List.length_nil]; omega
theorem tcells_app (a b : List Ty) : tcells (a ++ b) = tcells a ++ tcells b := by simp [tcells]

theorem prep_int {F : Imm} {G : Nat → Nat} {n : Nat} {k : Int} {v : Value} (h : PRep F G n (.sc (.int .i64 k)) v) : v = .int .i64 k := by cases h; rfl

/-- The last type of some, as it lies in memory. -/
theorem tcells_last {F : Imm} {G : Nat → Nat} {n : Nat} {ts : List Ty} {t : Ty} {xs : List Value} (h : PRepL F G n (tcells (ts ++ [t])) xs) :
    ∃ ys sv, xs = ys ++ [.int .i64 t.kind, sv] ∧ ys.length = ts.length * 2 ∧ PRepL F G n (tcells ts) ys ∧ PRep F G n (.slice .frz (t.args.map Ty.av)) sv := by
  rw [tcells_app] at h
  have hl := h.length
  rw [List.length_append, tcells_len] at hl
  have h1 := h.take (ts.length * 2)
  have h2 := h.drop (ts.length * 2)
  rw [List.take_left' (tcells_len ts)] at h1
  rw [List.drop_left' (tcells_len ts)] at h2
  have e : tcells [t] = [AV.sc (.int .i64 t.kind), .slice .frz (t.args.map Ty.av)] := by simp [tcells]
  rw [e] at h2
  cases hd : xs.drop (ts.length * 2) with
  | nil => rw [hd] at h2; cases h2
  | cons a r =>
    rw [hd] at h2
    cases h2 with
    | cons p q =>
      cases q with
      | cons p2 q2 =>
        cases q2
        rename_i sv
        have ha := prep_int p
        subst ha
        refine ⟨xs.take (ts.length * 2), sv, ?_, ?_, h1, p2⟩
        · rw [← hd, List.take_append_drop]
        · rw [List.length_take]; omega

theorem Try.info29 : (Try.prog.info? 29).map (fun i => (i.zero, i.size, i.bytes)) = some (some (.agg #[.int .i64 0, .slice none 0 0]), 2, 32) := by kernel_rfl

/-- Memory that does not change, below a block number. -/
def ImmB (F : Imm) (n₀ : Nat) (W : World) : Prop := ∀ b o v, F b o = some v → b < n₀ ∧ W.cell? ⟨b, o, none⟩ = some v
theorem ImmB.below {F : Imm} {n₀ : Nat} {A B : World} (h : ImmB F n₀ A) (hb : Below n₀ A B) : ImmB F n₀ B := fun b o v hv => ⟨(h b o v hv).1, (hb.cell (p := ⟨b, o, none⟩) (h b o v hv).1).trans (h b o v hv).2⟩

theorem has_uniq {F : Imm} {b o : Nat} {xs ys : List Value} (hx : F.has b o xs) (hy : F.has b o ys) (hl : xs.length = ys.length) : xs = ys := by
  apply List.ext_getElem hl
  intro i h1 h2
  have e1 := hx i xs[i] (List.getElem?_eq_getElem h1)
  have e2 := hy i ys[i] (List.getElem?_eq_getElem h2)
  rw [e1] at e2
  exact Option.some.inj e2
theorem tcells_map (l : List Ty) : (l.map Ty.av).flatMap AV.cells = tcells l := by
  induction l with
  | nil => rfl
  | cons x l ih => unfold tcells at ih ⊢; simp only [List.map_cons, List.flatMap_cons, ih]
theorem tcells_cons (t : Ty) (l : List Ty) : tcells (t :: l) = .sc (.int .i64 t.kind) :: .slice .frz (t.args.map Ty.av) :: tcells l := by simp [tcells]

section
variable {F : Imm} {G : Nat → Nat} {n : Nat}
theorem args_uniq (l l' : List Ty) (ih : ∀ xs, PRepL F G n (tcells l) xs → PRepL F G n (tcells l') xs → l = l') (v : Value) (h : PRep F G n (.slice .frz (l.map Ty.av)) v) (h' : PRep F G n (.slice .frz (l'.map Ty.av)) v) : l = l' := by
    cases h with
    | slice h1 h2 h3 h4 h5 h6 h7 h8 =>
      rename_i xs b o base cap sz
      generalize hv : Value.slice base (l.map Ty.av).length cap = v at h'
      cases h' with
      | slice g1 g2 g3 g4 g5 g6 g7 g8 =>
        rename_i ys b' o' base' cap' sz'
        injection hv with e1 e2 e3
        rw [List.length_map, List.length_map] at e2
        rw [tcells_map] at h1 g1
        have l1 := h1.length
        have l2 := g1.length
        rw [tcells_len] at l1 l2
        cases l with
        | nil =>
          cases l' with
          | nil => rfl
          | cons x l' => simp at e2
        | cons x l =>
          have k1 := h3 (by simp)
          have k2 := g3 (by intro h0; rw [List.map_eq_nil_iff] at h0; subst h0; simp at e2)
          rw [e1, k2] at k1
          injection k1 with k1
          injection k1 with k3 k4 k5
          subst k3; subst k4
          have hxy := has_uniq h2 g2 (by omega)
          subst hxy
          exact ih xs h1 g1
theorem list_uniq : ∀ (l l' : List Ty) (xs : List Value), PRepL F G n (tcells l) xs → PRepL F G n (tcells l') xs → l = l'
  | [], l', xs, h, h' => by
    have l1 := h.length
    have l2 := h'.length
    rw [tcells_len] at l1 l2
    simp only [List.length_nil] at l1
    exact (List.eq_nil_of_length_eq_zero (by omega)).symm
  | .mk k a :: l, l', xs, h, h' => by
    cases l' with
    | nil =>
      have l1 := h.length
      have l2 := h'.length
      rw [tcells_len] at l1 l2
      simp only [List.length_nil, List.length_cons] at l1 l2
      omega
    | cons t' l' =>
      obtain ⟨k', a'⟩ := t'
      rw [tcells_cons] at h h'
      cases h with
      | cons p1 h =>
        cases h with
        | cons p2 h =>
          cases h' with
          | cons q1 h' =>
            cases h' with
            | cons q2 h' =>
              have e1 := prep_int p1
              have e2 := prep_int q1
              rw [e1] at e2
              injection e2 with _ e2
              have e3 := args_uniq a a' (fun xs h h' => list_uniq a a' xs h h') _ p2 q2
              have e4 := list_uniq l l' _ h h'
              simp only [Ty.kind_mk] at e2
              rw [e2, e3, e4]
  termination_by l => SizeOf.sizeOf l
  decreasing_by all_goals (simp only [List.cons.sizeOf_spec, Ty.mk.sizeOf_spec]; omega)
end

open Classical in
/-- How many nodes are still to come. -/
noncomputable def tleft (F : Imm) (G : Nat → Nat) (n B : Nat) (p : Value) (w : World) : Nat :=
  if h : ∃ r : List Ty × List Value, w.ownsRow B 29 2 p r.1.length r.2 ∧ PRepL F G n (tcells r.1) r.2 then Ty.cntL (Classical.choose h).1 else 0
theorem ownsRow_xs {w : World} {B e sz : Nat} {p : Value} {k k' : Nat} {xs ys : List Value} (h : w.ownsRow B e sz p k xs) (h' : w.ownsRow B e sz p k' ys) : k = k' ∧ xs = ys := by
  rcases h.2 with ⟨rfl, rfl⟩ | ⟨g, cap, cur, rfl, _, hg, _, _, _, hx⟩
  · rcases h'.2 with ⟨_, rfl⟩ | ⟨g', cap', cur', e, _⟩
    · have h1 := h.1
      have h2 := h'.1
      simp only [Nat.zero_mul] at h1 h2
      rw [List.eq_nil_of_length_eq_zero h1, List.eq_nil_of_length_eq_zero h2]
      exact ⟨rfl, rfl⟩
    · cases e
  · rcases h'.2 with ⟨e, _⟩ | ⟨g', cap', cur', e, _, hg', _, _, _, hx'⟩
    · cases e
    · cases e
      rw [hg] at hg'
      cases hg'
      exact ⟨rfl, hx.symm.trans hx'⟩
theorem tleft_eq {F : Imm} {G : Nat → Nat} {n B : Nat} {p : Value} {w : World} {ts : List Ty} {xs : List Value} (h1 : w.ownsRow B 29 2 p ts.length xs) (h2 : PRepL F G n (tcells ts) xs) : tleft F G n B p w = Ty.cntL ts := by
  have hex : ∃ r : List Ty × List Value, w.ownsRow B 29 2 p r.1.length r.2 ∧ PRepL F G n (tcells r.1) r.2 := ⟨(ts, xs), h1, h2⟩
  unfold tleft
  rw [dif_pos hex]
  obtain ⟨k1, k2⟩ := Classical.choose_spec hex
  obtain ⟨_, e⟩ := ownsRow_xs k1 h1
  rw [e] at k2
  rw [list_uniq _ _ _ k2 h2]

theorem wrap64_len {k : Nat} (h : k ≤ 1000000) : wrap64 (k : Int) = (k : Int) := by
  have h0 : (0 : Int) ≤ (k : Int) := Int.natCast_nonneg k
  have h1 : (k : Int) ≤ 1000000 := by omega
  generalize (k : Int) = z at h0 h1 ⊢
  unfold wrap64
  omega

/-- A row of one's own, cut by one. -/
theorem ownsRow_cut {w : World} {B e : Nat} {g k cap : Nat} {xs a : List Value} (h : w.ownsRow B e 2 (.slice (some ⟨g, 0, none⟩) (k + 1) cap) (k + 1) (xs ++ a)) (hx : xs.length = k * 2) : w.ownsRow B e 2 (.slice (some ⟨g, 0, none⟩) k cap) k xs := by
  rcases h.2 with ⟨e, _⟩ | ⟨g', cap', cur, e, hb, hg, hle, hm, hs, ht⟩
  · cases e
  · cases e
    refine ⟨hx, .inr ⟨g, cap, cur, rfl, hb, hg, by omega, hm, hs, ?_⟩⟩
    have := congrArg (List.take (k * 2)) ht
    rw [List.take_take, Nat.min_eq_left (by omega), List.take_left' hx] at this
    exact this
theorem ownsRow_cell {w : World} {B e sz : Nat} {g k cap : Nat} {xs : List Value} (h : w.ownsRow B e sz (.slice (some ⟨g, 0, none⟩) k cap) k xs) {i : Nat} {v : Value} (hi : xs[i]? = some v) : w.cell? ⟨g, i, none⟩ = some v := by
  rcases h.2 with ⟨e, _⟩ | ⟨g', cap', cur, e, hb, hg, hle, hm, hs, ht⟩
  · cases e
  · cases e
    rw [← ht] at hi
    rw [List.getElem?_take] at hi
    split at hi
    · unfold World.cell?
      rw [hg]
      simpa using hi
    · cases hi

theorem addr_none (b o j : Nat) : (⟨b, o, none⟩ : Addr).add j = ⟨b, o + j, none⟩ := by
  unfold Addr.add
  split
  · subst_vars; rfl
  · rfl

/-- A row of types, appended to by the arguments of one. -/
theorem Try.app_args {w : World} {B n₀ g k cap : Nat} {ys : List Value} (ty : TypeId) (hown : w.ownsRow B 29 2 (.slice (some ⟨g, 0, none⟩) k cap) k ys) {FI : Imm} {G : Nat → Nat} {nn : Nat} (hF : ImmB FI n₀ w) (args : List Ty) {sb : Option Addr} {sc : Nat}
    (hs : PRep FI G nn (.slice .frz (args.map Ty.av)) (.slice sb args.length sc)) (hlen : k + args.length ≤ 2000000) (hB : B ≤ w.heap.size) :
    ∃ g' cap' w' news, (Builtin.append_ #[27, 27] ty #[.slice (some ⟨g, 0, none⟩) k cap, .slice sb args.length sc]).run Try.prog w = .ok (.slice (some ⟨g', 0, none⟩) (k + args.length) cap') w' ∧
      w'.ownsRow B 29 2 (.slice (some ⟨g', 0, none⟩) (k + args.length) cap') (k + args.length) (ys ++ news) ∧ PRepL FI G nn (tcells args) news ∧ w.grownBy w' (some g) := by
  obtain ⟨i0, hi, hz0, hz1, hz2⟩ := info_parts Try.info29
  cases args with
  | nil =>
    have hcap : k ≤ cap := by
      rcases hown.2 with ⟨e, _⟩ | ⟨g', cap', cur, e, _, _, hle, _⟩
      · cases e
      · cases e; exact hle
    refine ⟨g, cap, w, [], run_append_none w Ytnbbnjmjpnncfaa.ap27 ty _ k cap hcap _ ⟨sb, sc, rfl⟩, by simpa using hown, .nil, rfl, rfl, rfl, Nat.le_refl _, fun _ _ _ => rfl⟩
  | cons x l =>
    generalize hl : x :: l = args at hs hlen ⊢
    have hne : args ≠ [] := by rw [← hl]; simp
    generalize hv : Value.slice sb args.length sc = v at hs
    cases hs with
    | slice h1 h2 h3 h4 h5 h6 h7 h8 =>
      rename_i vs b o base cap1 sz
      injection hv with e1 e2 e3
      have hb := h3 (by simpa using hne)
      rw [tcells_map] at h1 h5
      subst e1
      subst hb
      have hvl : vs.length = args.length * 2 := by rw [← h1.length, tcells_len]
      obtain ⟨v', w', r1, r2, r3, r4, r5⟩ := run_append_own_at (P := Try.prog) (w := w) B 27 ty 29 i0 (.agg #[.int .i64 0, .slice none 0 0]) 2 32 Ytnbbnjmjpnncfaa.und27 hi hz0 hz1 hz2 rfl (by decide) _ k ys hown ⟨b, o, none⟩ args.length sc vs hvl
        (fun j u hu => by rw [addr_none]; exact (hF b (o + j) u (h2 j u hu)).2)
        (fun u hu => by
          obtain ⟨a, ha, hr⟩ := h1.all2.mem hu
          exact hr.oneCell (h5 a ha))
        (by simp only [maxLen]; omega) (by omega) hB
      have hnn : v' ≠ .slice none 0 0 := fun h => by have := (r4.1 h).1; cases this
      rcases r2.2 with ⟨e, _⟩ | ⟨g', cap', cur, rfl, _⟩
      · exact absurd e hnn
      · refine ⟨g', cap', w', vs, ?_, r2, h1, r3⟩
        first | exact r1 | (rw [List.length_map, ← e3]; exact r1)

set_option maxRecDepth 100000 in
set_option maxHeartbeats 4000000 in
theorem Try.nodes1_in (n : Nat) (hn : 1 ≤ n) (l Bs n₀ : Nat) (FI : Imm) (G : Nat → Nat) (nn : Nat) (t : Ty) (c1 : Value) (hsz : t.cnt ≤ 1000000) (J Jx : List Nd → World → Prop)
    (W : World) (hJ : Apart W.heap.size J) (hY : ∀ pre x W1, J pre W1 → pre.length < t.cnt → YieldAt Fence.wide (n - 1) Try.prog l x.enc W1 fun e W' =>
      (e = .returned (.bool true) ∧ J (pre ++ [x]) W' ∧ (∀ k, W.heap.size ≤ k → k < W1.heap.size → W'.heap[k]? = W1.heap[k]?) ∧ W1.heap.size ≤ W'.heap.size ∧ Below n₀ W1 W') ∨ (e = .returned (.bool false) ∧ Jx (pre ++ [x]) W'))
    (hn₀ : n₀ ≤ W.heap.size) (hF : ImmB FI n₀ W) (h1 : PRep FI G nn (.slice .frz (t.args.map Ty.av)) c1)
    (hB0 : W.cell? ⟨Bs, 0, none⟩ = some (.int .i64 t.kind)) (hB1 : W.cell? ⟨Bs, 1, none⟩ = some c1) (h0 : J [] W) :
    CallsIn Fence.wide n Try.prog 48 #[.func (.yield l) #[] #[], .pointer (some ⟨Bs, 0, none⟩)] W fun e W' => (∃ v, e = .returned v) ∧
      ((∃ ys : List Nd, (∀ p : Int → Bool, (ys.any fun x => p x.k) = t.anyK p) ∧ J ys W') ∨ (∃ pre : List Nd, (∀ p : Int → Bool, (pre.any fun x => p x.k) = true → t.anyK p = true) ∧ Jx pre W')) := by
  refine callsIn_of_wp Try.func48 rfl trivial ?_ rfl
  simp only [Try.ntmps48, List.size_toArray, List.length_cons, List.length_nil, Nat.reduceAdd, Nat.reduceSub, Array.replicate_succ, Array.replicate_zero, List.push_toArray, List.append_toArray, List.nil_append, List.cons_append]
  gi_wp2
  gi_loopw [3] (fun p wr => ∃ (pre : List Nd) (ts : List Ty) (xs : List Value) (ad : Option Addr) (cap m : Nat), p = .slice ad m cap ∧ m = ts.length ∧ wr.ownsRow W.heap.size 29 2 p m xs ∧ PRepL FI G nn (tcells ts) xs ∧ J pre wr ∧ Below n₀ W wr ∧ W.heap.size ≤ wr.heap.size ∧
      pre.length + Ty.cntL ts = t.cnt ∧ ∀ q : Int → Bool, ((pre.any fun x => q x.k) || Ty.anyL q ts) = t.anyK q)
    (fun p wr => tleft FI G nn W.heap.size p wr)
  case atStart =>
    refine ⟨[], [t], [.int .i64 t.kind, c1], _, _, 1, rfl, rfl, ⟨rfl, .inr ⟨W.heap.size, 1, #[.int .i64 t.kind, c1], rfl, Nat.le_refl _, heap_alloc_new W _, Nat.le_refl _, by decide, rfl, rfl⟩⟩, ?_, hJ.alloc _ h0, (Below.refl _ W).alloc hn₀ _, by simp, by simp [Ty.cntL], by simp [Ty.anyL]⟩
    rw [tcells_cons]
    exact .cons (.sc rfl) (.cons h1 .nil)
  case round =>
    obtain ⟨pre, ts, xs, ad, cap, m, rfl, hm, hown, hrep, hJs, hbl, hsz2, hcnt, hany⟩ := hrel
    have hcase : ts = [] ∨ ∃ ts' t', ts = ts' ++ [t'] := by
      rcases List.eq_nil_or_concat ts with h | ⟨a, b, h⟩
      · exact .inl h
      · exact .inr ⟨a, b, by rw [h, List.concat_eq_append]⟩
    rcases hcase with rfl | ⟨ts', t', rfl⟩
    · -- nothing is left
      obtain rfl : m = 0 := hm
      gi_wp2
      go_end0
      exact ⟨⟨_, rfl⟩, .inl ⟨pre, fun q => by rw [← hany q]; simp [Ty.anyL], hJs⟩⟩
    · obtain ⟨ys, sv, rfl, yl, yr, sr⟩ := tcells_last hrep
      have hlen : ts'.length ≤ 1000000 := by
        have := Ty.len_cntL (ts' ++ [t'])
        rw [List.length_append] at this
        omega
      obtain ⟨k, hk⟩ : ∃ k, ts'.length = k := ⟨_, rfl⟩
      obtain rfl : m = k + 1 := by rw [hm, List.length_append, hk]; rfl
      rw [hk] at yl hlen
      clear hm
      have hs : ∃ g, ad = some ⟨g, 0, none⟩ ∧ W.heap.size ≤ g ∧ g < wr.heap.size := by
        rcases hown.2 with ⟨_, e⟩ | ⟨g, cap, cur, e, hb, hg, _⟩
        · omega
        · cases e; exact ⟨g, rfl, hb, (Array.getElem?_eq_some_iff.1 hg).1⟩
      obtain ⟨g, rfl, hg1, hg2⟩ := hs
      obtain ⟨sb, sc, rfl⟩ : ∃ sb sc, sv = .slice sb t'.args.length sc := by
        cases sr with
        | slice => exact ⟨_, _, by rw [List.length_map]⟩
      have c0 := ownsRow_cell hown (i := k * 2) (v := .int .i64 t'.kind) (by rw [← yl]; simp)
      have c1' := ownsRow_cell hown (i := k * 2 + 1) (v := .slice sb t'.args.length sc) (by rw [← yl]; simp)
      have hb2 : (k : Int) ≤ 1000000 := by omega
      have hcap : k + 1 ≤ cap := by
        rcases hown.2 with ⟨e, _⟩ | ⟨g', cap', cur, e, _, _, hle, _⟩
        · cases e
        · cases e; exact hle
      have hcap1 : k ≤ cap := Nat.le_of_succ_le hcap
      have hcap2 : (k : Int) ≤ (cap : Int) := Int.ofNat_le.2 hcap1
      have hk0 : (0 : Int) ≤ (k : Int) := Int.natCast_nonneg _
      have hk1 : (0 : Int) < (k : Int) + 1 := Int.lt_add_one_of_le hk0
      have hk2 : (k : Int) < (k : Int) + 1 := Int.lt_add_one_of_le (Int.le_refl _)
      gi_wp2
      refine wpIn_wide.2 ?_
      refine wp_region_still_tail 7 (by kernel_rfl) (by kernel_rfl) ?_
      simp only [List.take_succ_cons, List.take_zero, List.drop_succ_cons, List.drop_zero]
      obtain ⟨w2, hw2⟩ : ∃ w2, (wr.alloc (Obj.cells #[Value.int IntKind.i64 t'.kind, Value.slice sb t'.args.length sc] 29)) = w2 := ⟨_, rfl⟩
      have d0 : w2.cell? ⟨wr.heap.size, 0, none⟩ = some (.int .i64 t'.kind) := by rw [← hw2, World.cell?_alloc_new]; rfl
      have d1 : w2.cell? ⟨wr.heap.size, 1, none⟩ = some (.slice sb t'.args.length sc) := by rw [← hw2, World.cell?_alloc_new]; rfl
      rw [hw2]
      repeat (refine wpStill_step (fun K hK => ?_); go_simp; (try go_bits); (try go_simp); refine hK _ ?_; clear hK K)
      refine wpStill_nil ?_
      have hFw : ImmB FI n₀ w2.drew := by
        refine (hF.below hbl).below ?_
        rw [← hw2]
        exact ((Below.refl n₀ wr).alloc (by omega) _).drew
      have hsz3 : w2.heap.size = wr.heap.size + 1 := by rw [← hw2]; simp
      have hown2 : w2.drew.ownsRow W.heap.size 29 2 (.slice (some ⟨g, 0, none⟩) k cap) k ys := by
        rw [← hw2]
        exact (ownsRow_cut hown yl).alloc _
      have hcn := Ty.cntL_app ts' [t']
      have hct : Ty.cntL [t'] = t'.cnt := by simp [Ty.cntL]
      have hce := t'.cnt_eq
      have hal := Ty.len_cntL t'.args
      have htl := Ty.len_cntL ts'
      obtain ⟨g', cap', w3, news, r1, r2, r3, r4⟩ := Try.app_args 27 hown2 hFw t'.args sr (by omega) (by show W.heap.size ≤ w2.heap.size; omega)
      refine wpList_plain rfl fun K hK => ?_
      unfold Oper.wp execOp
      simp only [resolve, invoke, builtin, Sem.run_bind, Sem.run_pure, Result.andThen_ok, List.map_toArray, List.map_cons, List.map_nil]
      have key : ∀ (a b : Value) (Z : Result Value → Prop), a = .slice (some ⟨g, 0, none⟩) k cap → b = .slice sb t'.args.length sc → Z (.ok (.slice (some ⟨g', 0, none⟩) (k + t'.args.length) cap') w3) → Z ((Builtin.append_ #[27, 27] 27 #[a, b]).run Try.prog w2.drew) := by
        intro a b Z ha hb hz
        subst ha; subst hb
        rw [r1]
        exact hz
      refine key _ _ (fun z => Oper.upon _ _ _ _ _ (z.andThen _)) rfl rfl ?_
      refine hK _ _ ?_
      clear hK K key
      have hsz4 := r4.size
      rw [show w2.drew.heap.size = w2.heap.size from rfl, hsz3] at hsz4
      have hBn : Below n₀ wr w2 := by rw [← hw2]; exact (Below.refl n₀ wr).alloc (by omega) _
      have hB3 : Below n₀ W w3 := (hbl.trans hBn.drew).grown r4 (by show n₀ ≤ w2.heap.size; omega) (fun r e => by cases e; omega)
      have hJ3 : J pre w3 := by
        refine hJ _ _ _ (some g) (hJ _ _ w2.drew none hJs ?_ (fun r e => by cases e)) r4 (fun r e => by cases e; exact hg1)
        rw [← hw2]
        exact ⟨rfl, rfl, rfl, by show wr.heap.size ≤ (wr.alloc _).heap.size; simp, fun i hi _ => Below.heap_alloc _ _ _ hi⟩
      have hplen : pre.length < t.cnt := by have := t'.cnt_pos; omega
      have hgne : wr.heap.size ≠ g := by omega
      have f0 : w3.cell? ⟨wr.heap.size, 0, none⟩ = some (.int .i64 t'.kind) := r4.cell (a := ⟨wr.heap.size, 0, none⟩) d0 (by simpa using hgne)
      have f1 : w3.cell? ⟨wr.heap.size, 1, none⟩ = some (.slice sb t'.args.length sc) := r4.cell (a := ⟨wr.heap.size, 1, none⟩) d1 (by simpa using hgne)
      obtain ⟨fn, tmps, assign, body, hy, hR⟩ := hY pre ⟨t'.kind, sb, t'.args.length, sc⟩ w3 hJ3 hplen
      dsimp only [Nd.enc] at hy
      go_wp2
      gi_wp2
      refine hR.mono ?_
      have hsome : ∀ q : Int → Bool, ((pre ++ [(⟨t'.kind, sb, t'.args.length, sc⟩ : Nd)]).any fun x => q x.k) = ((pre.any fun x => q x.k) || q t'.kind) := fun q => by simp
      rintro e W4 (⟨rfl, hJ4, hk4, hs4, hb4⟩ | ⟨rfl, hJx4⟩)
      · have hg' : W.heap.size ≤ g' ∧ g' < w3.heap.size := by
          rcases r2.2 with ⟨e, _⟩ | ⟨g2, cap2, cur, e, hb, hg, _⟩
          · cases e
          · cases e; exact ⟨hb, (Array.getElem?_eq_some_iff.1 hg).1⟩
        have hown4 : W4.ownsRow W.heap.size 29 2 (.slice (some ⟨g', 0, none⟩) (k + t'.args.length) cap') (k + t'.args.length) (ys ++ news) := by
          refine ⟨r2.1, ?_⟩
          rcases r2.2 with ⟨e, _⟩ | ⟨g2, cap2, cur, e, hb, hg, rest⟩
          · cases e
          · cases e
            exact .inr ⟨g', cap', cur, rfl, hb, (hk4 g' hg'.1 hg'.2).trans hg, rest⟩
        have hrep4 : PRepL FI G nn (tcells (ts' ++ t'.args)) (ys ++ news) := by rw [tcells_app]; exact yr.append r3
        gi_wp2
        go_roundw
        case rel =>
          have hlen4 : k + t'.args.length = (ts' ++ t'.args).length := by rw [List.length_append, hk]
          have hcnt4 := Ty.cntL_app ts' t'.args
          refine ⟨pre ++ [⟨t'.kind, sb, t'.args.length, sc⟩], ts' ++ t'.args, ys ++ news, _, _, k + t'.args.length, rfl, hlen4, hown4, hrep4, hJ4, hB3.trans hb4, by omega, ?_, fun q => ?_⟩
          · rw [List.length_append, List.length_cons, List.length_nil]; omega
          · rw [hsome, ← hany q, Ty.anyL_app, Ty.anyL_app]
            simp only [Ty.anyL, Bool.or_false, Ty.anyK_eq q t']
            cases (pre.any fun x => q x.k) <;> cases q t'.kind <;> cases Ty.anyL q ts' <;> cases Ty.anyL q t'.args <;> rfl
        case measure =>
          have hlen4 : k + t'.args.length = (ts' ++ t'.args).length := by rw [List.length_append, hk]
          have hcnt4 := Ty.cntL_app ts' t'.args
          have e1 := tleft_eq (F := FI) (G := G) (n := nn) (B := W.heap.size) (ts := ts' ++ t'.args) (by rw [← hlen4]; exact hown4) hrep4
          have e2 := tleft_eq (F := FI) (G := G) (n := nn) (B := W.heap.size) (ts := ts' ++ [t']) (xs := ys ++ [.int .i64 t'.kind, .slice sb t'.args.length sc]) (by rw [List.length_append, hk]; exact hown) hrep
          rw [e1, e2]
          omega
      · gi_wp2
        refine bodyPost_ret (results_none rfl _ _ _) rfl ?_
        refine ⟨⟨_, rfl⟩, .inr ⟨_, fun q hq => ?_, hJx4⟩⟩
        rw [hsome] at hq
        rw [← hany q, Ty.anyL_app]
        simp only [Ty.anyL, Bool.or_false, Ty.anyK_eq q t']
        revert hq
        cases (pre.any fun x => q x.k) <;> cases q t'.kind <;> cases Ty.anyL q ts' <;> cases Ty.anyL q t'.args <;> simp
end Go.Proofs
namespace Go.Proofs
open Go Go.RowKit Go.Shelf Go.Abs Go.Mdl
attribute [local go_sem] Oper.semAt_some

theorem Try.nodes_iter (n : Nat) (hn : 1 ≤ n) (Bs n₀ : Nat) (FI : Imm) (G : Nat → Nat) (nn : Nat) (t : Ty) (c1 : Value) (hsz : t.cnt ≤ 1000000) (w : World) (hBs : Bs < w.heap.size) (hn₀ : n₀ ≤ w.heap.size) (hF : ImmB FI n₀ w) (h1 : PRep FI G nn (.slice .frz (t.args.map Ty.av)) c1)
    (hB0 : w.cell? ⟨Bs, 0, none⟩ = some (.int .i64 t.kind)) (hB1 : w.cell? ⟨Bs, 1, none⟩ = some c1) :
    Iter Fence.wide n Try.prog 48 #[.pointer (some ⟨Bs, 0, none⟩)] Nd.enc n₀ (fun ys => ∀ p : Int → Bool, (ys.any fun x => p x.k) = t.anyK p) (fun pre => ∀ p : Int → Bool, (pre.any fun x => p x.k) = true → t.anyK p = true) t.cnt w :=
  fun l J Jx W hW hJ _ hY h0 => Try.nodes1_in n hn l Bs n₀ FI G nn t c1 hsz J Jx W hJ hY (Nat.le_trans hn₀ hW.size) (hF.below (hW.mono hn₀)) h1 ((hW.cell (p := ⟨Bs, 0, none⟩) hBs).trans hB0) ((hW.cell (p := ⟨Bs, 1, none⟩) hBs).trans hB1) h0

set_option maxHeartbeats 1000000 in
theorem Try.nodes_in (n : Nat) (a b : Value) (w : World) : CallsIn Fence.wide n Try.prog 39 #[.agg #[a, b]] w fun e w' => e = .returned (.func (.func 48) #[] #[.pointer (some ⟨w.heap.size, 0, none⟩)]) ∧ w' = w.alloc (.cells #[a, b] 29) := by
  refine callsIn_of_wp Try.func39 rfl trivial ?_ rfl
  simp only [Try.ntmps39, List.size_toArray, List.length_cons, List.length_nil, Nat.reduceAdd, Nat.reduceSub, Array.replicate_succ, Array.replicate_zero, List.push_toArray, List.append_toArray, List.nil_append, List.cons_append]
  gi_wp2
  go_ret
  exact ⟨rfl, rfl⟩

def tabs1 : Tabs := fun g => if g = 0 then some (.agg []) else none
theorem gw_bare {T : Tabs} {G : Nat → Nat} {F : Imm} {H : Heap} {w : World} (h : GW T G F H w) : GW tabs1 G F [] w where
  imm := h.imm
  glob o cs ho := by simp at ho
  inj o o' ho := by simp at ho
  gF o j ho := by simp at ho
  fresh := h.fresh
  tabs g x hx := by
    unfold tabs1 at hx
    split at hx
    · cases hx
      exact .rptr (vs := []) .nil (fun i v hv => by simp at hv) (fun c hc => by simp [AV.cells] at hc)
    · cases hx
  row hT := by have := hT 0; simp [tabs1] at this
end Go.Proofs
