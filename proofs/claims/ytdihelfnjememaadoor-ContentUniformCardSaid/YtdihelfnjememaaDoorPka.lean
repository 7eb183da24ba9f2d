/-
  The laws of chapter 23 about formulas that are made: with and without content, uniform quantifiers.
-/
import Derived.Test.YtdihelfnjememaaDoorPj
set_option linter.unusedSimpArgs false
set_option linter.unusedVariables false
namespace Go.Mdl
open Go

theorem cty_rf {f : Fm} (h : f.err = 0) : f.cty = f.rf := by unfold Fm.cty Fm.rf; rw [if_neg (by simp [h])]
theorem FmOk.sizes {g : List Ty} {f : Fm} {n : Nat} (h : FmOk g f n) (hn : n ≤ 4000) : f.wt ≤ 1000000000 ∧ f.err = 0 := ⟨by have := h.wt; omega, h.err (by omega)⟩
theorem q_ok {k : Int} {s : Ty} {f : Fm} (hk : k = 4 ∨ k = 5 ∨ k = 6 ∨ k = 7) (hs : s.err = 0) (hf : f.ok = true) (hn : f.nodes ≤ 4000) : (Fm.mk k s [] [f]).err = 0 ∧ (Fm.mk k s [] [f]).wt ≤ 1000000000 := by
  have h1 : ¬ k = 1 := by omega
  have h2 : ¬ (k = 2 ∨ k = 3) := by omega
  have h3 : quantB k = true := by simp [quantB, hk]
  have hok : (Fm.mk k s [] [f]).ok = true := by simp [Fm.ok_mk, Fm.node, h1, h2, h3, hs, hf]
  have hnd : (Fm.mk k s [] [f]).nodes ≤ 4001 := by rw [Fm.nodes_mk]; simp only [sumL]; omega
  exact ⟨Fm.err_of hok (by omega), by have := Fm.ok_wt _ hok; omega⟩
theorem two_ok {k : Int} {a b : Fm} (hk : k = 2 ∨ k = 3) (ha : a.ok = true) (hb : b.ok = true) (hn : a.nodes + b.nodes ≤ 4000) : (Fm.mk k .z [] [a, b]).err = 0 ∧ (Fm.mk k .z [] [a, b]).wt ≤ 1000000000 := by
  have h1 : ¬ k = 1 := by omega
  have hok : (Fm.mk k .z [] [a, b]).ok = true := by simp [Fm.ok_mk, Fm.node, h1, hk, Ty.zeroB_z, ha, hb]
  have hnd : (Fm.mk k .z [] [a, b]).nodes ≤ 4001 := by rw [Fm.nodes_mk]; simp only [sumL]; omega
  exact ⟨Fm.err_of hok (by omega), by have := Fm.ok_wt _ hok; omega⟩

theorem awake_true : law23_awake = some true := by
  have hz : tmZero.ok = true := by rfl
  have hsz : (tmSucc tmZero).ok = true := by rfl
  have h0 : (Fm.mk 1 .z [tmZero, tmSucc tmZero] []).ok = true := by simp [Fm.ok_mk, Fm.node, Ty.zeroB_z, hz, hsz]
  have n0 : (Fm.mk 1 .z [tmZero, tmSucc tmZero] []).nodes = 4 := by decide
  have w0 := Fm.ok_wt _ h0
  obtain ⟨e1, w1⟩ := q_ok (k := 5) (s := .nat) (f := .mk 1 .z [tmZero, tmSucc tmZero] []) (by omega) Ty.nat_err h0 (by omega)
  have h1 := (Fm.err_ok e1).1
  have n1 : (Fm.mk 5 .nat [] [.mk 1 .z [tmZero, tmSucc tmZero] []]).nodes = 5 := by decide
  obtain ⟨e2, w2⟩ := q_ok (k := 4) (s := .nat) (f := .mk 5 .nat [] [.mk 1 .z [tmZero, tmSucc tmZero] []]) (by omega) Ty.nat_err h1 (by omega)
  have e0 : (Fm.mk 1 .z [tmZero, tmSucc tmZero] []).err = 0 := Fm.err_of h0 (by omega)
  have c0 : (Fm.mk 1 .z [tmZero, tmSucc tmZero] []).ct = tup0 := Fm.ct_eq _ _ _
  have g0 : (Fm.mk 1 .z [tmZero, tmSucc tmZero] []).has = false := Fm.has_eq _ _ _
  have c1 : (Fm.mk 5 .nat [] [.mk 1 .z [tmZero, tmSucc tmZero] []]).ct = (.nat, true, 0) := by rw [Fm.ct_one, if_neg (by omega), c0]; rfl
  have g1 : (Fm.mk 5 .nat [] [.mk 1 .z [tmZero, tmSucc tmZero] []]).has = true := by rw [Fm.has_one]; rfl
  have c2 : (Fm.mk 4 .nat [] [.mk 5 .nat [] [.mk 1 .z [tmZero, tmSucc tmZero] []]]).ct = (.fn .nat .nat, true, 0) := by
    rw [Fm.ct_one, if_neg (by omega), c1]
    unfold ctNode joinT
    have := nn_err
    unfold Ty.fn at this ⊢
    simp [this]
  have g2 : (Fm.mk 4 .nat [] [.mk 5 .nat [] [.mk 1 .z [tmZero, tmSucc tmZero] []]]).has = true := by rw [Fm.has_one, g1]; rfl
  have hl : lookO [.mk 1 .z [tmZero, tmSucc tmZero] [], .mk 4 .nat [] [.mk 5 .nat [] [.mk 1 .z [tmZero, tmSucc tmZero] []]]] [.nat] [] = .inl ([.nat, .fn .nat .nat], [-1, 1]) := by
    simp [lookO, e0, e2, c0, c2, g0, g2, tup0]
  have hq : ctxE [.nat] = 0 := by simp [ctxE, firstE, Ty.nat_err]
  have b1 : ∀ t ∈ [Ty.nat], t.nodes ≤ 1000000000 := by intro t ht; rw [List.mem_singleton] at ht; subst ht; rw [Ty.nat_nodes]; omega
  have b2 : ∀ f ∈ [Fm.mk 1 .z [tmZero, tmSucc tmZero] [], .mk 4 .nat [] [.mk 5 .nat [] [.mk 1 .z [tmZero, tmSucc tmZero] []]]], f.wt ≤ 1000000000 := by
    intro f hf
    simp only [List.mem_cons, List.not_mem_nil, or_false] at hf
    rcases hf with rfl | rfl
    · omega
    · exact w2
  have k1 := content_Context_eq ⟨[.nat], [.mk 1 .z [tmZero, tmSucc tmZero] [], .mk 4 .nat [] [.mk 5 .nat [] [.mk 1 .z [tmZero, tmSucc tmZero] []]]]⟩ (by simp) b1 (by simp) b2
  have k2 := content_Places_eq ⟨[.nat], [.mk 1 .z [tmZero, tmSucc tmZero] [], .mk 4 .nat [] [.mk 5 .nat [] [.mk 1 .z [tmZero, tmSucc tmZero] []]]]⟩ (by simp) b1 (by simp) b2
  simp only [hq, hl, ne_eq, not_true_eq_false, if_false, List.length_cons, List.length_nil] at k1 k2
  unfold law23_awake
  rw [False_eq]
  simp only [bind1_of]
  have hc := content_Type_eq _ w2
  rw [cty_rf e2] at hc
  unfold Fm.rf at hc
  rw [c2, g2] at hc
  simp only [ne_eq, not_true_eq_false, if_false, if_true] at hc
  have hfs : ref01_Same FU (Ty.fn .nat .nat) (Ty.fn .nat .nat) = some true := by
    rw [ref01_Same' (by rw [Ty.fn_nodes, Ty.nat_nodes]; omega), (Ty.sameB_iff _ _).2 rfl]
  rw [show content_Type (Fm.mk 4 (Ty.mk 1 []) [] [Fm.mk 5 (Ty.mk 1 []) [] [Fm.mk 1 Ty.z [tmZero, tmSucc tmZero] []]]) = some (Ty.fn Ty.nat Ty.nat, 0) from hc,
    show content_Context ⟨[Ty.mk 1 []], [Fm.mk 1 Ty.z [tmZero, tmSucc tmZero] [], Fm.mk 4 (Ty.mk 1 []) [] [Fm.mk 5 (Ty.mk 1 []) [] [Fm.mk 1 Ty.z [tmZero, tmSucc tmZero] []]]]⟩ = some ([.nat, .fn .nat .nat], 0) from k1,
    show content_Places ⟨[Ty.mk 1 []], [Fm.mk 1 Ty.z [tmZero, tmSucc tmZero] [], Fm.mk 4 (Ty.mk 1 []) [] [Fm.mk 5 (Ty.mk 1 []) [] [Fm.mk 1 Ty.z [tmZero, tmSucc tmZero] []]]]⟩ = some ([-1, 1], 0) from k2]
  simp only [bind2_of, joinB_eq, ieq_iff, if_true, llen_eq, List.length_cons, List.length_nil]
  rw [show ref23_Fun (Ty.mk 1 []) (Ty.mk 1 []) = some (Ty.fn .nat .nat) from rfl]
  simp only [bind1_of, hfs, if_true, lget_zero, lget_one, List.getElem?_cons_zero, List.getElem?_cons_succ]
  rfl

theorem limits_four : law23_limits 4 = some true := rfl
theorem ctxOne {t : Ty} (h : t.err = 0) (h2 : t.nodes ≤ 3) : CtxOk 3 [t] := ⟨fun s hs => by rw [List.mem_singleton] at hs; subst hs; exact ⟨h, h2⟩⟩
theorem ctxNil : CtxOk 3 [] := ⟨fun s hs => by cases hs⟩
theorem same_self (t : Ty) (h : t.nodes ≤ 1000000000) : ref01_Same FU t t = some true := by rw [ref01_Same' h, (Ty.sameB_iff _ _).2 rfl]

theorem rf_nodes {f : Fm} (hf : f.ok = true) : f.rf.1.nodes ≤ 64 := by
  unfold Fm.rf
  split
  · rw [Ty.nodes_mk]; simp [sumL]
  · rename_i h
    simp only [ne_eq, Classical.not_not] at h
    split
    · rename_i hh
      exact ct_nodes f hf h (by rw [(ct_ok f hf).h h]; exact hh)
    · rw [Ty.nodes_mk]; simp [sumL]

theorem rf_q {k : Int} {s : Ty} {a : Fm} (hk : k ≠ 1) (hk2 : k ≠ 2) : (Fm.mk k s [] [a]).rf =
    if (ctNode k s a.ct a.ct).2.2 ≠ 0 then (.mk 0 [], (ctNode k s a.ct a.ct).2.2) else (if (k = 5 ∨ a.has = true) then (ctNode k s a.ct a.ct).1 else .mk 5 [], 0) := by
  have h1 := Fm.ct_one k s [] a
  rw [if_neg hk] at h1
  have h2 := Fm.has_one k s [] a
  rw [if_neg hk] at h2
  unfold Fm.rf
  rw [h1, h2]
  by_cases h5 : k = 5 <;> simp [h5]

end Go.Mdl
