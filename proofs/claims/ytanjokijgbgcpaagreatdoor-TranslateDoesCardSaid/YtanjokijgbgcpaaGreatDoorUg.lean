/-
  The program's rebuilding of terms and formulas: lifting and putting.
-/
import Derived.Test.YtanjokijgbgcpaaGreatDoorUf
import Derived.Test.YtanjokijgbgcpaaGreatDoorPm
set_option linter.unusedSimpArgs false
set_option linter.unusedVariables false
namespace Go.Mdl
open Go

/-- A term with something in place of each variable; b: how many Lams are above. -/
def Tm.reb (φ : Int → Int → Tm) (b : Int) : Tm → Tm
  | .mk k i s l => if k = 1 then φ i b else .mk k i s (l.attach.map fun x => Tm.reb φ (b + lamB k) x.1)
decreasing_by
  have := List.sizeOf_lt_of_mem x.2
  simp only [Tm.mk.sizeOf_spec]
  omega
theorem Tm.reb_mk (φ : Int → Int → Tm) (b k i : Int) (s : Ty) (l : List Tm) : (Tm.mk k i s l).reb φ b = if k = 1 then φ i b else .mk k i s (l.map (Tm.reb φ (b + lamB k))) := by
  rw [Tm.reb]
  congr 2
  exact List.attach_map_val

theorem lamB_sel (k b : Int) (h1 : -1000000000000 ≤ b) (h2 : b ≤ 1000000000000) : sel (ieq k 2) (iadd .i64 b 1) b = b + lamB k := by
  unfold lamB
  by_cases h : k = 2
  · subst h
    rw [show ieq 2 2 = true from rfl, if_pos rfl]
    exact iadd_in (by omega) (by omega)
  · rw [show ieq k 2 = false by simpa [ieq] using h, if_neg h]
    show b = b + 0
    omega

theorem tree_Rebuild_1_eq {h : Int → Int → Option Tm} {φ : Int → Int → Tm} {M : Int} (hh : ∀ i b, 0 ≤ i → i ≤ M → 0 ≤ b → b ≤ 10000000000 → h i b = some (φ i b)) : ∀ (n : Nat) (t : Tm) (b : Int), t.nodes ≤ n → t.nodes ≤ 50000000 → t.ok = true → t.least M = true → 0 ≤ b → b + t.nodes ≤ 10000000000 →
    tree_Rebuild_1 n t b (fun (s : Unit) (y0 : Int) (y1 : Int) => pureW (h y0 y1) s) () = some (t.reb φ b, ()) := by
  intro n
  induction n with
  | zero => intro t b h; have := t.nodes_pos; omega
  | succ n ih =>
    intro t b hn hb ho hl h0 hbn
    cases t with
    | mk k i s l =>
      rw [Tm.nodes_mk] at hn hb hbn
      have hlen := Tm.len_nodes l
      have ho' := ho
      rw [Tm.ok_mk, Bool.and_eq_true] at ho
      have hty := Ty.nodes_of_node ho.1
      rw [Tm.least_mk, Bool.and_eq_true, decide_eq_true_iff, List.all_eq_true] at hl
      rw [tree_Rebuild_1, Tm.reb_mk]
      by_cases hk : k = 1
      · subst hk
        have hi := (Tm.ok_inv ho').2.1
        rw [if_pos (by rfl), if_pos rfl]
        simp only [Tm.index_mk]
        rw [hh i b hi hl.1 h0 (by omega), pureW_some', bind2_of]
      · rw [if_neg (by simpa [ieq] using hk), if_neg hk]
        simp only [Tm.typeF_mk, Tm.args_mk, Tm.kind_mk, Tm.index_mk, joinB_eq]
        rw [tree_OwnType' (by omega), bind1_of, okLen_of (by omega), chk_true, lamB_sel k b (by omega) (by omega)]
        have hlb := lamB_bd k
        have loop : ∀ (ts : List Tm) (j : Nat) (v : List Tm), (∀ t ∈ ts, t ∈ l) → v.length + ts.length ≤ 50000000 →
            forR (fun (j66 : Int) (x68 : Tm) => (un2 fun (v106 : (List Tm)) (v107 : Unit) =>
              bind2 (tree_Rebuild_1 n x68 (b + lamB k) (fun (s : Unit) (y0 : Int) (y1 : Int) => pureW (h y0 y1) s) v107) fun x127 s128 =>
              chk (okApp v106 [x127]) <|
              some ((.next ((lapp v106 [x127]), s128)) : Ctl ((List Tm) × Unit) (Tm × Unit)))) ts j (v, ()) = some (.inl (v ++ ts.map (Tm.reb φ (b + lamB k)), ())) := by
          intro ts
          induction ts with
          | nil => intro j v _ _; simp
          | cons t ts iht =>
            intro j v hm hv
            simp only [List.length_cons] at hv
            have htl := hm t (by simp)
            have hmn := sumL_mem Tm.nodes htl
            rw [forR_cons]
            simp only [un2]
            rw [ih t (b + lamB k) (by omega) (by omega) ((Tm.ok_inv ho').2.2.2.1 t htl) (hl.2 t htl) (by omega) (by omega), bind2_of, okApp_of (by simp; omega), chk_true]
            simp only [bind1_of, ctlK_next]
            rw [lapp_eq]
            have := iht (j + 1) (v ++ [t.reb φ (b + lamB k)]) (fun u hu => hm u (by simp [hu])) (by simp; omega)
            rw [this]
            simp
        rw [loop l 0 [] (fun t h => h) (by simp; omega), bind1_of]
        simp
end Go.Mdl
