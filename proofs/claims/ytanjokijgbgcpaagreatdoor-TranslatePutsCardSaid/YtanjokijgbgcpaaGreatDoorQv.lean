/-
  The type that is found for a term with a type.
-/
import Derived.Test.YtanjokijgbgcpaaGreatDoorPn
set_option linter.unusedSimpArgs false
set_option linter.unusedVariables false
namespace Go.Mdl
open Go

theorem sameTy_self {a : Ty} (h : a.nodes ≤ 1000000000) : ref01_Same FU a a = some true := by
  obtain ⟨r, r1, r2⟩ := ref01_Same_eq FU a a (by rw [FU_eq]; exact h) h
  rw [r1, r2.2 rfl]
theorem ok_eq {t : Ty} (h : t.err = 0) : ref02_ok t = some (t, 0) := by
  unfold ref02_ok
  rw [ref01_Check_eq (by have := (Ty.err_zero h).2; omega), h]
  rfl
theorem err_nodes {t : Ty} (h : t.err = 0) : t.nodes ≤ 64 := by have := (Ty.err_zero h).2; omega

/-- Types found for terms. -/
inductive TL (n : Nat) (g : List Ty) : List Tm → List Ty → Prop
  | nil : TL n g [] []
  | cons {a : Tm} {t : Ty} {l : List Tm} {ts : List Ty} : ref02_infer n g a = some (t, 0) → TL n g l ts → TL n g (a :: l) (t :: ts)
theorem infer_args {n : Nat} {g : List Ty} : ∀ {l : List Tm} {ts : List Ty} (i : Nat) (v : List Ty), TL n g l ts → v.length + l.length ≤ 1000 →
    forR (fun (j491 : Int) (x493 : Tm) => (fun (v698 : (List Ty)) =>
      bind2 (ref02_infer n g x493) fun x790 x791 =>
      if (ine x791 0) = true then (
      some (Ctl.ret ((Ty.mk 0 []), x791)))
      else (
      chk (okApp v698 [x790]) <|
      some (.next (lapp v698 [x790])))) : Int → Tm → ((List Ty)) → (Option (Ctl ((List Ty)) (Ty × Int)))) l i v = some (.inl (v ++ ts))
  | _, _, i, v, .nil, _ => by simp
  | _, _, i, v, .cons h hl, hv => by
    simp only [List.length_cons] at hv
    rw [forR_cons]
    simp only [h, bind2_of]
    rw [if_neg (by decide), okApp_of (by simp; omega)]
    simp only [chk_true, bind1_of, ctlK_next]
    rw [infer_args (i + 1) _ hl (by rw [lapp_eq]; simp; omega), lapp_eq]
    simp

theorem infer_eq {g : List Ty} {x : Tm} {t : Ty} (h : HasTy g x t) : (∀ s ∈ g, s.err = 0) → t.err = 0 ∧ ∀ n : Nat, x.nodes ≤ n → g.length + x.nodes ≤ 1000000 → ref02_infer n g x = some (t, 0) := by
  induction h with
  | @var g t i h1 h2 =>
    intro hg
    have hte := hg t (List.mem_of_getElem? h2)
    refine ⟨hte, fun n hn hb => ?_⟩
    rw [Tm.nodes_mk] at hn
    obtain ⟨n, rfl⟩ : ∃ m, n = m + 1 := ⟨n - 1, by omega⟩
    rw [Tm.nodes_mk] at hb
    rw [ref02_infer, if_pos (by rfl), if_neg (by simp only [Tm.index_mk, ige_iff, llen_eq]; omega)]
    simp only [Tm.index_mk, llen_eq]
    rw [isub_in (a := (g.length : Int)) (by omega) (by omega), isub_in (by omega) (by omega)]
    have : lget g ((g.length : Int) - 1 - (i : Int)) = some t := by
      unfold lget
      rw [if_pos (by omega), ← h2]
      congr 1
      omega
    rw [this]
    simp only [bind1_of]
    rw [ref01_Copy' (by have := err_nodes hte; omega)]
    rfl
  | @lam g s b t h1 _ ih =>
    intro hg
    have hs := (Ty.err_parts (.inr rfl) h1).1
    have ht := (Ty.err_parts (.inr rfl) h1).2
    obtain ⟨_, ih⟩ := ih (by
      intro u hu
      rcases List.mem_append.1 hu with h | h
      · exact hg u h
      · rw [List.mem_singleton] at h; rw [h]; exact hs)
    refine ⟨h1, fun n hn hb => ?_⟩
    rw [Tm.nodes_mk] at hn hb
    simp only [sumL] at hn hb
    obtain ⟨n, rfl⟩ : ∃ m, n = m + 1 := ⟨n - 1, by omega⟩
    rw [ref02_infer, if_neg (by simp), if_pos (by rfl)]
    simp only [Tm.typeF_mk, Tm.args_mk, lget_zero, List.getElem?_cons_zero, bind1_of, lapp_eq]
    rw [okApp_of (by simp; omega), chk_true, ih n (by omega) (by simp; omega)]
    simp only [bind2_of]
    rw [if_neg (by decide), ref01_Fun_eq (by have := err_nodes hs; omega) (by have := err_nodes ht; omega)]
    simp only [bind1_of]
    rw [ok_eq h1]
    rfl
  | @app g f a s t _ _ ih1 ih2 =>
    intro hg
    obtain ⟨e1, ih1⟩ := ih1 hg
    obtain ⟨e2, ih2⟩ := ih2 hg
    have ht := (Ty.err_parts (.inr rfl) e1).2
    refine ⟨ht, fun n hn hb => ?_⟩
    rw [Tm.nodes_mk] at hn hb
    simp only [sumL] at hn hb
    obtain ⟨n, rfl⟩ : ∃ m, n = m + 1 := ⟨n - 1, by omega⟩
    have hl := infer_args (n := n) (g := g) (l := [f, a]) 0 [] (.cons (ih1 n (by omega) (by omega)) (.cons (ih2 n (by omega) (by omega)) .nil)) (by simp)
    rw [ref02_infer, if_neg (by simp), if_neg (by simp)]
    simp only [joinB_eq, Tm.args_mk, okLen_of (l := [f, a]) (by simp), chk_true]
    rw [hl]
    simp only [bind1_of, sumK_inl, ref01_Nat_eq, ref01_List_eq]
    rw [if_pos (by rfl)]
    simp only [List.nil_append, lget_zero, lget_one, List.getElem?_cons_zero, List.getElem?_cons_succ, bind1_of]
    rw [if_neg (by simp [Ty.fn, ine]), show (Ty.fn s t).args[0]? = some s from rfl]
    simp only [bind1_of]
    rw [sameTy_self (by have := err_nodes e2; omega)]
    simp only [bind1_of]
    rw [if_neg (by decide), show (Ty.fn s t).args[1]? = some t from rfl]
    rfl
  | zero =>
    intro hg
    refine ⟨Ty.nat_err, fun n hn hb => ?_⟩
    rw [Tm.nodes_mk] at hn
    obtain ⟨n, rfl⟩ : ∃ m, n = m + 1 := ⟨n - 1, by omega⟩
    rfl
  | @succ g a _ ih =>
    intro hg
    obtain ⟨e1, ih⟩ := ih hg
    refine ⟨Ty.nat_err, fun n hn hb => ?_⟩
    rw [Tm.nodes_mk] at hn hb
    simp only [sumL] at hn hb
    obtain ⟨n, rfl⟩ : ∃ m, n = m + 1 := ⟨n - 1, by omega⟩
    have hl := infer_args (n := n) (g := g) (l := [a]) 0 [] (.cons (ih n (by omega) (by omega)) .nil) (by simp)
    rw [ref02_infer, if_neg (by simp), if_neg (by simp)]
    simp only [joinB_eq, Tm.args_mk, okLen_of (l := [a]) (by simp), chk_true]
    rw [hl]
    simp only [bind1_of, sumK_inl, ref01_Nat_eq, ref01_List_eq]
    rw [if_neg (by simp), if_neg (by simp), if_pos (by rfl)]
    simp only [List.nil_append, lget_zero, List.getElem?_cons_zero, bind1_of]
    rw [sameTy_self (by rw [Ty.nat_nodes]; omega)]
    rfl
  | @recN g t b s k h0 _ _ _ ih1 ih2 ih3 =>
    intro hg
    obtain ⟨e1, ih1⟩ := ih1 hg
    obtain ⟨e2, ih2⟩ := ih2 hg
    obtain ⟨e3, ih3⟩ := ih3 hg
    refine ⟨h0, fun n hn hb => ?_⟩
    rw [Tm.nodes_mk] at hn hb
    simp only [sumL] at hn hb
    obtain ⟨n, rfl⟩ : ∃ m, n = m + 1 := ⟨n - 1, by omega⟩
    have ht := err_nodes h0
    have hl := infer_args (n := n) (g := g) (l := [b, s, k]) 0 [] (.cons (ih1 n (by omega) (by omega)) (.cons (ih2 n (by omega) (by omega)) (.cons (ih3 n (by omega) (by omega)) .nil))) (by simp)
    rw [ref02_infer, if_neg (by simp), if_neg (by simp)]
    simp only [joinB_eq, Tm.args_mk, okLen_of (l := [b, s, k]) (by simp), chk_true]
    rw [hl]
    simp only [bind1_of, sumK_inl, ref01_Nat_eq, ref01_List_eq]
    rw [if_neg (by simp), if_neg (by simp), if_neg (by simp), if_pos (by rfl)]
    simp only [List.nil_append, lget_zero, lget_one, lget_two, List.getElem?_cons_zero, List.getElem?_cons_succ, bind1_of, Tm.typeF_mk]
    rw [sameTy_self (by omega)]
    simp only [bind1_of, if_true]
    rw [ref01_Fun_eq (by omega) (by omega)]
    simp only [bind1_of]
    rw [ref01_Fun_eq (by rw [Ty.nat_nodes]; omega) (by rw [Ty.fn_nodes]; omega)]
    simp only [bind1_of]
    rw [sameTy_self (by have := err_nodes e2; omega)]
    simp only [bind1_of, if_true]
    rw [sameTy_self (by rw [Ty.nat_nodes]; omega)]
    simp only [bind1_of]
    rw [if_neg (by decide), ref01_Copy' (by omega)]
    rfl
  | nil =>
    intro hg
    refine ⟨Ty.lst_err, fun n hn hb => ?_⟩
    rw [Tm.nodes_mk] at hn
    obtain ⟨n, rfl⟩ : ∃ m, n = m + 1 := ⟨n - 1, by omega⟩
    rfl
  | @cons g a b _ _ ih1 ih2 =>
    intro hg
    obtain ⟨e1, ih1⟩ := ih1 hg
    obtain ⟨e2, ih2⟩ := ih2 hg
    refine ⟨Ty.lst_err, fun n hn hb => ?_⟩
    rw [Tm.nodes_mk] at hn hb
    simp only [sumL] at hn hb
    obtain ⟨n, rfl⟩ : ∃ m, n = m + 1 := ⟨n - 1, by omega⟩
    have hl := infer_args (n := n) (g := g) (l := [a, b]) 0 [] (.cons (ih1 n (by omega) (by omega)) (.cons (ih2 n (by omega) (by omega)) .nil)) (by simp)
    rw [ref02_infer, if_neg (by simp), if_neg (by simp)]
    simp only [joinB_eq, Tm.args_mk, okLen_of (l := [a, b]) (by simp), chk_true]
    rw [hl]
    simp only [bind1_of, sumK_inl, ref01_Nat_eq, ref01_List_eq]
    rw [if_neg (by simp), if_neg (by simp), if_neg (by simp), if_neg (by simp), if_neg (by simp), if_pos (by rfl)]
    simp only [List.nil_append, lget_zero, lget_one, List.getElem?_cons_zero, List.getElem?_cons_succ, bind1_of]
    rw [sameTy_self (by rw [Ty.nat_nodes]; omega)]
    simp only [bind1_of, if_true]
    rw [sameTy_self (by rw [Ty.lst_nodes]; omega)]
    rfl
  | @fold g t b s k h0 _ _ _ ih1 ih2 ih3 =>
    intro hg
    obtain ⟨e1, ih1⟩ := ih1 hg
    obtain ⟨e2, ih2⟩ := ih2 hg
    obtain ⟨e3, ih3⟩ := ih3 hg
    refine ⟨h0, fun n hn hb => ?_⟩
    rw [Tm.nodes_mk] at hn hb
    simp only [sumL] at hn hb
    obtain ⟨n, rfl⟩ : ∃ m, n = m + 1 := ⟨n - 1, by omega⟩
    have ht := err_nodes h0
    have hl := infer_args (n := n) (g := g) (l := [b, s, k]) 0 [] (.cons (ih1 n (by omega) (by omega)) (.cons (ih2 n (by omega) (by omega)) (.cons (ih3 n (by omega) (by omega)) .nil))) (by simp)
    rw [ref02_infer, if_neg (by simp), if_neg (by simp)]
    simp only [joinB_eq, Tm.args_mk, okLen_of (l := [b, s, k]) (by simp), chk_true]
    rw [hl]
    simp only [bind1_of, sumK_inl, ref01_Nat_eq, ref01_List_eq]
    rw [if_neg (by simp), if_neg (by simp), if_neg (by simp), if_neg (by simp), if_neg (by simp), if_neg (by simp), if_pos (by rfl)]
    simp only [List.nil_append, lget_zero, lget_one, lget_two, List.getElem?_cons_zero, List.getElem?_cons_succ, bind1_of, Tm.typeF_mk]
    rw [sameTy_self (by omega)]
    simp only [bind1_of, if_true]
    rw [ref01_Fun_eq (by omega) (by omega)]
    simp only [bind1_of]
    rw [ref01_Fun_eq (by rw [Ty.lst_nodes]; omega) (by rw [Ty.fn_nodes]; omega)]
    simp only [bind1_of]
    rw [ref01_Fun_eq (by rw [Ty.nat_nodes]; omega) (by rw [Ty.fn_nodes, Ty.fn_nodes, Ty.lst_nodes]; omega)]
    simp only [bind1_of]
    rw [sameTy_self (by have := err_nodes e2; omega)]
    simp only [bind1_of, if_true]
    rw [sameTy_self (by rw [Ty.lst_nodes]; omega)]
    simp only [bind1_of]
    rw [if_neg (by decide), ref01_Copy' (by omega)]
    rfl
  | @pair g a b s t h0 _ _ ih1 ih2 =>
    intro hg
    obtain ⟨e1, ih1⟩ := ih1 hg
    obtain ⟨e2, ih2⟩ := ih2 hg
    refine ⟨h0, fun n hn hb => ?_⟩
    rw [Tm.nodes_mk] at hn hb
    simp only [sumL] at hn hb
    obtain ⟨n, rfl⟩ : ∃ m, n = m + 1 := ⟨n - 1, by omega⟩
    have hl := infer_args (n := n) (g := g) (l := [a, b]) 0 [] (.cons (ih1 n (by omega) (by omega)) (.cons (ih2 n (by omega) (by omega)) .nil)) (by simp)
    rw [ref02_infer, if_neg (by simp), if_neg (by simp)]
    simp only [joinB_eq, Tm.args_mk, okLen_of (l := [a, b]) (by simp), chk_true]
    rw [hl]
    simp only [bind1_of, sumK_inl, ref01_Nat_eq, ref01_List_eq]
    rw [if_neg (by simp), if_neg (by simp), if_neg (by simp), if_neg (by simp), if_neg (by simp), if_neg (by simp), if_neg (by simp), if_pos (by rfl)]
    simp only [List.nil_append, lget_zero, lget_one, List.getElem?_cons_zero, List.getElem?_cons_succ, bind1_of]
    rw [ref01_Two_eq (by have := err_nodes e1; omega) (by have := err_nodes e2; omega)]
    simp only [bind1_of]
    rw [ok_eq h0]
    rfl
  | @fst g a s t _ ih =>
    intro hg
    obtain ⟨e1, ih⟩ := ih hg
    refine ⟨(Ty.err_parts (.inl rfl) e1).1, fun n hn hb => ?_⟩
    rw [Tm.nodes_mk] at hn hb
    simp only [sumL] at hn hb
    obtain ⟨n, rfl⟩ : ∃ m, n = m + 1 := ⟨n - 1, by omega⟩
    have hl := infer_args (n := n) (g := g) (l := [a]) 0 [] (.cons (ih n (by omega) (by omega)) .nil) (by simp)
    rw [ref02_infer, if_neg (by simp), if_neg (by simp)]
    simp only [joinB_eq, Tm.args_mk, okLen_of (l := [a]) (by simp), chk_true]
    rw [hl]
    simp only [bind1_of, sumK_inl, ref01_Nat_eq, ref01_List_eq]
    rw [if_neg (by simp), if_neg (by simp), if_neg (by simp), if_neg (by simp), if_neg (by simp), if_neg (by simp), if_neg (by simp), if_neg (by simp), if_pos (by rfl)]
    simp only [List.nil_append, lget_zero, List.getElem?_cons_zero, bind1_of]
    rw [if_neg (by simp [Ty.pr, ine]), if_pos (by rfl), show (Ty.pr s t).args[0]? = some s from rfl]
    rfl
  | @snd g a s t _ ih =>
    intro hg
    obtain ⟨e1, ih⟩ := ih hg
    refine ⟨(Ty.err_parts (.inl rfl) e1).2, fun n hn hb => ?_⟩
    rw [Tm.nodes_mk] at hn hb
    simp only [sumL] at hn hb
    obtain ⟨n, rfl⟩ : ∃ m, n = m + 1 := ⟨n - 1, by omega⟩
    have hl := infer_args (n := n) (g := g) (l := [a]) 0 [] (.cons (ih n (by omega) (by omega)) .nil) (by simp)
    rw [ref02_infer, if_neg (by simp), if_neg (by simp)]
    simp only [joinB_eq, Tm.args_mk, okLen_of (l := [a]) (by simp), chk_true]
    rw [hl]
    simp only [bind1_of, sumK_inl, ref01_Nat_eq, ref01_List_eq]
    rw [if_neg (by simp), if_neg (by simp), if_neg (by simp), if_neg (by simp), if_neg (by simp), if_neg (by simp), if_neg (by simp), if_neg (by simp), if_pos (by rfl)]
    simp only [List.nil_append, lget_zero, List.getElem?_cons_zero, bind1_of]
    rw [if_neg (by simp [Ty.pr, ine]), if_neg (by simp), show lget (Ty.pr s t).args 1 = some t from rfl]
    rfl
  | unit =>
    intro hg
    refine ⟨Ty.unit_err, fun n hn hb => ?_⟩
    rw [Tm.nodes_mk] at hn
    obtain ⟨n, rfl⟩ : ∃ m, n = m + 1 := ⟨n - 1, by omega⟩
    rfl
end Go.Mdl
