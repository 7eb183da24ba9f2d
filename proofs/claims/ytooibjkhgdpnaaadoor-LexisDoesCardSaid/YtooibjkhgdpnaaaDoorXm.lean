/-
  LexisBack: texts that differ in spaces alone have the same tokens.
-/
import Derived.Test.YtooibjkhgdpnaaaDoorXl
set_option linter.unusedSimpArgs false
set_option linter.unusedVariables false
namespace Go.Mdl
open Go

/-- A token without its place. -/
def Tkn.strip (t : Tkn) : Tkn := ⟨t.kind, t.num, 0, t.text⟩

/-- More space behind spaces and parentheses. -/
inductive Wide : List UInt8 → List UInt8 → Prop
  | nil : Wide [] []
  | keep {b : UInt8} {s t : List UInt8} : Wide s t → Wide (b :: s) (b :: t)
  | fill {b : UInt8} {f s t : List UInt8} : (b = 32 ∨ b = 40 ∨ b = 41) → (∀ c ∈ f, c = 32 ∨ c = 10) → Wide s t → Wide (b :: s) (b :: (f ++ t))

theorem scan_fill : ∀ (f : List UInt8) (j : Nat) (t : List UInt8), (∀ c ∈ f, c = 32 ∨ c = 10) → scan j (f ++ t) = scan (j + f.length) t
  | [], j, t, _ => rfl
  | c :: f, j, t, h => by
    rw [List.cons_append, scan_sp (h c (by simp)), scan_fill f (j + 1) t (fun x hx => h x (by simp [hx]))]
    congr 1
    simp only [List.length_cons]; omega

theorem notW {b : UInt8} (h : b = 32 ∨ b = 40 ∨ b = 41) : isW b = false := by rcases h with rfl | rfl | rfl <;> decide

theorem wide_word {s t : List UInt8} (h : Wide s t) : t.takeWhile isW = s.takeWhile isW ∧ Wide (s.drop (s.takeWhile isW).length) (t.drop (s.takeWhile isW).length) := by
  induction h with
  | nil => exact ⟨rfl, .nil⟩
  | @keep b s t h ih =>
    by_cases hb : isW b = true
    · rw [List.takeWhile_cons, List.takeWhile_cons, if_pos hb, if_pos hb]
      exact ⟨by rw [ih.1], ih.2⟩
    · rw [List.takeWhile_cons, List.takeWhile_cons, if_neg hb, if_neg hb]
      exact ⟨rfl, .keep h⟩
  | @fill b f s t hb hf h ih =>
    rw [List.takeWhile_cons, List.takeWhile_cons, if_neg (by rw [notW hb]; decide), if_neg (by rw [notW hb]; decide)]
    exact ⟨rfl, .fill hb hf h⟩

theorem map_strip (t t' : Tkn) (h : t.strip = t'.strip) (x y : Option (List Tkn)) (hxy : x.map (List.map Tkn.strip) = y.map (List.map Tkn.strip)) :
    (x.map (t :: ·)).map (List.map Tkn.strip) = (y.map (t' :: ·)).map (List.map Tkn.strip) := by
  cases x <;> cases y <;> simp_all

theorem scan_place (i j : Nat) (l : List UInt8) : (scan i l).map (List.map Tkn.strip) = (scan j l).map (List.map Tkn.strip) := by
  have key : ∀ i, (scan i l).map (List.map Tkn.strip) = (scan 0 l).map (List.map Tkn.strip) := fun i => by
    have := scan_shift 0 i l
    rw [Nat.zero_add] at this
    rw [this]
    cases scan 0 l with
    | none => rfl
    | some a =>
      simp only [Option.map_some, List.map_map]
      rfl
  rw [key i, key j]

theorem scan_wide : ∀ (n : Nat) (s t : List UInt8) (i j : Nat), s.length ≤ n → Wide s t → (scan i s).map (List.map Tkn.strip) = (scan j t).map (List.map Tkn.strip)
  | n, [], t, i, j, _, h => by cases h; rfl
  | 0, b :: s, t, i, j, hn, _ => by simp at hn
  | n + 1, b :: s, t, i, j, hn, h => by
    have hn' : s.length ≤ n := by simpa using hn
    -- behind one of the special bytes
    have tail : ∀ (t' : List UInt8) (j' : Nat), t = b :: t' → (b = 32 ∨ b = 10 ∨ b = 40 ∨ b = 41) → (scan (i + 1) s).map (List.map Tkn.strip) = (scan j' t').map (List.map Tkn.strip) := by
      intro t' j' ht _
      subst ht
      cases h with
      | keep h => exact scan_wide n s t' _ _ hn' h
      | fill hb hf h =>
        rw [scan_fill _ _ _ hf]
        exact scan_wide n s _ _ _ hn' h
    obtain ⟨t', ht⟩ : ∃ t', t = b :: t' := by cases h with | keep h => exact ⟨_, rfl⟩ | fill hb hf h => exact ⟨_, rfl⟩
    by_cases c1 : b = 32 ∨ b = 10
    · rw [ht, scan_sp c1, scan_sp c1]
      exact tail t' _ ht (c1.elim .inl (fun h => .inr (.inl h)))
    by_cases c2 : b = 40
    · subst c2
      rw [ht, scan_open, scan_open]
      exact map_strip ⟨1, 0, i, .empty⟩ ⟨1, 0, j, .empty⟩ rfl _ _ (tail t' _ ht (.inr (.inr (.inl rfl))))
    by_cases c3 : b = 41
    · subst c3
      rw [ht, scan_close, scan_close]
      exact map_strip ⟨2, 0, i, .empty⟩ ⟨2, 0, j, .empty⟩ rfl _ _ (tail t' _ ht (.inr (.inr (.inr rfl))))
    obtain ⟨w1, w2⟩ := wide_word h
    rw [scan_word ⟨c1, c2, c3⟩]
    rw [ht] at w1 w2 ⊢
    rw [scan_word ⟨c1, c2, c3⟩, w1, wordB_at i, wordB_at j]
    cases hw : wordB 0 ((b :: s).takeWhile isW) with
    | none => rfl
    | some x =>
      simp only [Option.map_some]
      have hpos : 0 < ((b :: s).takeWhile isW).length := by
        cases hq : (b :: s).takeWhile isW with
        | nil => rw [hq, wordB_nil] at hw; cases hw
        | cons _ _ => simp
      refine map_strip ⟨x.kind, x.num, i, x.text⟩ ⟨x.kind, x.num, j, x.text⟩ rfl _ _ (scan_wide n _ _ _ _ ?_ w2)
      rw [List.length_drop]
      simp only [List.length_cons] at hn ⊢
      omega
end Go.Mdl
