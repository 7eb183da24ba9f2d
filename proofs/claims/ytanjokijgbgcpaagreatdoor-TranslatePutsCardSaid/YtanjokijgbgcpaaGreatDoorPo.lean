/-
  The free variables of a term, as the program lists them: ascending, each once.
-/
import Derived.Test.YtanjokijgbgcpaaGreatDoorPd
import Derived.Test.YtanjokijgbgcpaaGreatDoorSort
set_option linter.unusedSimpArgs false
set_option linter.unusedVariables false
namespace Go.Mdl
open Go

/-- The keys of a map. -/
def keysL {α : Type} (m : List (Int × α)) : List Int := m.map (·.1)
theorem mput_mem {α : Type} (k : Int) (v : α) : ∀ (m : List (Int × α)) (x : Int), x ∈ keysL (mput m k v) ↔ x = k ∨ x ∈ keysL m
  | [], x => by simp [mput, keysL]
  | p :: m, x => by
    unfold mput
    by_cases h : p.1 = k
    · rw [if_pos h]
      subst h
      simp [keysL]
    · rw [if_neg h]
      have ih := mput_mem k v m x
      simp only [keysL, List.map_cons, List.mem_cons] at ih ⊢
      rw [ih]
      constructor
      · rintro (h | h | h)
        · exact .inr (.inl h)
        · exact .inl h
        · exact .inr (.inr h)
      · rintro (h | h | h)
        · exact .inr (.inl h)
        · exact .inl h
        · exact .inr (.inr h)
theorem mput_nodup {α : Type} (k : Int) (v : α) : ∀ (m : List (Int × α)), (keysL m).Nodup → (keysL (mput m k v)).Nodup
  | [], _ => by simp [mput, keysL]
  | p :: m, h => by
    have h' : p.1 ∉ keysL m ∧ (keysL m).Nodup := List.nodup_cons.1 h
    unfold mput
    by_cases hk : p.1 = k
    · rw [if_pos hk]
      subst hk
      exact h
    · rw [if_neg hk]
      refine List.nodup_cons.2 ⟨fun hm => ?_, mput_nodup k v m h'.2⟩
      rcases (mput_mem k v m p.1).1 hm with e | e
      · exact hk e
      · exact h'.1 e
theorem mput_len {α : Type} (k : Int) (v : α) : ∀ (m : List (Int × α)), (mput m k v).length ≤ m.length + 1
  | [] => by simp [mput]
  | p :: m => by
    unfold mput
    split
    · simp
    · have := mput_len k v m
      simp only [List.length_cons]
      omega

theorem insS_len (n : Int) : ∀ l : List Int, (insS n l).length = l.length + 1
  | [] => rfl
  | a :: l => by
    unfold insS
    split
    · rfl
    · simp [insS_len n l]
theorem sortS_len : ∀ (l acc : List Int), (sortS acc l).length = acc.length + l.length
  | [], acc => by simp [sortS]
  | a :: l, acc => by rw [sortS, sortS_len l, insS_len]; simp only [List.length_cons]; omega

theorem ref03_Mark_eq : ∀ (n : Nat) (t : Tm) (d : Int) (m : List (Int × Bool)), t.nodes ≤ n → t.nodes ≤ 100000000 → 0 ≤ d → d + t.nodes ≤ 1000000000 → t.least 4611686018427387904 = true → (keysL m).Nodup →
    ∃ m', ref03_Mark n t d m = some m' ∧ (keysL m').Nodup ∧ m'.length ≤ m.length + t.nodes ∧ ∀ x, x ∈ keysL m' ↔ x ∈ keysL m ∨ (0 ≤ x ∧ 0 < t.times (x + d)) := by
  intro n
  induction n with
  | zero => intro t d m h; have := t.nodes_pos; omega
  | succ n ih =>
    intro t d m hn hb hd0 hd hl hm
    cases t with
    | mk k i s l =>
      have hlam := lamB_bd k
      rw [Tm.nodes_mk] at hn hb hd
      have hlen := sumL_len Tm.nodes l fun t _ => t.nodes_pos
      rw [Tm.least_mk, Bool.and_eq_true, decide_eq_true_eq, List.all_eq_true] at hl
      -- the arguments
      have args : ∀ (F : Int → Tm → List (Int × Bool) → Option (Ctl (List (Int × Bool)) (List (Int × Bool)))), (∀ j x v, F j x v = bind1 (ref03_below (Tm.mk k i s l)) fun b => bind1 (ref03_Mark n x (iadd .i64 d b) v) fun r => some (.next r)) →
          ∀ (as : List Tm) (j : Nat) (v : List (Int × Bool)), (∀ a ∈ as, a ∈ l) → (keysL v).Nodup →
          ∃ v', forR F as j v = some (.inl v') ∧ (keysL v').Nodup ∧
            v'.length ≤ v.length + sumL Tm.nodes as ∧ ∀ x, x ∈ keysL v' ↔ x ∈ keysL v ∨ (0 ≤ x ∧ 0 < sumL (Tm.times (x + d + lamB k)) as) := by
        intro F hF as
        induction as with
        | nil => intro j v _ hv; exact ⟨v, rfl, hv, by simp [sumL], fun x => by simp [sumL]⟩
        | cons a as iha =>
          intro j v has hv
          have ha := has a (by simp)
          have hna := sumL_mem Tm.nodes ha
          have hla := hl.2 a ha
          obtain ⟨v1, h1, h2, h3, h4⟩ := ih a (d + lamB k) v (by omega) (by omega) (by omega) (by omega) hla hv
          obtain ⟨v2, g1, g2, g3, g4⟩ := iha (j + 1) v1 (fun b hb => has b (by simp [hb])) h2
          refine ⟨v2, ?_, g2, by simp only [sumL]; omega, fun x => ?_⟩
          · rw [forR_cons, hF, ref03_below_eq]
            simp only [bind1_of, Tm.kind_mk]
            rw [iadd_in (by omega) (by omega), h1]
            simp only [bind1_of, ctlK_next]
            exact g1
          · rw [g4, h4]
            simp only [sumL]
            rw [← Int.add_assoc]
            constructor
            · rintro ((h | h) | h)
              · exact .inl h
              · exact .inr ⟨h.1, by omega⟩
              · exact .inr ⟨h.1, by omega⟩
            · rintro (h | ⟨h, h'⟩)
              · exact .inl (.inl h)
              · by_cases hz : 0 < a.times (x + d + lamB k)
                · exact .inl (.inr ⟨h, hz⟩)
                · exact .inr ⟨h, by omega⟩
      unfold ref03_Mark
      simp only [joinB_eq, Tm.args_mk, okLen_of (l := l) (by omega), chk_true, Tm.kind_mk, Tm.index_mk]
      rw [Tm.nodes_mk]
      by_cases hc : k = 1 ∧ d ≤ i
      · have hsel : sel (ieq k 1) (ige i d) false = true := by simp [sel, hc.1, hc.2]
        simp only [hsel, if_true]
        rw [isub_in (by omega) (by omega)]
        obtain ⟨v', h1, h2, h3, h4⟩ := args _ (fun _ _ _ => rfl) l 0 (mput m (i - d) true) (fun a h => h) (mput_nodup _ _ _ hm)
        refine ⟨v', by rw [h1]; rfl, h2, by have := mput_len (i - d) true m; omega, fun x => ?_⟩
        rw [h4, mput_mem, Tm.times_mk]
        constructor
        · rintro ((h | h) | h)
          · exact .inr ⟨by omega, by rw [if_pos ⟨hc.1, by omega⟩]; omega⟩
          · exact .inl h
          · exact .inr ⟨h.1, by omega⟩
        · rintro (h | ⟨h, h'⟩)
          · exact .inl (.inr h)
          · by_cases hx : x = i - d
            · exact .inl (.inl hx)
            · rw [if_neg (fun hq => hx (by omega))] at h'
              exact .inr ⟨h, by omega⟩
      · have hsel : sel (ieq k 1) (ige i d) false = false := by
          unfold sel
          split
          · rename_i hk
            have hk1 : k = 1 := by simpa using hk
            simp only [ige, decide_eq_false_iff_not]
            exact fun h => hc ⟨hk1, h⟩
          · rfl
        simp only [hsel, Bool.false_eq_true, if_false]
        obtain ⟨v', h1, h2, h3, h4⟩ := args _ (fun _ _ _ => rfl) l 0 m (fun a h => h) hm
        refine ⟨v', by rw [h1]; rfl, h2, by omega, fun x => ?_⟩
        rw [h4, Tm.times_mk]
        constructor
        · rintro (h | h)
          · exact .inl h
          · exact .inr ⟨h.1, by omega⟩
        · rintro (h | ⟨h, h'⟩)
          · exact .inl h
          · rw [if_neg (fun hq => hc ⟨hq.1, by omega⟩)] at h'
            exact .inr ⟨h, by omega⟩

end Go.Mdl
