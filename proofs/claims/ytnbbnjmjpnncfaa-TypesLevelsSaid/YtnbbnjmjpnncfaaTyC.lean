/- A part of the proof of TypesLevelsSaid: contracts of functions of the program, and what they need. -/
import Derived.Test.YtnbbnjmjpnncfaaTyB
namespace Go.Proofs.Ytnbbnjmjpnncfaa
set_option linter.unusedSimpArgs false
set_option linter.unusedVariables false
open Go Go.Abs

theorem c42' (T : Tabs) (t : Ty) (h : t.nodes ≤ 1000000000) (H : Heap) : ACall Try.prog T 42 [t.av] H t.av H := c42 T _ t h (Nat.le_refl _) H

def Ty.want (k : Int) : Option Nat := if k = 1 ∨ k = 2 ∨ k = 5 then some 0 else if k = 3 ∨ k = 4 then some 2 else none
mutual
def Ty.shape : Ty → Bool
  | .mk k l => decide (Ty.want k = some l.length) && Ty.shapeL l
def Ty.shapeL : List Ty → Bool
  | [] => true
  | t :: l => t.shape && Ty.shapeL l
end
theorem Ty.shapeL_append (a b : List Ty) : Ty.shapeL (a ++ b) = (Ty.shapeL a && Ty.shapeL b) := by
  induction a with
  | nil => simp [Ty.shapeL]
  | cons t a ih => simp [Ty.shapeL, ih, Bool.and_assoc]
theorem Ty.nodesL_append (a b : List Ty) : Ty.nodesL (a ++ b) = Ty.nodesL a + Ty.nodesL b := by
  induction a with
  | nil => simp [Ty.nodesL]
  | cons t a ih => simp [Ty.nodesL, ih]; omega
theorem Ty.nodesL_take (l : List Ty) (i : Nat) (h : i < l.length) : Ty.nodesL (l.take (i + 1)) = Ty.nodesL (l.take i) + l[i].nodes := by
  rw [List.take_add_one, List.getElem?_eq_getElem h, Ty.nodesL_append]
  simp [Ty.nodesL]
theorem Ty.shapeL_take (l : List Ty) (i : Nat) (h : i < l.length) : Ty.shapeL (l.take (i + 1)) = (Ty.shapeL (l.take i) && l[i].shape) := by
  rw [List.take_add_one, List.getElem?_eq_getElem h, Ty.shapeL_append]
  simp [Ty.shapeL]
theorem Ty.nodesL_takeLe (l : List Ty) (i : Nat) : Ty.nodesL (l.take i) ≤ Ty.nodesL l := by
  have := Ty.nodesL_append (l.take i) (l.drop i)
  rw [List.take_append_drop] at this
  omega
theorem Ty.shapeL_mem {l : List Ty} (h : Ty.shapeL l = true) {t : Ty} (ht : t ∈ l) : t.shape = true := by
  induction l with
  | nil => cases ht
  | cons u l ih =>
    simp [Ty.shapeL] at h
    rcases List.mem_cons.1 ht with rfl | ht
    · exact h.1
    · exact ih h.2 ht
theorem Ty.want_some {k : Int} {n : Nat} (h : Ty.want k = some n) : ((k = 1 ∨ k = 2 ∨ k = 5) ∧ n = 0) ∨ ((k = 3 ∨ k = 4) ∧ n = 2) := by
  unfold Ty.want at h
  split at h
  · left; simp_all
  · split at h
    · right; simp_all
    · cases h
/-- What 'tree.CheckType' returns. -/
def Ty.chk (t : Ty) : Int × Int := if t.shape = false then (0, 2) else if 64 < t.nodes then (0, 4) else (t.nodes, 0)
mutual
def Ty.lvl : Ty → Nat
  | .mk k l => match Ty.lvls l with
    | [a, b] => if k = 3 then max a b else if k = 4 then max (a + 1) b else 0
    | _ => 0
def Ty.lvls : List Ty → List Nat
  | [] => []
  | t :: l => t.lvl :: Ty.lvls l
end
theorem Ty.lvls_eq (l : List Ty) : Ty.lvls l = l.map Ty.lvl := by
  induction l with
  | nil => rfl
  | cons t l ih => simp [Ty.lvls, ih]
theorem Ty.lvl_two (k : Int) (a b : Ty) : (Ty.mk k [a, b]).lvl = if k = 3 then max a.lvl b.lvl else if k = 4 then max (a.lvl + 1) b.lvl else 0 := by
  rw [Ty.lvl, Ty.lvls_eq]; rfl
theorem Ty.lvl_none (k : Int) : (Ty.mk k []).lvl = 0 := by rw [Ty.lvl]; rfl
theorem Ty.shape_mk (k : Int) (l : List Ty) : (Ty.mk k l).shape = (decide (Ty.want k = some l.length) && Ty.shapeL l) := by rw [Ty.shape]
theorem Ty.lvl_le : ∀ (n : Nat) (t : Ty), t.nodes ≤ n → t.lvl ≤ t.nodes := by
  intro n
  induction n with
  | zero => intro t h; have := t.nodes_pos; omega
  | succ n ih =>
    intro t h
    match t with
    | .mk k [] => simp [Ty.lvl_none]
    | .mk k [a] => rw [Ty.lvl, Ty.lvls_eq]; simp
    | .mk k [a, b] =>
      rw [Ty.lvl_two]
      simp [Ty.nodes_mk, Ty.nodesL] at h ⊢
      have h1 := ih a (by omega)
      have h2 := ih b (by omega)
      split
      · omega
      · split <;> omega
    | .mk k (a :: b :: c :: l) => rw [Ty.lvl, Ty.lvls_eq]; simp
theorem Ty.lvl_nodes (t : Ty) : t.lvl ≤ t.nodes := Ty.lvl_le _ t (Nat.le_refl _)
def Ty.nat : Ty := .mk 1 []
def Ty.fun2 (a b : Ty) : Ty := .mk 4 [a, b]
def Ty.two (a b : Ty) : Ty := .mk 3 [a, b]
/-- A step of making a type. -/
def mkTypeS (L : List Int) (d : Int) (m : Nat → Ty × Nat) (k : Nat) : Ty × Nat :=
  if (next L k 7).1 = 0 then (.mk 1 [], (next L k 7).2) else if (next L k 7).1 = 1 then (.mk 1 [], (next L k 7).2) else if (next L k 7).1 = 2 then (.mk 1 [], (next L k 7).2)
  else if (next L k 7).1 = 3 then (.mk 2 [], (next L k 7).2) else if (next L k 7).1 = 4 then (.mk 5 [], (next L k 7).2)
  else if (next L k 7).1 = 5 then (if 0 < d then (.mk 3 [(m (next L k 7).2).1, (m (m (next L k 7).2).2).1], (m (m (next L k 7).2).2).2) else (.mk 1 [], (next L k 7).2))
  else if (next L k 7).1 = 6 then (if 0 < d then (.mk 4 [(m (next L k 7).2).1, (m (m (next L k 7).2).2).1], (m (m (next L k 7).2).2).2) else (.mk 1 [], (next L k 7).2))
  else (.mk 1 [], (next L k 7).2)


theorem enters29 : entersB Try.prog 29 = true := by kernel_rfl
set_option maxRecDepth 20000 in
theorem c29 (T : Tabs) (H : Heap) (a b : Ty) (ha : a.nodes ≤ 1000000000) (hb : b.nodes ≤ 1000000000) : ACall Try.prog T 29 [a.av, b.av] H (Ty.mk 4 [a, b]).av H := by
  refine ACallP.intro (fn := Try.f29) Try.func29 rfl enters29 (Nat.le_of_ble_eq_true rfl) ?_
  refine AWp.seqK fun K1 hk2 => ?_
  refine AWp.region [] (by decide +kernel) ?_
  simp
  refine hk2 _ _ ?_
  refine AWp.seqK fun K3 hk4 => ?_
  refine AWp.regionD [] false mixed (by decide +kernel) (by decide +kernel) ?_
  simp
  refine CallAtD.fn0 (c42' T _ ha _) ?_
  simp
  refine CallAtD.fn0 (c42' T _ hb _) ?_
  simp
  refine hk4 _ _ ?_
  refine AWp.ret ?_
  try simp only [thenQ_ret]
  simp [retQ]
theorem enters34 : entersB Try.prog 34 = true := by kernel_rfl
set_option maxRecDepth 20000 in
theorem c34 (T : Tabs) (H : Heap) (a b : Ty) (ha : a.nodes ≤ 1000000000) (hb : b.nodes ≤ 1000000000) : ACall Try.prog T 34 [a.av, b.av] H (Ty.mk 3 [a, b]).av H := by
  refine ACallP.intro (fn := Try.f34) Try.func34 rfl enters34 (Nat.le_of_ble_eq_true rfl) ?_
  refine AWp.seqK fun K1 hk2 => ?_
  refine AWp.region [] (by decide +kernel) ?_
  simp
  refine hk2 _ _ ?_
  refine AWp.seqK fun K3 hk4 => ?_
  refine AWp.regionD [] false mixed (by decide +kernel) (by decide +kernel) ?_
  simp
  refine CallAtD.fn0 (c42' T _ ha _) ?_
  simp
  refine CallAtD.fn0 (c42' T _ hb _) ?_
  simp
  refine hk4 _ _ ?_
  refine AWp.ret ?_
  try simp only [thenQ_ret]
  simp [retQ]
theorem enters9 : entersB Try.prog 9 = true := by kernel_rfl
set_option maxRecDepth 20000 in
theorem c9x (T : Tabs) (L : List Int) (hL : L.length ≤ 1000) (o : Nat) (d : Int) (hd : d ≤ 100) (m : Nat → Ty × Nat) (hm : ∀ k, (m k).1.nodes ≤ 1000000000) (ih : 0 < d → ∀ (H : Heap) (k : Nat), H[o]? = some (deckC L k) → ACall Try.prog T 9 [.gptr o 0, .sc (.int .i64 (d - 1))] H (m k).1.av (H.set o (deckC L (m k).2))) (H : Heap) (k : Nat) (ho : H[o]? = some (deckC L k)) : ACall Try.prog T 9 [.gptr o 0, .sc (.int .i64 d)] H (mkTypeS L d m k).1.av (H.set o (deckC L (mkTypeS L d m k).2)) := by
  refine ACallP.intro (fn := Try.f9) Try.func9 rfl enters9 (Nat.le_of_ble_eq_true rfl) ?_
  refine AWp.seqK fun K1 hk2 => ?_
  refine AWp.region [] (by decide +kernel) ?_
  simp
  refine hk2 _ _ ?_
  refine AWp.seqK fun K3 hk4 => ?_
  refine AWp.seqK fun K5 hk6 => ?_
  refine AWp.region [] (by decide +kernel) ?_
  simp
  refine CallAt.fn (c31 T H L k o ho 7 hL) ?_
  simp
  refine hk6 _ _ ?_
  refine AWp.blockK fun Q7 nn8 ne9 nx10 nr11 => ?_
  refine AWp.seqK fun K12 hk13 => ?_
  refine AWp.seqK fun K14 hk15 => ?_
  refine AWp.region [] (by decide +kernel) ?_
  simp
  refine hk15 _ _ ?_
  refine AWp.condK rfl fun A16 B17 ga_18 gb_19 => ?_
  simp
  first | refine ite_intro (fun cc20 => ga_18 _ _ ?_) (fun cc20 => gb_19 _ _ ?_) | refine ite_introN (fun cc20 => ga_18 _ _ ?_) (fun cc20 => gb_19 _ _ ?_)
  · skip
    refine AWp.skip ?_
    try simp only [thenQ_normal]
    refine hk13 _ _ ?_
    refine AWp.condK rfl fun A21 B22 ga_23 gb_24 => ?_
    simp [cc20]
    refine ga_23 _ _ ?_
    refine AWp.seqK fun K25 hk26 => ?_
    refine AWp.region [] (by decide +kernel) ?_
    simp [cc20]
    refine CallAt.fn (c30 _ _) ?_
    simp [cc20]
    refine hk26 _ _ ?_
    refine AWp.ret ?_
    try simp only [thenQ_ret]
    refine nr11 _ _ ?_
    try simp only [thenQ_ret]
    simp [retQ, mkTypeS, cc20]
  · skip
    refine AWp.seqK fun K27 hk28 => ?_
    refine AWp.region [] (by decide +kernel) ?_
    simp [cc20]
    refine hk28 _ _ ?_
    refine AWp.condK rfl fun A29 B30 ga_31 gb_32 => ?_
    simp [cc20]
    first | refine ite_intro (fun cc33 => ga_31 _ _ ?_) (fun cc33 => gb_32 _ _ ?_) | refine ite_introN (fun cc33 => ga_31 _ _ ?_) (fun cc33 => gb_32 _ _ ?_)
    · skip
      refine AWp.skip ?_
      try simp only [thenQ_normal]
      refine hk13 _ _ ?_
      refine AWp.condK rfl fun A34 B35 ga_36 gb_37 => ?_
      simp [cc20, cc33]
      refine ga_36 _ _ ?_
      refine AWp.seqK fun K38 hk39 => ?_
      refine AWp.region [] (by decide +kernel) ?_
      simp [cc20, cc33]
      refine CallAt.fn (c30 _ _) ?_
      simp [cc20, cc33]
      refine hk39 _ _ ?_
      refine AWp.ret ?_
      try simp only [thenQ_ret]
      refine nr11 _ _ ?_
      try simp only [thenQ_ret]
      simp [retQ, mkTypeS, cc20, cc33]
    · skip
      refine AWp.region [] (by decide +kernel) ?_
      simp [cc20, cc33]
      refine hk13 _ _ ?_
      refine AWp.condK rfl fun A40 B41 ga_42 gb_43 => ?_
      simp [cc20, cc33]
      first | refine ite_intro (fun cc44 => ga_42 _ _ ?_) (fun cc44 => gb_43 _ _ ?_) | refine ite_introN (fun cc44 => ga_42 _ _ ?_) (fun cc44 => gb_43 _ _ ?_)
      · skip
        refine AWp.seqK fun K45 hk46 => ?_
        refine AWp.region [] (by decide +kernel) ?_
        simp [cc20, cc33, cc44]
        refine CallAt.fn (c30 _ _) ?_
        simp [cc20, cc33, cc44]
        refine hk46 _ _ ?_
        refine AWp.ret ?_
        try simp only [thenQ_ret]
        refine nr11 _ _ ?_
        try simp only [thenQ_ret]
        simp [retQ, mkTypeS, cc20, cc33, cc44]
      · skip
        refine AWp.seqK fun K47 hk48 => ?_
        refine AWp.region [] (by decide +kernel) ?_
        simp [cc20, cc33, cc44]
        refine hk48 _ _ ?_
        refine AWp.condK rfl fun A49 B50 ga_51 gb_52 => ?_
        simp [cc20, cc33, cc44]
        first | refine ite_intro (fun cc53 => ga_51 _ _ ?_) (fun cc53 => gb_52 _ _ ?_) | refine ite_introN (fun cc53 => ga_51 _ _ ?_) (fun cc53 => gb_52 _ _ ?_)
        · skip
          refine AWp.seqK fun K54 hk55 => ?_
          refine AWp.region [] (by decide +kernel) ?_
          simp [cc20, cc33, cc44, cc53]
          refine CallAt.fn (c32 _ _) ?_
          simp [cc20, cc33, cc44, cc53]
          refine hk55 _ _ ?_
          refine AWp.ret ?_
          try simp only [thenQ_ret]
          refine nr11 _ _ ?_
          try simp only [thenQ_ret]
          simp [retQ, mkTypeS, cc20, cc33, cc44, cc53]
        · skip
          refine AWp.seqK fun K56 hk57 => ?_
          refine AWp.region [] (by decide +kernel) ?_
          simp [cc20, cc33, cc44, cc53]
          refine hk57 _ _ ?_
          refine AWp.condK rfl fun A58 B59 ga_60 gb_61 => ?_
          simp [cc20, cc33, cc44, cc53]
          first | refine ite_intro (fun cc62 => ga_60 _ _ ?_) (fun cc62 => gb_61 _ _ ?_) | refine ite_introN (fun cc62 => ga_60 _ _ ?_) (fun cc62 => gb_61 _ _ ?_)
          · skip
            refine AWp.seqK fun K63 hk64 => ?_
            refine AWp.region [] (by decide +kernel) ?_
            simp [cc20, cc33, cc44, cc53, cc62]
            refine CallAt.fn (c33 _ _) ?_
            simp [cc20, cc33, cc44, cc53, cc62]
            refine hk64 _ _ ?_
            refine AWp.ret ?_
            try simp only [thenQ_ret]
            refine nr11 _ _ ?_
            try simp only [thenQ_ret]
            simp [retQ, mkTypeS, cc20, cc33, cc44, cc53, cc62]
          · skip
            refine AWp.seqK fun K65 hk66 => ?_
            refine AWp.region [] (by decide +kernel) ?_
            simp [cc20, cc33, cc44, cc53, cc62]
            refine hk66 _ _ ?_
            refine AWp.condK rfl fun A67 B68 ga_69 gb_70 => ?_
            simp [cc20, cc33, cc44, cc53, cc62]
            first | refine ite_intro (fun cc71 => ga_69 _ _ ?_) (fun cc71 => gb_70 _ _ ?_) | refine ite_introN (fun cc71 => ga_69 _ _ ?_) (fun cc71 => gb_70 _ _ ?_)
            · skip
              refine AWp.seqK fun K72 hk73 => ?_
              refine AWp.region [] (by decide +kernel) ?_
              simp [cc20, cc33, cc44, cc53, cc62, cc71]
              refine hk73 _ _ ?_
              refine AWp.condK rfl fun A74 B75 ga_76 gb_77 => ?_
              simp [cc20, cc33, cc44, cc53, cc62, cc71]
              first | refine ite_intro (fun cc78 => ga_76 _ _ ?_) (fun cc78 => gb_77 _ _ ?_) | refine ite_introN (fun cc78 => ga_76 _ _ ?_) (fun cc78 => gb_77 _ _ ?_)
              · skip
                have hw : IntKind.i64.wrap (d - 1) = d - 1 := wrap_id (by omega) (by omega)
                have ho1 : (H.set o (deckC L (next L k 7).2))[o]? = some (deckC L (next L k 7).2) := set_get ho
                refine AWp.seqK fun K79 hk80 => ?_
                refine AWp.region [] (by decide +kernel) ?_
                simp [cc20, cc33, cc44, cc53, cc62, cc71, cc78, hw]
                refine CallAt.fn (ih (by omega) _ _ ho1) ?_
                simp [cc20, cc33, cc44, cc53, cc62, cc71, cc78, hw]
                refine CallAt.fn (ih (by omega) _ _ (set_get ho)) ?_
                simp [cc20, cc33, cc44, cc53, cc62, cc71, cc78, hw]
                refine CallAt.fn (c34 _ _ _ _ (hm _) (hm _)) ?_
                simp [cc20, cc33, cc44, cc53, cc62, cc71, cc78, hw]
                refine hk80 _ _ ?_
                refine AWp.ret ?_
                try simp only [thenQ_ret]
                refine nr11 _ _ ?_
                try simp only [thenQ_ret]
                simp [retQ, mkTypeS, cc20, cc33, cc44, cc53, cc62, cc71, cc78, hw]
              · skip
                refine AWp.skip ?_
                try simp only [thenQ_normal]
                refine nn8 _ _ ?_
                try simp only [thenQ_normal]
                refine hk4 _ _ ?_
                refine AWp.seqK fun K81 hk82 => ?_
                refine AWp.region [] (by decide +kernel) ?_
                simp [cc20, cc33, cc44, cc53, cc62, cc71, cc78]
                refine CallAt.fn (c30 _ _) ?_
                simp [cc20, cc33, cc44, cc53, cc62, cc71, cc78]
                refine hk82 _ _ ?_
                refine AWp.ret ?_
                try simp only [thenQ_ret]
                simp [retQ, mkTypeS, cc20, cc33, cc44, cc53, cc62, cc71, cc78]
            · skip
              refine AWp.seqK fun K83 hk84 => ?_
              refine AWp.region [] (by decide +kernel) ?_
              simp [cc20, cc33, cc44, cc53, cc62, cc71]
              refine hk84 _ _ ?_
              refine AWp.condK rfl fun A85 B86 ga_87 gb_88 => ?_
              simp [cc20, cc33, cc44, cc53, cc62, cc71]
              first | refine ite_intro (fun cc89 => ga_87 _ _ ?_) (fun cc89 => gb_88 _ _ ?_) | refine ite_introN (fun cc89 => ga_87 _ _ ?_) (fun cc89 => gb_88 _ _ ?_)
              · skip
                refine AWp.seqK fun K90 hk91 => ?_
                refine AWp.region [] (by decide +kernel) ?_
                simp [cc20, cc33, cc44, cc53, cc62, cc71, cc89]
                refine hk91 _ _ ?_
                refine AWp.condK rfl fun A92 B93 ga_94 gb_95 => ?_
                simp [cc20, cc33, cc44, cc53, cc62, cc71, cc89]
                first | refine ite_intro (fun cc96 => ga_94 _ _ ?_) (fun cc96 => gb_95 _ _ ?_) | refine ite_introN (fun cc96 => ga_94 _ _ ?_) (fun cc96 => gb_95 _ _ ?_)
                · skip
                  have hw : IntKind.i64.wrap (d - 1) = d - 1 := wrap_id (by omega) (by omega)
                  refine AWp.seqK fun K97 hk98 => ?_
                  refine AWp.region [] (by decide +kernel) ?_
                  simp [cc20, cc33, cc44, cc53, cc62, cc71, cc89, cc96, hw]
                  refine CallAt.fn (ih (by omega) _ _ (set_get ho)) ?_
                  simp [cc20, cc33, cc44, cc53, cc62, cc71, cc89, cc96, hw]
                  refine CallAt.fn (ih (by omega) _ _ (set_get ho)) ?_
                  simp [cc20, cc33, cc44, cc53, cc62, cc71, cc89, cc96, hw]
                  refine CallAt.fn (c29 _ _ _ _ (hm _) (hm _)) ?_
                  simp [cc20, cc33, cc44, cc53, cc62, cc71, cc89, cc96, hw]
                  refine hk98 _ _ ?_
                  refine AWp.ret ?_
                  try simp only [thenQ_ret]
                  refine nr11 _ _ ?_
                  try simp only [thenQ_ret]
                  simp [retQ, mkTypeS, cc20, cc33, cc44, cc53, cc62, cc71, cc89, cc96, hw]
                · skip
                  refine AWp.skip ?_
                  try simp only [thenQ_normal]
                  refine nn8 _ _ ?_
                  try simp only [thenQ_normal]
                  refine hk4 _ _ ?_
                  refine AWp.seqK fun K99 hk100 => ?_
                  refine AWp.region [] (by decide +kernel) ?_
                  simp [cc20, cc33, cc44, cc53, cc62, cc71, cc89, cc96]
                  refine CallAt.fn (c30 _ _) ?_
                  simp [cc20, cc33, cc44, cc53, cc62, cc71, cc89, cc96]
                  refine hk100 _ _ ?_
                  refine AWp.ret ?_
                  try simp only [thenQ_ret]
                  simp [retQ, mkTypeS, cc20, cc33, cc44, cc53, cc62, cc71, cc89, cc96]
              · skip
                refine AWp.skip ?_
                try simp only [thenQ_normal]
                refine nn8 _ _ ?_
                try simp only [thenQ_normal]
                refine hk4 _ _ ?_
                refine AWp.seqK fun K101 hk102 => ?_
                refine AWp.region [] (by decide +kernel) ?_
                simp [cc20, cc33, cc44, cc53, cc62, cc71, cc89]
                refine CallAt.fn (c30 _ _) ?_
                simp [cc20, cc33, cc44, cc53, cc62, cc71, cc89]
                refine hk102 _ _ ?_
                refine AWp.ret ?_
                try simp only [thenQ_ret]
                simp [retQ, mkTypeS, cc20, cc33, cc44, cc53, cc62, cc71, cc89]
end Go.Proofs.Ytnbbnjmjpnncfaa
