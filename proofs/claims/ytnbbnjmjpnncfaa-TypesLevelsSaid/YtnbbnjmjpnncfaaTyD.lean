/- A part of the proof of TypesLevelsSaid: contracts of functions of the program, and what they need. -/
import Derived.Test.YtnbbnjmjpnncfaaTyC
namespace Go.Proofs.Ytnbbnjmjpnncfaa
set_option linter.unusedSimpArgs false
set_option linter.unusedVariables false
open Go Go.Abs

/-- The types that the deck makes. -/
def mkType (L : List Int) : Nat → Nat → Ty × Nat
  | 0, k => mkTypeS L 0 (fun k => (.mk 1 [], k)) k
  | n + 1, k => mkTypeS L (n + 1 : Nat) (mkType L n) k
/-- What is true of a type that is made of a depth. -/
structure Ty.Good (d : Nat) (t : Ty) : Prop where
  shape : t.shape = true
  nodes : t.nodes < 2 ^ (d + 1)
theorem Ty.shape_nat : (Ty.mk 1 []).shape = true := by rw [Ty.shape]; rfl
theorem Ty.shape_list : (Ty.mk 2 []).shape = true := by rw [Ty.shape]; rfl
theorem Ty.shape_unit : (Ty.mk 5 []).shape = true := by rw [Ty.shape]; rfl
theorem Ty.shape_two (a b : Ty) : (Ty.mk 3 [a, b]).shape = (a.shape && b.shape) := by simp [Ty.shape_mk, Ty.want, Ty.shapeL]
theorem Ty.shape_fun (a b : Ty) : (Ty.mk 4 [a, b]).shape = (a.shape && b.shape) := by simp [Ty.shape_mk, Ty.want, Ty.shapeL]
theorem Ty.nodes_two (k : Int) (a b : Ty) : (Ty.mk k [a, b]).nodes = 1 + a.nodes + b.nodes := by simp [Ty.nodes_mk, Ty.nodesL]; omega
theorem Ty.nodes_none (k : Int) : (Ty.mk k []).nodes = 1 := by simp [Ty.nodes_mk, Ty.nodesL]
theorem good_leaf {k : Int} (h : (Ty.mk k []).shape = true) (d : Nat) : (Ty.mk k []).Good d := ⟨h, by rw [Ty.nodes_none]; have : 1 ≤ 2 ^ d := Nat.one_le_two_pow; rw [Nat.pow_succ]; omega⟩
theorem mkTypeS_good (L : List Int) (d : Nat) (m : Nat → Ty × Nat) (hm : 0 < d → ∀ k, (m k).1.Good (d - 1)) (k : Nat) : (mkTypeS L d m k).1.Good d := by
  have hp : 1 ≤ 2 ^ d := Nat.one_le_two_pow
  unfold mkTypeS
  repeat' split
  all_goals try exact good_leaf Ty.shape_nat d
  · exact good_leaf Ty.shape_list d
  · exact good_leaf Ty.shape_unit d
  · rename_i hd
    have hd' : 0 < d := by omega
    obtain ⟨e, rfl⟩ : ∃ e, d = e + 1 := ⟨d - 1, by omega⟩
    have h1 := hm hd' (next L k 7).2
    have h2 := hm hd' (m (next L k 7).2).2
    refine ⟨by rw [Ty.shape_two, h1.shape, h2.shape]; rfl, ?_⟩
    have := h1.nodes
    have := h2.nodes
    simp only [Nat.add_sub_cancel, Nat.pow_succ] at *
    rw [Ty.nodes_two]
    omega
  · rename_i hd
    have hd' : 0 < d := by omega
    obtain ⟨e, rfl⟩ : ∃ e, d = e + 1 := ⟨d - 1, by omega⟩
    have h1 := hm hd' (next L k 7).2
    have h2 := hm hd' (m (next L k 7).2).2
    refine ⟨by rw [Ty.shape_fun, h1.shape, h2.shape]; rfl, ?_⟩
    have := h1.nodes
    have := h2.nodes
    simp only [Nat.add_sub_cancel, Nat.pow_succ] at *
    rw [Ty.nodes_two]
    omega
theorem mkType_good (L : List Int) (d k : Nat) : (mkType L d k).1.Good d := by
  induction d generalizing k with
  | zero => exact mkTypeS_good L 0 _ (by omega) k
  | succ d ih => exact mkTypeS_good L (d + 1) _ (fun _ k => ih k) k
theorem c9 (T : Tabs) (L : List Int) (hL : L.length ≤ 1000) (o : Nat) (d : Nat) (hd : d ≤ 20) (H : Heap) (k : Nat) (ho : H[o]? = some (deckC L k)) : ACall Try.prog T 9 [.gptr o 0, .sc (.int .i64 d)] H (mkType L d k).1.av (H.set o (deckC L (mkType L d k).2)) := by
  induction d generalizing H k with
  | zero => exact c9x T L hL o 0 (by omega) _ (fun k => by rw [Ty.nodes_none]; omega) (by omega) H k ho
  | succ d ih =>
    refine c9x T L hL o (d + 1 : Nat) (by omega) (mkType L d) (fun k => ?_) (fun _ H k h => ?_) H k ho
    · have := (mkType_good L d k).nodes
      have : 2 ^ (d + 1) ≤ 2 ^ 20 := Nat.pow_le_pow_right (by omega) (by omega)
      omega
    · have := ih (by omega) H k h
      rw [show ((d + 1 : Nat) : Int) - 1 = d by omega]
      exact this


theorem enters47 : entersB Try.prog 47 = true := by kernel_rfl
set_option maxRecDepth 20000 in
theorem c47x (T : Tabs) (H : Heap) (k : Int) (l : List Ty) (hn : Ty.nodesL l ≤ 1000000000) (ih : ∀ t ∈ l, ∀ (H : Heap), ACall Try.prog T 47 [t.av] H (.tuple [.sc (.int .i64 (if t.shape then t.nodes else 0 : Nat)), .sc (.bool t.shape)]) H) : ACall Try.prog T 47 [(Ty.mk k l).av] H (.tuple [.sc (.int .i64 (if (Ty.mk k l).shape then (Ty.mk k l).nodes else 0 : Nat)), .sc (.bool (Ty.mk k l).shape)]) H := by
  have hlen := Ty.nodesL_len l
  refine ACallP.intro (fn := Try.f47) Try.func47 rfl enters47 (Nat.le_of_ble_eq_true rfl) ?_
  refine AWp.seqK fun K1 hk2 => ?_
  refine AWp.region [] (by decide +kernel) ?_
  simp [Ty.av_mk, -Ty.agg_mk]
  refine hk2 _ _ ?_
  refine AWp.seqK fun K3 hk4 => ?_
  refine AWp.region [] (by decide +kernel) ?_
  simp [Ty.av_mk, -Ty.agg_mk]
  refine hk4 _ _ ?_
  refine AWp.seqP (fun fr h => H = h ∧ (∃ w : Nat, Ty.want k = some w ∧ fr.env 4 = .sc (.int .i64 w)) ∧ fr.env 1 = .lptr 1 1 0 ∧ fr.gen 1 = 1 ∧ fr.box 1 = some [.sc (.int .i64 k), .slice .frz (l.map Ty.av)]) (fun K5 hj6 => ?_) ?_
  · skip
    refine AWp.seqK fun K7 hk8 => ?_
    refine AWp.region [] (by decide +kernel) ?_
    simp [Ty.av_mk, -Ty.agg_mk]
    refine hk8 _ _ ?_
    refine AWp.blockK fun Q9 nn10 ne11 nx12 nr13 => ?_
    refine AWp.seqK fun K14 hk15 => ?_
    refine AWp.seqK fun K16 hk17 => ?_
    refine AWp.region [] (by decide +kernel) ?_
    simp [Ty.av_mk, -Ty.agg_mk]
    refine hk17 _ _ ?_
    refine AWp.condK rfl fun A18 B19 ga_20 gb_21 => ?_
    simp [Ty.av_mk, -Ty.agg_mk]
    first | refine ite_intro (fun cc22 => ga_20 _ _ ?_) (fun cc22 => gb_21 _ _ ?_) | refine ite_introN (fun cc22 => ga_20 _ _ ?_) (fun cc22 => gb_21 _ _ ?_)
    · skip
      refine AWp.skip ?_
      try simp only [thenQ_normal]
      refine hk15 _ _ ?_
      refine AWp.condK rfl fun A23 B24 ga_25 gb_26 => ?_
      simp [Ty.av_mk, -Ty.agg_mk, cc22]
      refine ga_25 _ _ ?_
      refine AWp.skip ?_
      try simp only [thenQ_normal]
      refine nn10 _ _ ?_
      try simp only [thenQ_normal]
      refine hj6 _ _ ?_
      exact ⟨rfl, ⟨0, by simp [Ty.want, Ty.av_mk, -Ty.agg_mk, cc22], by simp [Ty.av_mk, -Ty.agg_mk, cc22]⟩, by simp [Ty.av_mk, -Ty.agg_mk, cc22], by simp [Ty.av_mk, -Ty.agg_mk, cc22], by simp [Ty.av_mk, -Ty.agg_mk, cc22]⟩
    · skip
      refine AWp.seqK fun K27 hk28 => ?_
      refine AWp.region [] (by decide +kernel) ?_
      simp [Ty.av_mk, -Ty.agg_mk, cc22]
      refine hk28 _ _ ?_
      refine AWp.condK rfl fun A29 B30 ga_31 gb_32 => ?_
      simp [Ty.av_mk, -Ty.agg_mk, cc22]
      first | refine ite_intro (fun cc33 => ga_31 _ _ ?_) (fun cc33 => gb_32 _ _ ?_) | refine ite_introN (fun cc33 => ga_31 _ _ ?_) (fun cc33 => gb_32 _ _ ?_)
      · skip
        refine AWp.skip ?_
        try simp only [thenQ_normal]
        refine hk15 _ _ ?_
        refine AWp.condK rfl fun A34 B35 ga_36 gb_37 => ?_
        simp [Ty.av_mk, -Ty.agg_mk, cc22, cc33]
        refine ga_36 _ _ ?_
        refine AWp.skip ?_
        try simp only [thenQ_normal]
        refine nn10 _ _ ?_
        try simp only [thenQ_normal]
        refine hj6 _ _ ?_
        exact ⟨rfl, ⟨0, by simp [Ty.want, Ty.av_mk, -Ty.agg_mk, cc22, cc33], by simp [Ty.av_mk, -Ty.agg_mk, cc22, cc33]⟩, by simp [Ty.av_mk, -Ty.agg_mk, cc22, cc33], by simp [Ty.av_mk, -Ty.agg_mk, cc22, cc33], by simp [Ty.av_mk, -Ty.agg_mk, cc22, cc33]⟩
      · skip
        refine AWp.region [] (by decide +kernel) ?_
        simp [Ty.av_mk, -Ty.agg_mk, cc22, cc33]
        refine hk15 _ _ ?_
        refine AWp.condK rfl fun A38 B39 ga_40 gb_41 => ?_
        simp [Ty.av_mk, -Ty.agg_mk, cc22, cc33]
        first | refine ite_intro (fun cc42 => ga_40 _ _ ?_) (fun cc42 => gb_41 _ _ ?_) | refine ite_introN (fun cc42 => ga_40 _ _ ?_) (fun cc42 => gb_41 _ _ ?_)
        · skip
          refine AWp.skip ?_
          try simp only [thenQ_normal]
          refine nn10 _ _ ?_
          try simp only [thenQ_normal]
          refine hj6 _ _ ?_
          exact ⟨rfl, ⟨0, by simp [Ty.want, Ty.av_mk, -Ty.agg_mk, cc22, cc33, cc42], by simp [Ty.av_mk, -Ty.agg_mk, cc22, cc33, cc42]⟩, by simp [Ty.av_mk, -Ty.agg_mk, cc22, cc33, cc42], by simp [Ty.av_mk, -Ty.agg_mk, cc22, cc33, cc42], by simp [Ty.av_mk, -Ty.agg_mk, cc22, cc33, cc42]⟩
        · skip
          refine AWp.seqK fun K43 hk44 => ?_
          refine AWp.seqK fun K45 hk46 => ?_
          refine AWp.region [] (by decide +kernel) ?_
          simp [Ty.av_mk, -Ty.agg_mk, cc22, cc33, cc42]
          refine hk46 _ _ ?_
          refine AWp.condK rfl fun A47 B48 ga_49 gb_50 => ?_
          simp [Ty.av_mk, -Ty.agg_mk, cc22, cc33, cc42]
          first | refine ite_intro (fun cc51 => ga_49 _ _ ?_) (fun cc51 => gb_50 _ _ ?_) | refine ite_introN (fun cc51 => ga_49 _ _ ?_) (fun cc51 => gb_50 _ _ ?_)
          · skip
            refine AWp.skip ?_
            try simp only [thenQ_normal]
            refine hk44 _ _ ?_
            refine AWp.condK rfl fun A52 B53 ga_54 gb_55 => ?_
            simp [Ty.av_mk, -Ty.agg_mk, cc22, cc33, cc42, cc51]
            refine ga_54 _ _ ?_
            refine AWp.region [] (by decide +kernel) ?_
            simp [Ty.av_mk, -Ty.agg_mk, cc22, cc33, cc42, cc51]
            refine nn10 _ _ ?_
            try simp only [thenQ_normal]
            refine hj6 _ _ ?_
            exact ⟨rfl, ⟨2, by simp [Ty.want, Ty.av_mk, -Ty.agg_mk, cc22, cc33, cc42, cc51], by simp [Ty.av_mk, -Ty.agg_mk, cc22, cc33, cc42, cc51]⟩, by simp [Ty.av_mk, -Ty.agg_mk, cc22, cc33, cc42, cc51], by simp [Ty.av_mk, -Ty.agg_mk, cc22, cc33, cc42, cc51], by simp [Ty.av_mk, -Ty.agg_mk, cc22, cc33, cc42, cc51]⟩
          · skip
            refine AWp.region [] (by decide +kernel) ?_
            simp [Ty.av_mk, -Ty.agg_mk, cc22, cc33, cc42, cc51]
            refine hk44 _ _ ?_
            refine AWp.condK rfl fun A56 B57 ga_58 gb_59 => ?_
            simp [Ty.av_mk, -Ty.agg_mk, cc22, cc33, cc42, cc51]
            first | refine ite_intro (fun cc60 => ga_58 _ _ ?_) (fun cc60 => gb_59 _ _ ?_) | refine ite_introN (fun cc60 => ga_58 _ _ ?_) (fun cc60 => gb_59 _ _ ?_)
            · skip
              refine AWp.region [] (by decide +kernel) ?_
              simp [Ty.av_mk, -Ty.agg_mk, cc22, cc33, cc42, cc51, cc60]
              refine nn10 _ _ ?_
              try simp only [thenQ_normal]
              refine hj6 _ _ ?_
              exact ⟨rfl, ⟨2, by simp [Ty.want, Ty.av_mk, -Ty.agg_mk, cc22, cc33, cc42, cc51, cc60], by simp [Ty.av_mk, -Ty.agg_mk, cc22, cc33, cc42, cc51, cc60]⟩, by simp [Ty.av_mk, -Ty.agg_mk, cc22, cc33, cc42, cc51, cc60], by simp [Ty.av_mk, -Ty.agg_mk, cc22, cc33, cc42, cc51, cc60], by simp [Ty.av_mk, -Ty.agg_mk, cc22, cc33, cc42, cc51, cc60]⟩
            · skip
              refine AWp.seqK fun K61 hk62 => ?_
              refine AWp.region [] (by decide +kernel) ?_
              simp [Ty.av_mk, -Ty.agg_mk, cc22, cc33, cc42, cc51, cc60]
              refine hk62 _ _ ?_
              refine AWp.ret ?_
              try simp only [thenQ_ret]
              refine nr13 _ _ ?_
              try simp only [thenQ_ret]
              simp [retQ, Ty.shape_mk, Ty.want, Ty.av_mk, -Ty.agg_mk, cc22, cc33, cc42, cc51, cc60]
  · skip
    rintro fr h ⟨rfl, ⟨w, hw0, e4_⟩, e1_, g1_, b1_⟩
    refine AWp.seqK fun K63 hk64 => ?_
    refine AWp.seqK fun K65 hk66 => ?_
    refine AWp.region [] (by decide +kernel) ?_
    simp [Ty.av_mk, -Ty.agg_mk, e4_, e1_, g1_, b1_]
    refine hk66 _ _ ?_
    refine AWp.condK rfl fun A67 B68 ga_69 gb_70 => ?_
    simp [Ty.av_mk, -Ty.agg_mk, e4_, e1_, g1_, b1_]
    first | refine ite_intro (fun cc71 => ga_69 _ _ ?_) (fun cc71 => gb_70 _ _ ?_) | refine ite_introN (fun cc71 => ga_69 _ _ ?_) (fun cc71 => gb_70 _ _ ?_)
    · skip
      refine AWp.seqK fun K72 hk73 => ?_
      refine AWp.region [] (by decide +kernel) ?_
      simp [Ty.av_mk, -Ty.agg_mk, e4_, e1_, g1_, b1_]
      refine hk73 _ _ ?_
      refine AWp.ret ?_
      try simp only [thenQ_ret]
      have hne : ¬ w = l.length := by omega
      simp [retQ, Ty.shape_mk, hw0, hne, Ty.av_mk, -Ty.agg_mk, e4_, e1_, g1_, b1_]
    · skip
      refine AWp.skip ?_
      try simp only [thenQ_normal]
      refine hk64 _ _ ?_
      refine AWp.seqK fun K74 hk75 => ?_
      refine AWp.region [] (by decide +kernel) ?_
      simp [Ty.av_mk, -Ty.agg_mk, e4_, e1_, g1_, b1_]
      refine hk75 _ _ ?_
      refine AWp.seqK fun K76 hk77 => ?_
      refine AWp.seqK fun K78 hk79 => ?_
      refine AWp.region [] (by decide +kernel) ?_
      simp [Ty.av_mk, -Ty.agg_mk, e4_, e1_, g1_, b1_]
      refine hk79 _ _ ?_
      refine AWp.blockK fun Q80 nn81 ne82 nx83 nr84 => ?_
      refine AWp.loopI (fun fr h => ∃ i, H = h ∧ i ≤ l.length ∧ fr.env 27 = .sc (.int .i64 (i : Nat)) ∧ fr.env 26 = .sc (.int .i64 (l.length : Nat)) ∧ fr.env 25 = .slice .frz (l.map Ty.av) ∧ fr.env 5 = .sc (.int .i64 (1 + Ty.nodesL (l.take i) : Nat)) ∧ fr.env 1 = .lptr 1 1 0 ∧ fr.gen 1 = 1 ∧ fr.box 1 = some [.sc (.int .i64 k), .slice .frz (l.map Ty.av)] ∧ Ty.shapeL (l.take i) = true) (fun fr h => match fr.env 27 with | .sc (.int _ n) => l.length - n.toNat | _ => 0) (⟨0, by simp [Ty.nodesL, Ty.shapeL, cc71, Nat.zero_le, Ty.av_mk, -Ty.agg_mk, e4_, e1_, g1_, b1_]⟩) ?_
      rintro fr h ⟨i, rfl, hi, e27_, e26_, e25_, e5_, e1_, g1_, b1_, hs⟩
      refine AWp.seqK fun K85 hk86 => ?_
      refine AWp.region [] (by decide +kernel) ?_
      simp [Ty.av_mk, -Ty.agg_mk, e4_, e1_, g1_, b1_, e27_, e26_, e25_, e5_, e1_, g1_, b1_, hs]
      refine hk86 _ _ ?_
      refine AWp.seqK fun K87 hk88 => ?_
      refine AWp.condK rfl fun A89 B90 ga_91 gb_92 => ?_
      simp [Ty.av_mk, -Ty.agg_mk, e4_, e1_, g1_, b1_, e27_, e26_, e25_, e5_, e1_, g1_, b1_, hs]
      first | refine ite_intro (fun cc93 => ga_91 _ _ ?_) (fun cc93 => gb_92 _ _ ?_) | refine ite_introN (fun cc93 => ga_91 _ _ ?_) (fun cc93 => gb_92 _ _ ?_)
      · skip
        have hw := wrap_succ (n := i) (by omega)
        
        refine AWp.skip ?_
        try simp only [thenQ_normal]
        refine hk88 _ _ ?_
        refine AWp.seqK fun K94 hk95 => ?_
        refine AWp.blockK fun Q96 nn97 ne98 nx99 nr100 => ?_
        refine AWp.seqK fun K101 hk102 => ?_
        refine AWp.region [] (by decide +kernel) ?_
        simp [Ty.av_mk, -Ty.agg_mk, e4_, e1_, g1_, b1_, e27_, e26_, e25_, e5_, e1_, g1_, b1_, hs, cc93, hw]
        refine hk102 _ _ ?_
        refine AWp.seqK fun K103 hk104 => ?_
        refine AWp.region [] (by decide +kernel) ?_
        simp [Ty.av_mk, -Ty.agg_mk, e4_, e1_, g1_, b1_, e27_, e26_, e25_, e5_, e1_, g1_, b1_, hs, cc93, hw]
        refine CallAt.fn (ih _ (by simp) _) ?_
        simp [Ty.av_mk, -Ty.agg_mk, e4_, e1_, g1_, b1_, e27_, e26_, e25_, e5_, e1_, g1_, b1_, hs, cc93, hw]
        refine hk104 _ _ ?_
        refine AWp.seqK fun K105 hk106 => ?_
        refine AWp.seqK fun K107 hk108 => ?_
        refine AWp.region [] (by decide +kernel) ?_
        simp [Ty.av_mk, -Ty.agg_mk, e4_, e1_, g1_, b1_, e27_, e26_, e25_, e5_, e1_, g1_, b1_, hs, cc93, hw]
        refine hk108 _ _ ?_
        refine AWp.condK rfl fun A109 B110 ga_111 gb_112 => ?_
        simp [Ty.av_mk, -Ty.agg_mk, e4_, e1_, g1_, b1_, e27_, e26_, e25_, e5_, e1_, g1_, b1_, hs, cc93, hw]
        first | refine ite_intro (fun cc113 => ga_111 _ _ ?_) (fun cc113 => gb_112 _ _ ?_) | refine ite_introN (fun cc113 => ga_111 _ _ ?_) (fun cc113 => gb_112 _ _ ?_)
        · skip
          have hsh := cc113
          refine AWp.seqK fun K114 hk115 => ?_
          refine AWp.region [] (by decide +kernel) ?_
          simp [Ty.av_mk, -Ty.agg_mk, e4_, e1_, g1_, b1_, e27_, e26_, e25_, e5_, e1_, g1_, b1_, hs, cc93, hw, cc113]
          refine hk115 _ _ ?_
          refine AWp.ret ?_
          try simp only [thenQ_ret]
          refine nr100 _ _ ?_
          try simp only [thenQ_ret]
          refine nr84 _ _ ?_
          try simp only [thenQ_ret]
          have h4 : Ty.shapeL l = false := by
            cases hx : Ty.shapeL l with
            | false => rfl
            | true => exact absurd (Ty.shapeL_mem hx (List.getElem_mem (by omega))) (by simpa using hsh)
          simp [retQ, Ty.shape_mk, hw0, Ty.av_mk, -Ty.agg_mk, e4_, e1_, g1_, b1_, e27_, e26_, e25_, e5_, e1_, g1_, b1_, hs, cc93, hw, cc113, h4]
        · skip
          have hsh := cc113
          refine AWp.skip ?_
          try simp only [thenQ_normal]
          refine hk106 _ _ ?_
          refine AWp.region [] (by decide +kernel) ?_
          simp [Ty.av_mk, -Ty.agg_mk, e4_, e1_, g1_, b1_, e27_, e26_, e25_, e5_, e1_, g1_, b1_, hs, cc93, hw, cc113]
          refine nn97 _ _ ?_
          try simp only [thenQ_normal]
          refine hk95 _ _ ?_
          refine AWp.region [] (by decide +kernel) ?_
          simp [Ty.av_mk, -Ty.agg_mk, e4_, e1_, g1_, b1_, e27_, e26_, e25_, e5_, e1_, g1_, b1_, hs, cc93, hw, cc113]
          have h1 := Ty.nodesL_take l i (by omega)
          have h2 := Ty.nodesL_takeLe l (i + 1)
          have h3 := Ty.shapeL_take l i (by omega)
          refine ⟨⟨i + 1, by omega, by simp, ?_, by rw [h3, hs]; simpa using hsh⟩, by omega⟩
          rw [wrap_id (by omega) (by omega), h1]
          omega
      · skip
        refine AWp.exit ?_
        try simp only [thenQ_exit]
        refine ne82 _ _ ?_
        try simp only [thenQ_normal]
        refine hk77 _ _ ?_
        refine AWp.seqK fun K116 hk117 => ?_
        refine AWp.region [] (by decide +kernel) ?_
        simp [Ty.av_mk, -Ty.agg_mk, e4_, e1_, g1_, b1_, e27_, e26_, e25_, e5_, e1_, g1_, b1_, hs, cc93]
        refine hk117 _ _ ?_
        refine AWp.ret ?_
        try simp only [thenQ_ret]
        obtain rfl : i = l.length := by omega
        rw [List.take_length] at hs
        have hw1 : w = l.length := by omega
        simp [retQ, Ty.shape_mk, hw0, hw1, Ty.av_mk, -Ty.agg_mk, e4_, e1_, g1_, b1_, e27_, e26_, e25_, e5_, e1_, g1_, b1_, hs, cc93, Ty.nodes_mk]
theorem c47 (T : Tabs) : ∀ (n : Nat) (t : Ty), t.nodes ≤ n → n ≤ 1000000000 → ∀ H : Heap, ACall Try.prog T 47 [t.av] H (.tuple [.sc (.int .i64 (if t.shape then t.nodes else 0 : Nat)), .sc (.bool t.shape)]) H := by
  intro n
  induction n with
  | zero => intro t h; have := t.nodes_pos; omega
  | succ n ih =>
    intro t h hn H
    cases t with
    | mk k l =>
      rw [Ty.nodes_mk] at h
      refine c47x T H k l (by omega) fun u hu H => ih u ?_ (by omega) H
      have := Ty.nodesL_mem hu
      omega
theorem c47' (T : Tabs) (t : Ty) (h : t.nodes ≤ 1000000000) (H : Heap) : ACall Try.prog T 47 [t.av] H (.tuple [.sc (.int .i64 (if t.shape then t.nodes else 0 : Nat)), .sc (.bool t.shape)]) H := c47 T _ t h (Nat.le_refl _) H
theorem enters35 : entersB Try.prog 35 = true := by kernel_rfl
set_option maxRecDepth 20000 in
theorem c35 (T : Tabs) (t : Ty) (hn : t.nodes ≤ 1000000000) (H : Heap) : ACall Try.prog T 35 [t.av] H (.tuple [.sc (.int .i64 t.chk.1), .sc (.int .i64 t.chk.2)]) H := by
  refine ACallP.intro (fn := Try.f35) Try.func35 rfl enters35 (Nat.le_of_ble_eq_true rfl) ?_
  refine AWp.seqK fun K1 hk2 => ?_
  refine AWp.region [] (by decide +kernel) ?_
  simp
  refine hk2 _ _ ?_
  refine AWp.seqK fun K3 hk4 => ?_
  refine AWp.region [] (by decide +kernel) ?_
  simp
  refine CallAt.fn (c47' T t hn _) ?_
  simp
  refine hk4 _ _ ?_
  refine AWp.seqK fun K5 hk6 => ?_
  refine AWp.blockK fun Q7 nn8 ne9 nx10 nr11 => ?_
  refine AWp.seqK fun K12 hk13 => ?_
  refine AWp.region [] (by decide +kernel) ?_
  simp
  refine hk13 _ _ ?_
  refine AWp.condK rfl fun A14 B15 ga_16 gb_17 => ?_
  simp
  first | refine ite_intro (fun cc18 => ga_16 _ _ ?_) (fun cc18 => gb_17 _ _ ?_) | refine ite_introN (fun cc18 => ga_16 _ _ ?_) (fun cc18 => gb_17 _ _ ?_)
  · skip
    have hsh := cc18
    refine AWp.seqK fun K19 hk20 => ?_
    refine AWp.region [] (by decide +kernel) ?_
    simp [cc18]
    refine hk20 _ _ ?_
    refine AWp.ret ?_
    try simp only [thenQ_ret]
    refine nr11 _ _ ?_
    try simp only [thenQ_ret]
    simp [retQ, Ty.chk, cc18]
  · skip
    have hsh := cc18
    refine AWp.seqK fun K21 hk22 => ?_
    refine AWp.region [] (by decide +kernel) ?_
    simp [cc18]
    refine hk22 _ _ ?_
    refine AWp.condK rfl fun A23 B24 ga_25 gb_26 => ?_
    simp [cc18]
    first | refine ite_intro (fun cc27 => ga_25 _ _ ?_) (fun cc27 => gb_26 _ _ ?_) | refine ite_introN (fun cc27 => ga_25 _ _ ?_) (fun cc27 => gb_26 _ _ ?_)
    · skip
      have hsz : 64 < t.nodes := by omega
      refine AWp.seqK fun K28 hk29 => ?_
      refine AWp.region [] (by decide +kernel) ?_
      simp [cc18]
      refine hk29 _ _ ?_
      refine AWp.ret ?_
      try simp only [thenQ_ret]
      refine nr11 _ _ ?_
      try simp only [thenQ_ret]
      simp [retQ, Ty.chk, hsz, cc18]
    · skip
      have hsz : ¬ 64 < t.nodes := by omega
      refine AWp.skip ?_
      try simp only [thenQ_normal]
      refine nn8 _ _ ?_
      try simp only [thenQ_normal]
      refine hk6 _ _ ?_
      refine AWp.seqK fun K30 hk31 => ?_
      refine AWp.region [] (by decide +kernel) ?_
      simp [cc18]
      refine hk31 _ _ ?_
      refine AWp.ret ?_
      try simp only [thenQ_ret]
      simp [retQ, Ty.chk, hsz, cc18]
theorem enters22 : entersB Try.prog 22 = true := by kernel_rfl
set_option maxRecDepth 20000 in
theorem c22 (T : Tabs) (t : Ty) (hn : t.nodes ≤ 1000000000) (H : Heap) : ACall Try.prog T 22 [t.av] H (.sc (.int .i64 t.chk.2)) H := by
  refine ACallP.intro (fn := Try.f22) Try.func22 rfl enters22 (Nat.le_of_ble_eq_true rfl) ?_
  refine AWp.seqK fun K1 hk2 => ?_
  refine AWp.region [] (by decide +kernel) ?_
  simp
  refine hk2 _ _ ?_
  refine AWp.seqK fun K3 hk4 => ?_
  refine AWp.region [] (by decide +kernel) ?_
  simp
  refine CallAt.fn (c35 T t hn _) ?_
  simp
  refine hk4 _ _ ?_
  refine AWp.seqK fun K5 hk6 => ?_
  refine AWp.region [] (by decide +kernel) ?_
  simp
  refine hk6 _ _ ?_
  refine AWp.ret ?_
  try simp only [thenQ_ret]
  simp [retQ]
theorem enters12 : entersB Try.prog 12 = true := by kernel_rfl
set_option maxRecDepth 20000 in
theorem c12 (T : Tabs) (t : Ty) (hn : t.nodes ≤ 1000000000) (H : Heap) : ACall Try.prog T 12 [t.av] H (.tuple [.sc (.int .i64 t.chk.1), .sc (.int .i64 t.chk.2)]) H := by
  refine ACallP.intro (fn := Try.f12) Try.func12 rfl enters12 (Nat.le_of_ble_eq_true rfl) ?_
  refine AWp.seqK fun K1 hk2 => ?_
  refine AWp.region [] (by decide +kernel) ?_
  simp
  refine hk2 _ _ ?_
  refine AWp.seqK fun K3 hk4 => ?_
  refine AWp.region [] (by decide +kernel) ?_
  simp
  refine CallAt.fn (c35 T t hn _) ?_
  simp
  refine hk4 _ _ ?_
  refine AWp.ret ?_
  try simp only [thenQ_ret]
  simp [retQ]
end Go.Proofs.Ytnbbnjmjpnncfaa
