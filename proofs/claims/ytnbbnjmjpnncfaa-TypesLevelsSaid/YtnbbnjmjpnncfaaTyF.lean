/- A part of the proof of TypesLevelsSaid: contracts of functions of the program, and what they need. -/
import Derived.Test.YtnbbnjmjpnncfaaTyE
namespace Go.Proofs.Ytnbbnjmjpnncfaa
set_option linter.unusedSimpArgs false
set_option linter.unusedVariables false
open Go Go.Abs

theorem sumChk_append (a b : List Ty) : sumChk (a ++ b) = sumChk a + sumChk b := by
  induction a with
  | nil => simp [sumChk]
  | cons t a ih => simp [sumChk, ih]; omega
theorem Ty.chk_bound (t : Ty) : 0 ≤ t.chk.1 ∧ t.chk.1 ≤ t.nodes := by
  unfold Ty.chk
  split
  · simp
  · split <;> simp
theorem sumChk_bound (l : List Ty) : 0 ≤ sumChk l ∧ sumChk l ≤ Ty.nodesL l := by
  induction l with
  | nil => simp [sumChk, Ty.nodesL]
  | cons t l ih => have := t.chk_bound; simp [sumChk, Ty.nodesL]; omega
theorem sumChk_take (l : List Ty) (i : Nat) (h : i < l.length) : sumChk (l.take (i + 1)) = sumChk (l.take i) + l[i].chk.1 := by
  rw [List.take_add_one, List.getElem?_eq_getElem h, sumChk_append]
  simp [sumChk]
theorem firstErr_append (a b : List Ty) : firstErr (a ++ b) = if firstErr a ≠ 0 then firstErr a else firstErr b := by
  induction a with
  | nil => simp [firstErr]
  | cons t a ih =>
    simp only [List.cons_append, firstErr]
    split
    · rename_i h; simp [h]
    · exact ih
theorem firstErr_take (l : List Ty) (i : Nat) (h : i < l.length) (h0 : firstErr (l.take i) = 0) : firstErr (l.take (i + 1)) = l[i].chk.2 := by
  rw [List.take_add_one, List.getElem?_eq_getElem h, firstErr_append, h0]
  simp [firstErr]
  intro h
  exact h.symm
theorem firstErr_here (l : List Ty) (i : Nat) (h : i < l.length) (h0 : firstErr (l.take i) = 0) (h1 : l[i].chk.2 ≠ 0) : firstErr l = l[i].chk.2 := by
  have := firstErr_append (l.take (i + 1)) (l.drop (i + 1))
  rw [List.take_append_drop, firstErr_take l i h h0] at this
  rw [this, if_pos h1]


theorem enters37 : entersB Try.prog 37 = true := by kernel_rfl
set_option maxRecDepth 20000 in
theorem c37 (T : Tabs) (H : Heap) (t : Ty) (l : List Ty) (hl : l.length ≤ 1000000000) : ACall Try.prog T 37 [t.av, .slice .frz (l.map Ty.av)] H (Ty.funs l t).av H := by
  have hwl : IntKind.i64.wrap ((l.length : Int) - 1) = (l.length : Int) - 1 := wrap_id (by omega) (by omega)
  refine ACallP.intro (fn := Try.f37) Try.func37 rfl enters37 (Nat.le_of_ble_eq_true rfl) ?_
  refine AWp.seqK fun K1 hk2 => ?_
  refine AWp.region [] (by decide +kernel) ?_
  simp [hwl]
  refine hk2 _ _ ?_
  refine AWp.seqK fun K3 hk4 => ?_
  refine AWp.seqK fun K5 hk6 => ?_
  refine AWp.region [] (by decide +kernel) ?_
  simp [hwl]
  refine hk6 _ _ ?_
  refine AWp.blockK fun Q7 nn8 ne9 nx10 nr11 => ?_
  refine AWp.loopI (fun fr h => ∃ i tag kk aa, H = h ∧ i ≤ l.length ∧ fr.env 5 = .sc (.int .i64 ((i : Int) - 1)) ∧ fr.env 1 = .slice .frz (l.map Ty.av) ∧ fr.env 2 = .lptr 2 1 0 ∧ fr.gen 2 = 1 ∧ fr.box 2 = some [.sc (.int .i64 kk), .slice tag (aa.map Ty.av)] ∧ Ty.mk kk aa = Ty.funs (l.drop i) t ∧ fr.env 4 = .lptr 4 1 0 ∧ fr.gen 4 = 1 ∧ fr.box 4 = some [.sc (.int .i64 0), .slice .full []]) (fun fr h => match fr.env 5 with | .sc (.int _ n) => (n + 1).toNat | _ => 0) (⟨l.length, .frz, t.kind, t.args, by simp [Ty.funs]⟩) ?_
  rintro fr h ⟨i, tag, kk, aa, rfl, hi, e5_, e1_, e2_, g2_, b2_, hf, e4_, g4_, b4_⟩
  refine AWp.seqK fun K12 hk13 => ?_
  refine AWp.seqK fun K14 hk15 => ?_
  refine AWp.region [] (by decide +kernel) ?_
  simp [hwl, e5_, e1_, e2_, g2_, b2_, e4_, g4_, b4_]
  refine hk15 _ _ ?_
  refine AWp.condK rfl fun A16 B17 ga_18 gb_19 => ?_
  simp [hwl, e5_, e1_, e2_, g2_, b2_, e4_, g4_, b4_]
  first | refine ite_intro (fun cc20 => ga_18 _ _ ?_) (fun cc20 => gb_19 _ _ ?_) | refine ite_introN (fun cc20 => ga_18 _ _ ?_) (fun cc20 => gb_19 _ _ ?_)
  · skip
    obtain ⟨j, rfl⟩ : ∃ j, i = j + 1 := ⟨i - 1, by omega⟩
    have hw : IntKind.i64.wrap ((j : Int) - 1) = (j : Int) - 1 := wrap_id (by omega) (by omega)
    have hj : j < l.length := by omega
    refine AWp.skip ?_
    try simp only [thenQ_normal]
    refine hk13 _ _ ?_
    refine AWp.seqK fun K21 hk22 => ?_
    refine AWp.blockK fun Q23 nn24 ne25 nx26 nr27 => ?_
    refine AWp.regionD [] false mixed (by decide +kernel) (by decide +kernel) ?_
    simp [hwl, e5_, e1_, e2_, g2_, b2_, e4_, g4_, b4_, hw, hj]
    refine nn24 _ _ ?_
    try simp only [thenQ_normal]
    refine hk22 _ _ ?_
    refine AWp.region [] (by decide +kernel) ?_
    simp [hwl, e5_, e1_, e2_, g2_, b2_, e4_, g4_, b4_, hw, hj]
    refine ⟨j, by omega, rfl, _, _, [l[j], .mk kk aa], ⟨rfl, rfl, rfl⟩, ?_⟩
    rw [List.drop_eq_getElem_cons hj, hf]
    rfl
  · skip
    have hi0 : i = 0 := by omega
    subst hi0
    refine AWp.exit ?_
    try simp only [thenQ_exit]
    refine ne9 _ _ ?_
    try simp only [thenQ_normal]
    refine hk4 _ _ ?_
    refine AWp.seqK fun K28 hk29 => ?_
    refine AWp.region [] (by decide +kernel) ?_
    simp [hwl, e5_, e1_, e2_, g2_, b2_, e4_, g4_, b4_]
    refine hk29 _ _ ?_
    refine AWp.ret ?_
    try simp only [thenQ_ret]
    simp [retQ, hwl, e5_, e1_, e2_, g2_, b2_, e4_, g4_, b4_]
    rw [hf]; simp
theorem enters10 : entersB Try.prog 10 = true := by kernel_rfl
set_option maxRecDepth 20000 in
theorem c10x (T : Tabs) (H : Heap) (l : List Ty) (t : Ty) (m : List Ty) (hm : m = l ++ [t]) (hn : Ty.nodesL m ≤ 100000000) : ACall Try.prog T 10 [.slice .frz (l.map Ty.av), t.av] H (.tuple [(funct l t).1.av, .sc (.int .i64 (funct l t).2)]) H := by
  have hm1 : l.map Ty.av ++ [t.av] = m.map Ty.av := by simp [hm]
  have hm2 : m.length = l.length + 1 := by simp [hm]
  have hml := Ty.nodesL_len m
  have hmn : Ty.nodesL m = Ty.nodesL l + t.nodes := by simp [hm, Ty.nodesL_append, Ty.nodesL]
  have hsb := sumChk_bound m
  refine ACallP.intro (fn := Try.f10) Try.func10 rfl enters10 (Nat.le_of_ble_eq_true rfl) ?_
  refine AWp.seqK fun K1 hk2 => ?_
  refine AWp.region [] (by decide +kernel) ?_
  simp [hm1]
  refine hk2 _ _ ?_
  refine AWp.seqK fun K3 hk4 => ?_
  refine AWp.region [] (by decide +kernel) ?_
  simp [hm1]
  refine hk4 _ _ ?_
  refine AWp.seqK fun K5 hk6 => ?_
  refine AWp.seqK fun K7 hk8 => ?_
  refine AWp.regionD [] true mixed (by decide +kernel) (by decide +kernel) ?_
  simp [hm1]
  refine ⟨grow_ok (by omega), ?_⟩
  refine ⟨grow_ok (by omega), ?_⟩
  refine hk8 _ _ ?_
  refine AWp.blockK fun Q9 nn10 ne11 nx12 nr13 => ?_
  refine AWp.loopI (fun fr h => ∃ i tg, H = h ∧ i ≤ m.length ∧ fr.env 17 = .sc (.int .i64 (i : Nat)) ∧ fr.env 16 = .sc (.int .i64 (m.length : Nat)) ∧ fr.env 15 = .slice tg (m.map Ty.av) ∧ fr.env 6 = .sc (.int .i64 (sumChk (m.take i))) ∧ fr.env 0 = .slice .frz (l.map Ty.av) ∧ fr.env 3 = .lptr 3 1 0 ∧ fr.gen 3 = 1 ∧ fr.box 3 = some [.sc (.int .i64 t.kind), .slice .frz (t.args.map Ty.av)] ∧ fr.env 4 = .lptr 4 1 0 ∧ fr.gen 4 = 1 ∧ fr.box 4 = some [.sc (.int .i64 0), .slice .full []] ∧ firstErr (m.take i) = 0) (fun fr h => match fr.env 17 with | .sc (.int _ n) => m.length - n.toNat | _ => 0) (⟨0, .loc 15 1, by simp [sumChk, firstErr, Nat.zero_le, hm1]⟩) ?_
  rintro fr h ⟨i, tg, rfl, hi, e17_, e16_, e15_, e6_, e0_, e3_, g3_, b3_, e4_, g4_, b4_, hfe⟩
  refine AWp.seqK fun K14 hk15 => ?_
  refine AWp.region [] (by decide +kernel) ?_
  simp [hm1, e17_, e16_, e15_, e6_, e0_, e3_, g3_, b3_, e4_, g4_, b4_, hfe]
  refine hk15 _ _ ?_
  refine AWp.seqK fun K16 hk17 => ?_
  refine AWp.condK rfl fun A18 B19 ga_20 gb_21 => ?_
  simp [hm1, e17_, e16_, e15_, e6_, e0_, e3_, g3_, b3_, e4_, g4_, b4_, hfe]
  first | refine ite_intro (fun cc22 => ga_20 _ _ ?_) (fun cc22 => gb_21 _ _ ?_) | refine ite_introN (fun cc22 => ga_20 _ _ ?_) (fun cc22 => gb_21 _ _ ?_)
  · skip
    have hw := wrap_succ (n := i) (by omega)
    
    refine AWp.skip ?_
    try simp only [thenQ_normal]
    refine hk17 _ _ ?_
    refine AWp.seqK fun K23 hk24 => ?_
    refine AWp.blockK fun Q25 nn26 ne27 nx28 nr29 => ?_
    refine AWp.seqK fun K30 hk31 => ?_
    refine AWp.region [] (by decide +kernel) ?_
    simp [hm1, e17_, e16_, e15_, e6_, e0_, e3_, g3_, b3_, e4_, g4_, b4_, hfe, cc22, hw]
    refine hk31 _ _ ?_
    refine AWp.seqK fun K32 hk33 => ?_
    refine AWp.region [] (by decide +kernel) ?_
    simp [hm1, e17_, e16_, e15_, e6_, e0_, e3_, g3_, b3_, e4_, g4_, b4_, hfe, cc22, hw]
    refine CallAt.fn (c35 T _ (by have := Ty.nodesL_mem (List.getElem_mem (by omega : i < m.length)); omega) _) ?_
    simp [hm1, e17_, e16_, e15_, e6_, e0_, e3_, g3_, b3_, e4_, g4_, b4_, hfe, cc22, hw]
    refine hk33 _ _ ?_
    refine AWp.seqK fun K34 hk35 => ?_
    refine AWp.seqK fun K36 hk37 => ?_
    refine AWp.region [] (by decide +kernel) ?_
    simp [hm1, e17_, e16_, e15_, e6_, e0_, e3_, g3_, b3_, e4_, g4_, b4_, hfe, cc22, hw]
    refine hk37 _ _ ?_
    refine AWp.condK rfl fun A38 B39 ga_40 gb_41 => ?_
    simp [hm1, e17_, e16_, e15_, e6_, e0_, e3_, g3_, b3_, e4_, g4_, b4_, hfe, cc22, hw]
    first | refine ite_intro (fun cc42 => ga_40 _ _ ?_) (fun cc42 => gb_41 _ _ ?_) | refine ite_introN (fun cc42 => ga_40 _ _ ?_) (fun cc42 => gb_41 _ _ ?_)
    · skip
      have he := cc42
      refine AWp.seqK fun K43 hk44 => ?_
      refine AWp.region [] (by decide +kernel) ?_
      simp [hm1, e17_, e16_, e15_, e6_, e0_, e3_, g3_, b3_, e4_, g4_, b4_, hfe, cc22, hw, cc42]
      refine hk44 _ _ ?_
      refine AWp.ret ?_
      try simp only [thenQ_ret]
      refine nr29 _ _ ?_
      try simp only [thenQ_ret]
      refine nr13 _ _ ?_
      try simp only [thenQ_ret]
      have h4 := firstErr_here m i (by omega) hfe (by simpa using he)
      simp [retQ, hm1, e17_, e16_, e15_, e6_, e0_, e3_, g3_, b3_, e4_, g4_, b4_, hfe, cc22, hw, cc42, funct, ← hm, h4]
    · skip
      have he : m[i].chk.2 = 0 := by simpa using cc42
      refine AWp.skip ?_
      try simp only [thenQ_normal]
      refine hk35 _ _ ?_
      refine AWp.region [] (by decide +kernel) ?_
      simp [hm1, e17_, e16_, e15_, e6_, e0_, e3_, g3_, b3_, e4_, g4_, b4_, hfe, cc22, hw, he]
      refine nn26 _ _ ?_
      try simp only [thenQ_normal]
      refine hk24 _ _ ?_
      refine AWp.region [] (by decide +kernel) ?_
      simp [hm1, e17_, e16_, e15_, e6_, e0_, e3_, g3_, b3_, e4_, g4_, b4_, hfe, cc22, hw, he]
      have h1 := sumChk_take m i (by omega)
      have h2 := sumChk_bound (m.take (i + 1))
      have h3 := Ty.nodesL_takeLe m (i + 1)
      refine ⟨⟨i + 1, by omega, by simp, ?_, by rw [firstErr_take m i (by omega) hfe]; exact he⟩, by omega⟩
      rw [h1]
      exact wrap_id (by omega) (by omega)
  · skip
    obtain rfl : i = m.length := by omega
    rw [List.take_length] at e6_ hfe
    have hw3 : IntKind.i64.wrap (sumChk m + (l.length : Int)) = sumChk m + l.length := wrap_id (by omega) (by omega)
    refine AWp.exit ?_
    try simp only [thenQ_exit]
    refine ne11 _ _ ?_
    try simp only [thenQ_normal]
    refine hk6 _ _ ?_
    refine AWp.seqK fun K45 hk46 => ?_
    refine AWp.seqK fun K47 hk48 => ?_
    refine AWp.region [] (by decide +kernel) ?_
    simp [hm1, e17_, e16_, e15_, e6_, e0_, e3_, g3_, b3_, e4_, g4_, b4_, hfe, cc22, hw3]
    refine hk48 _ _ ?_
    refine AWp.condK rfl fun A49 B50 ga_51 gb_52 => ?_
    simp [hm1, e17_, e16_, e15_, e6_, e0_, e3_, g3_, b3_, e4_, g4_, b4_, hfe, cc22, hw3]
    first | refine ite_intro (fun cc53 => ga_51 _ _ ?_) (fun cc53 => gb_52 _ _ ?_) | refine ite_introN (fun cc53 => ga_51 _ _ ?_) (fun cc53 => gb_52 _ _ ?_)
    · skip
      have hov := cc53
      refine AWp.seqK fun K54 hk55 => ?_
      refine AWp.region [] (by decide +kernel) ?_
      simp [hm1, e17_, e16_, e15_, e6_, e0_, e3_, g3_, b3_, e4_, g4_, b4_, hfe, cc22, hw3]
      refine hk55 _ _ ?_
      refine AWp.ret ?_
      try simp only [thenQ_ret]
      simp [retQ, hm1, e17_, e16_, e15_, e6_, e0_, e3_, g3_, b3_, e4_, g4_, b4_, hfe, cc22, hw3, funct, ← hm, show 64 < sumChk m + (l.length : Int) by omega]
    · skip
      have hov := cc53
      refine AWp.skip ?_
      try simp only [thenQ_normal]
      refine hk46 _ _ ?_
      refine AWp.seqK fun K56 hk57 => ?_
      refine AWp.region [] (by decide +kernel) ?_
      simp [hm1, e17_, e16_, e15_, e6_, e0_, e3_, g3_, b3_, e4_, g4_, b4_, hfe, cc22, hw3]
      refine CallAt.fn (c37 T _ t l (by omega)) ?_
      simp [hm1, e17_, e16_, e15_, e6_, e0_, e3_, g3_, b3_, e4_, g4_, b4_, hfe, cc22, hw3]
      refine CallAt.fn (c36' T _ (by rw [Ty.nodes_funs]; omega) _) ?_
      simp [hm1, e17_, e16_, e15_, e6_, e0_, e3_, g3_, b3_, e4_, g4_, b4_, hfe, cc22, hw3]
      refine hk57 _ _ ?_
      refine AWp.ret ?_
      try simp only [thenQ_ret]
      simp [retQ, hm1, e17_, e16_, e15_, e6_, e0_, e3_, g3_, b3_, e4_, g4_, b4_, hfe, cc22, hw3, funct, ← hm, show ¬ 64 < sumChk m + (l.length : Int) by omega]
theorem c10 (T : Tabs) (H : Heap) (l : List Ty) (t : Ty) (hn : Ty.nodesL l + t.nodes ≤ 100000000) : ACall Try.prog T 10 [.slice .frz (l.map Ty.av), t.av] H (.tuple [(funct l t).1.av, .sc (.int .i64 (funct l t).2)]) H :=
  c10x T H l t _ rfl (by simpa [Ty.nodesL_append, Ty.nodesL] using hn)
end Go.Proofs.Ytnbbnjmjpnncfaa
