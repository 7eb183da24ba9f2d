/- The program's functions do what the models say. -/
import Derived.Test.YtanjokijgbgcpaaGreatDoorTW02
import Derived.Test.YtanjokijgbgcpaaGreatDoorTM
set_option maxRecDepth 20000
set_option maxHeartbeats 4000000
set_option linter.unusedSimpArgs false
set_option linter.unusedVariables false
namespace Go.Proofs.YtanjokijgbgcpaaGreatDoor
open Go Go.Abs Go.Mdl

theorem r_tree_Quantifier : C1 Tryz.prog 104 tree_Quantifier sB sI := by
 intro T H a0 r hm
 rw [tree_Quantifier] at hm
 have e:=trivial
 refine wi mixed Tryz.func104 [] [] 2 ?_
 simp[e]
 refine wj 999 999 (fun f h=>h=H∧f.1 2=sB (sel (ige a0 4) (ile a0 7) false)) (fun K1 hk2=>?_) ?_
 rotate_left
 ·rintro fr3 h3 E
  have e:=Aj e E
  cases hm;simp[e]
 rcases Pb (ige a0 4) e with e|e
 ·simp[e]
  exact hk2 _ _ (by simp[e])
 simp[e]
 exact hk2 _ _ (by simp[e])


theorem rg_tree_EachTerm (T : Tabs) : ∀ (n : Nat), (∀ {S : Type} {st : S → Heap} {k : Nat} {a0 : Fm} {a1 : Int} {a2 : (S → Tm → Int → Option (S))} {sv0 : S} {sv1 : S} {g2 : Nat} {cap2 : List AV} (hF : Fam st k) (hw2 : Does117 T g2 cap2 st a2) (hm : tree_EachTerm n a0 a1 a2 sv0 = some sv1), ACall Tryz.prog T 112 [Fm.av a0, sI a1, AV.func (.func g2) [] cap2] (st sv0) (AV.tuple []) (st sv1)) := by
  intro n
  induction n with
  | zero =>
    skip
    all_goals (intro _ _;intros;rename_i hm;cases hm)
  | succ n ih =>
 intro S st k a0 a1 a2 sv0 sv1 g2 cap2 hF hw2 hm
 rw [tree_EachTerm] at hm
 have e:=hF.len
 refine wi mixed Tryz.func112 [] [] 999 ?_
 simp[e]
 refine Wr e hm 0 (fun j1 s2 f h=>h=st s2∧f.1 1=sI a1∧f.1 2=AV.func (.func g2) [] cap2∧f.1 3=AV.lptr 3 (f.gen 3) 0∧f.1 11=sL Tm.av a0.terms∧f.1 12=sI (llen a0.terms)∧f.1 13=sI j1∧f.box 3=some (Fm.av a0).cells) (by simp[e]) (fun s2 fr3 h3 K4 E m=>?_) (fun j1 x5 s2 fr3 h3 K4 n6 c7 E e m z8 hK9=>?_)
 rotate_left
 ·have e:=Aj e E
  apply wg 999
  obtain ⟨x10,e,m⟩:=Bo1 e m
  simp[e]
  refine CallAt.clo (by rfl) (Does117.at0 hw2 e.2) ?_
  simp[e]
  cases m;exact hK9 _ _ _ (by simp[e]) z8
 have e:=Aj e E
 apply wg 5
 dsimp only[sumK_inl]at m
 simp[e]
 refine Wj m 999 999 (fun j11 f h=>∃ (v12:Int),(h=st s2∧f.1 1=sI v12∧f.1 2=AV.func (.func g2) [] cap2∧f.1 3=AV.lptr 3 (f.gen 3) 0∧f.box 3=some (Fm.av a0).cells)∧j11 v12=some sv1) (fun j11 K13 hk14 m=>?_) ?_
 ·obtain ⟨x15,e,m⟩:=Bo1 e m
  simp[e]
  refine Cf (r_tree_Quantifier e.2) ?_
  rcases Io e m with ⟨e,m⟩|⟨e,m⟩
  rotate_left
  ·simp[e]
   exact hk14 _ _ ⟨a1,by simp[e],m⟩
  simp[e]
  exact hk14 _ _ ⟨(iadd .i64 a1 1),by simp[e],m⟩
 rintro fr16 h16 ⟨v12,E,m⟩
 have e:=Aj e E
 simp[e]
 refine Wr e m 999 (fun j17 s18 f h=>h=st s18∧f.1 1=sI v12∧f.1 2=AV.func (.func g2) [] cap2∧f.1 28=sL Fm.av a0.args∧f.1 29=sI (llen a0.args)∧f.1 30=sI j17) (by simp[e]) (fun s18 fr19 h19 K20 E m=>?_) (fun j17 x21 s18 fr19 h19 K20 n22 c23 E e m z24 hK25=>?_)
 ·have e:=Aj e E
  dsimp only[sumK_inl]at m
  cases m;simp[e]
 have e:=Aj e E
 obtain ⟨s26,e,m⟩:=Bo1 e m
 simp[e]
 refine Cf (ih hF hw2 e.2) ?_
 simp[e]
 cases m;exact hK25 _ _ _ (by simp[e]) z24
theorem r_tree_EachTerm (T : Tabs) {S : Type} {st : S → Heap} {k : Nat} {a0 : Fm} {a1 : Int} {a2 : (S → Tm → Int → Option (S))} {sv0 : S} {sv1 : S} {g2 : Nat} {cap2 : List AV} (hF : Fam st k) (hw2 : Does117 T g2 cap2 st a2) {n : Nat} (hm : tree_EachTerm n a0 a1 a2 sv0 = some sv1) : ACall Tryz.prog T 112 [Fm.av a0, sI a1, AV.func (.func g2) [] cap2] (st sv0) (AV.tuple []) (st sv1) := (rg_tree_EachTerm T n) hF hw2 hm


theorem r_tree_NearFormula (T : Tabs) {H : Heap} {a0 : Fm} {r0 : Bool} (hm : tree_NearFormula a0 = some r0) : ACall Tryz.prog T 100 [Fm.av a0] H (sB r0) H := by
 rw [tree_NearFormula] at hm
 refine ACallP.drop0 (Post:=fun x K => x=sB r0∧∃ X,K=H ++ X) ?_ (fun _ _ h => ⟨_,h.2.choose_spec,by rw [h.1]; simp [AV.low,AV.lowL],h.1,rfl⟩)
 have e:=trivial
 refine wi mixed Tryz.func100 [3] [] 999 ?_
 obtain ⟨s1,e,m⟩:=Bo1 e hm
 simp[e]
 refine Cf (r_tree_EachTerm T (st:=fun s:Bool => H ++ [[sB s]]) (Fam.objs H (fun s:Bool => [[sB s]]) 1 (fun _ => rfl) (by simp [AV.low,AV.lowL])) (fun X s _ _ s' h => by have:=r_tree_NearFormula_1 T (H:=H ++ [[sB s]] ++ X) (q0:=(List.length H)) (by simp[e]) h; simpa using this) e.2) ?_
 cases m;simp[e]

theorem r_tree_Var : C1 Tryz.prog 124 tree_Var Tm.av sI := by
 intro T H a0 r hm
 rw [tree_Var] at hm
 have e:=trivial
 refine wi mixed Tryz.func124 [] [] 999 ?_
 cases hm;simp[e]


theorem r_tree_Lift_1 (T : Tabs) {H : Heap} {a0 : Int} {a1 : Int} {cv0 : Int} {cv1 : Int} {r0 : Tm} {q0 : Nat} {q1 : Nat} (kq0 : H[q0]? = some [sI cv0]) (kq1 : H[q1]? = some [sI cv1]) (hm : tree_Lift_1 a0 a1 cv0 cv1 = some r0) : ACall Tryz.prog T 123 [sI a0, sI a1, AV.gptr q0 0, AV.gptr q1 0] H (Tm.av r0) H := by
 rw [tree_Lift_1] at hm
 have lq0:=inb_of_get kq0
 have lq1:=inb_of_get kq1
 have e:=Aj (Aj (Aj lq0 kq0) lq1) kq1
 refine wi mixed Tryz.func123 [] [] 2 ?_
 simp[e]
 refine wj 999 999 (fun f h=>h=H∧f.1 0=sI (sel (ige (isub .i64 a0 a1) cv0) (iadd .i64 a0 cv1) a0)∧f.1 6=AV.lptr 6 (f.gen 6) 0∧f.box 6=some [sI 0,sI 0,sI 0,AV.slice .full [],AV.slice .full []]) (fun K1 hk2=>?_) ?_
 rotate_left
 ·rintro fr3 h3 E
  have e:=Aj e E
  obtain ⟨x4,e,m⟩:=Bo1 e hm
  simp[e]
  refine Cf (r_tree_Var e.2) ?_
  cases m;simp[e]
 rcases Pb (ige (isub .i64 a0 a1) cv0) e with e|e
 ·simp[e]
  exact hk2 _ _ (by simp[e])
 simp[e]
 exact hk2 _ _ (by simp[e])


theorem rg_tree_OwnType : ∀ (n : Nat), C1 Tryz.prog 103 (tree_OwnType n) Ty.av Ty.av := by
  intro n
  induction n with
  | zero =>
    skip
    all_goals (intro _ _;intros;rename_i hm;cases hm)
  | succ n ih =>
 intro T H a0 r hm
 rw [tree_OwnType] at hm
 have e:=trivial
 refine wi mixed Tryz.func103 [] [] 999 ?_
 simp[e]
 refine Wr e hm 999 (fun j1 s2 f h=>∃ (tg0_3:Tag),(h=H∧f.1 2=AV.lptr 2 (f.gen 2) 0∧f.1 3=AV.lptr 3 (f.gen 3) 0∧f.1 10=sL Ty.av a0.args∧f.1 11=sI (llen a0.args)∧f.1 12=sI j1∧f.box 2=some [sI 0,AV.slice .full []]∧f.box 3=some [sI a0.kind,sT tg0_3 Ty.av s2])∧Ow f [21] tg0_3 s2) (by exact ⟨.full,by simp[e],OwnT.full⟩) (fun s2 fr3 h3 K4 E m=>?_) (fun j1 x5 s2 fr3 h3 K4 n6 c7 E e m z8 hK9=>?_)
 ·obtain ⟨tg0_3,E,o0_3⟩:=E
  have e:=Aj e E
  dsimp only[sumK_inl]at m
  cases m;simp[e]
 obtain ⟨tg0_3,E,o0_3⟩:=E
 have e:=Aj e E
 obtain ⟨x10,e,m⟩:=Bo1 e m
 simp[e]
 refine Cs (ih e.2) ?_
 obtain ⟨e,m⟩:=Ck e m
 simp[e]
 refine Ad (f:=Ty.av) s2 [x10] o0_3 ap23 e.2 ?_
 simp[e]
 cases m;exact hK9 _ _ _ ⟨(.loc 21 (fr3.tgen 21 + 1)),by simp[e],(On 21)⟩ z8
theorem r_tree_OwnType {n : Nat} : C1 Tryz.prog 103 (tree_OwnType n) Ty.av Ty.av := (rg_tree_OwnType n)


theorem rg_tree_Rebuild_1 (T : Tabs) : ∀ (n : Nat), (∀ {S : Type} {st : S → Heap} {k : Nat} {a0 : Tm} {a1 : Int} {cv0 : (S → Int → Int → Option (Tm × S))} {sv0 : S} {r0 : Tm} {sv1 : S} {q0 : Nat} {q1 : Nat} {gc0 : Nat} {kc0 : List AV} (hF : Fam st k) (kq0 : ∀ s, (st s)[q0]? = some [AV.func (.func gc0) [] kc0]) (hc0_ : Does122 T gc0 kc0 st cv0) (kq1 : ∀ s, (st s)[q1]? = some [AV.func (.func 131) [] [AV.gptr q0 0, AV.gptr q1 0]]) (hm : tree_Rebuild_1 n a0 a1 cv0 sv0 = some (r0, sv1)), ACall Tryz.prog T 131 [Tm.av a0, sI a1, AV.gptr q0 0, AV.gptr q1 0] (st sv0) (Tm.av r0) (st sv1)) := by
  intro n
  induction n with
  | zero =>
    skip
    all_goals (intro _ _;intros;rename_i hm;cases hm)
  | succ n ih =>
 intro S st k a0 a1 cv0 sv0 r0 sv1 q0 q1 gc0 kc0 hF kq0 hc0_ kq1 hm
 rw [tree_Rebuild_1] at hm
 have lq0:=fun s => inb_of_get (kq0 s)
 have lq1:=fun s => inb_of_get (kq1 s)
 have e:=Aj (Aj (Aj (Aj hF.len lq0) kq0) lq1) kq1
 refine wi mixed Tryz.func131 [] [(9,false,[true,true,false,true,true,true,true,true,true,true])] 5 ?_
 simp[e]
 rcases Io e hm with ⟨e,m⟩|⟨e,m⟩
 ·apply wg 999
  obtain ⟨x1,x2,e,m⟩:=Bo2 e m
  simp[e]
  refine CallAt.clo (by rfl) (Does122.at0 hc0_ e.2) ?_
  cases m;simp[e]
 apply wg 4
 obtain ⟨x3,e,m⟩:=Bo1 e m
 simp[e]
 refine Cs (r_tree_OwnType e.2) ?_
 simp[e]
 refine wj 999 999 (fun f h=>h=st sv0∧f.1 1=sI (sel (ieq a0.kind 2) (iadd .i64 a1 1) a1)∧f.1 3=AV.gptr q1 0∧f.1 4=AV.lptr 4 (f.gen 4) 0∧f.1 6=AV.lptr 6 (f.gen 6) 0∧f.1 7=AV.lptr 7 (f.gen 7) 0∧f.box 4=some (Tm.av a0).cells∧f.box 6=some [sI 0,sI 0,sI 0,AV.slice .full [],AV.slice .full []]∧f.box 7=some [sI a0.kind,sI a0.index,sI x3.kind,sL Ty.av x3.args,AV.slice .full []]) (fun K4 hk5=>?_) ?_
 ·rcases Pb (ieq a0.kind 2) e with e|e
  ·simp[e]
   exact hk5 _ _ (by simp[e])
  simp[e]
  exact hk5 _ _ (by simp[e])
 rintro fr6 h6 E
 have e:=Aj e E
 simp[e]
 refine Wr e m 999 (fun j7 s8 f h=>∃ (tg0_9:Tag),(h=st s8.2∧f.1 1=sI (sel (ieq a0.kind 2) (iadd .i64 a1 1) a1)∧f.1 3=AV.gptr q1 0∧f.1 6=AV.lptr 6 (f.gen 6) 0∧f.1 7=AV.lptr 7 (f.gen 7) 0∧f.1 32=sL Tm.av a0.args∧f.1 33=sI (llen a0.args)∧f.1 34=sI j7∧f.box 6=some [sI 0,sI 0,sI 0,AV.slice .full [],AV.slice .full []]∧f.box 7=some [sI a0.kind,sI a0.index,sI x3.kind,sL Ty.av x3.args,sT tg0_9 Tm.av s8.1])∧Ow f [45] tg0_9 s8.1) (by exact ⟨.full,by simp[e],OwnT.full⟩) (fun s8 fr9 h9 K10 E m=>?_) (fun j7 x11 s8 fr9 h9 K10 n12 c13 E e m z14 hK15=>?_)
 ·obtain ⟨v16,v17⟩:=s8
  obtain ⟨tg0_9,E,o0_9⟩:=E
  have e:=Aj e E
  dsimp only[sumK_inl,un2_mk]at m
  cases m;simp[e]
 obtain ⟨v16,v17⟩:=s8
 obtain ⟨tg0_9,E,o0_9⟩:=E
 have e:=Aj e E
 dsimp only[un2_mk]at m
 obtain ⟨x18,s19,e,m⟩:=Bo2 e m
 simp[e]
 refine CallAtS.clo (by rfl) (ih hF kq0 hc0_ kq1 e.2) (by simp) ?_
 obtain ⟨e,m⟩:=Ck e m
 simp[e]
 refine Ad (f:=Tm.av) v16 [x18] o0_9 ap26 e.2 ?_
 simp[e]
 cases m;exact hK15 _ _ _ ⟨(.loc 45 (fr9.tgen 45 + 1)),by simp[e],(On 45)⟩ z14
theorem r_tree_Rebuild_1 (T : Tabs) {S : Type} {st : S → Heap} {k : Nat} {a0 : Tm} {a1 : Int} {cv0 : (S → Int → Int → Option (Tm × S))} {sv0 : S} {r0 : Tm} {sv1 : S} {q0 : Nat} {q1 : Nat} {gc0 : Nat} {kc0 : List AV} (hF : Fam st k) (kq0 : ∀ s, (st s)[q0]? = some [AV.func (.func gc0) [] kc0]) (hc0_ : Does122 T gc0 kc0 st cv0) (kq1 : ∀ s, (st s)[q1]? = some [AV.func (.func 131) [] [AV.gptr q0 0, AV.gptr q1 0]]) {n : Nat} (hm : tree_Rebuild_1 n a0 a1 cv0 sv0 = some (r0, sv1)) : ACall Tryz.prog T 131 [Tm.av a0, sI a1, AV.gptr q0 0, AV.gptr q1 0] (st sv0) (Tm.av r0) (st sv1) := (rg_tree_Rebuild_1 T n) hF kq0 hc0_ kq1 hm


theorem r_tree_Rebuild (T : Tabs) {S : Type} {st : S → Heap} {k : Nat} {a0 : Tm} {a1 : (S → Int → Int → Option (Tm × S))} {sv0 : S} {r0 : Tm} {sv1 : S} {g1 : Nat} {cap1 : List AV} (hF : Fam st k) (hw1 : Does122 T g1 cap1 st a1) (hm : tree_Rebuild a0 a1 sv0 = some (r0, sv1)) : ACall Tryz.prog T 122 [Tm.av a0, AV.func (.func g1) [] cap1] (st sv0) (Tm.av r0) (st sv1) := by
 rw [tree_Rebuild] at hm
 refine ACallP.dropS hF (Post:=fun x K => x=Tm.av r0∧∃ X,K=(st sv1) ++ X) ?_ (fun _ _ h => ⟨_,h.2.choose,h.2.choose_spec,by rw [h.1]; simp [AV.low,AV.lowL],h.1,rfl⟩)
 have e:=hF.len
 refine wi mixed Tryz.func122 [3,5] [] 999 ?_
 obtain ⟨x1,s2,e,m⟩:=Bo2 e hm
 simp[e]
 refine CallAt.clo (by rfl) (r_tree_Rebuild_1 T (st:=fun s => st s ++ [[AV.func (.func g1) [] cap1],[AV.func (.func 131) [] [AV.gptr k 0,AV.gptr (k + 1) 0]]]) (Fam.ext hF _ (n:=k + 2) (by simp)) (fun _ => (by simp[e])) (Does122.ext hw1) (fun _ => (by simp[e])) e.2) ?_
 cases m;simp[e]


theorem r_tree_Lift (T : Tabs) {H : Heap} {a0 : Tm} {a1 : Int} {a2 : Int} {r0 : Tm} (hm : tree_Lift a0 a1 a2 = some r0) : ACall Tryz.prog T 116 [Tm.av a0, sI a1, sI a2] H (Tm.av r0) H := by
 rw [tree_Lift] at hm
 refine ACallP.drop0 (Post:=fun x K => x=Tm.av r0∧∃ X,K=H ++ X) ?_ (fun _ _ h => ⟨_,h.2.choose_spec,by rw [h.1]; simp [AV.low,AV.lowL],h.1,rfl⟩)
 have e:=trivial
 refine wi mixed Tryz.func116 [4,5] [] 999 ?_
 obtain ⟨x1,s2,e,m⟩:=Bo2 e hm
 simp[e]
 refine Cf (r_tree_Rebuild T (st:=fun _:Unit => H ++ [[sI a1],[sI a2]]) (Fam.const _) (fun X _ _ _ _ _ h => by obtain ⟨h3,rfl⟩:=pureW_some h; exact r_tree_Lift_1 T (q0:=(List.length H)) (q1:=(List.length H + 1)) (by simp[e]) (by simp[e]) h3) e.2) ?_
 cases m;simp[e]


theorem r_tree_LiftFormula_1 (T : Tabs) {H : Heap} {a0 : Tm} {a1 : Int} {cv0 : Int} {cv1 : Int} {r0 : Tm} {q0 : Nat} {q1 : Nat} (kq0 : H[q0]? = some [sI cv0]) (kq1 : H[q1]? = some [sI cv1]) (hm : tree_LiftFormula_1 a0 a1 cv0 cv1 = some r0) : ACall Tryz.prog T 115 [Tm.av a0, sI a1, AV.gptr q0 0, AV.gptr q1 0] H (Tm.av r0) H := by
 rw [tree_LiftFormula_1] at hm
 have lq0:=inb_of_get kq0
 have lq1:=inb_of_get kq1
 have e:=Aj (Aj (Aj lq0 kq0) lq1) kq1
 refine wi mixed Tryz.func115 [] [] 999 ?_
 obtain ⟨x1,e,m⟩:=Bo1 e hm
 simp[e]
 refine Cf (r_tree_Lift T e.2) ?_
 cases m;simp[e]


theorem rg_tree_RebuildFormula (T : Tabs) : ∀ (n : Nat), (∀ {S : Type} {st : S → Heap} {k : Nat} {a0 : Fm} {a1 : Int} {a2 : (S → Tm → Int → Option (Tm × S))} {sv0 : S} {r0 : Fm} {sv1 : S} {g2 : Nat} {cap2 : List AV} (hF : Fam st k) (hw2 : Does97 T g2 cap2 st a2) (hm : tree_RebuildFormula n a0 a1 a2 sv0 = some (r0, sv1)), ACall Tryz.prog T 72 [Fm.av a0, sI a1, AV.func (.func g2) [] cap2] (st sv0) (Fm.av r0) (st sv1)) := by
  intro n
  induction n with
  | zero =>
    skip
    all_goals (intro _ _;intros;rename_i hm;cases hm)
  | succ n ih =>
 intro S st k a0 a1 a2 sv0 r0 sv1 g2 cap2 hF hw2 hm
 rw [tree_RebuildFormula] at hm
 have e:=hF.len
 refine wi mixed Tryz.func72 [] [] 999 ?_
 obtain ⟨x1,e,m⟩:=Bo1 e hm
 simp[e]
 refine Cs (r_tree_OwnType e.2) ?_
 simp[e]
 refine Wr e m 0 (fun j2 s3 f h=>∃ (tg0_4:Tag),(h=st s3.2∧f.1 1=sI a1∧f.1 2=AV.func (.func g2) [] cap2∧f.1 3=AV.lptr 3 (f.gen 3) 0∧f.1 6=AV.lptr 6 (f.gen 6) 0∧f.1 7=AV.lptr 7 (f.gen 7) 0∧f.1 19=sL Tm.av a0.terms∧f.1 20=sI (llen a0.terms)∧f.1 21=sI j2∧f.box 3=some (Fm.av a0).cells∧f.box 6=some [sI 0,sI 0,AV.slice .full [],AV.slice .full [],AV.slice .full []]∧f.box 7=some [sI a0.kind,sI x1.kind,sL Ty.av x1.args,sT tg0_4 Tm.av s3.1,AV.slice .full []])∧Ow f [32] tg0_4 s3.1) (by exact ⟨.full,by simp[e],OwnT.full⟩) (fun s3 fr4 h4 K5 E m=>?_) (fun j2 x6 s3 fr4 h4 K5 n7 c8 E e m z9 hK10=>?_)
 rotate_left
 ·obtain ⟨v11,v12⟩:=s3
  obtain ⟨tg0_4,E,o0_4⟩:=E
  have e:=Aj e E
  dsimp only[un2_mk]at m
  apply wg 999
  obtain ⟨x13,x14,e,m⟩:=Bo2 e m
  simp[e]
  refine CallAtS.clo (by rfl) (Does97.at0 hw2 e.2) (by simp) ?_
  obtain ⟨e,m⟩:=Ck e m
  simp[e]
  refine Ad (f:=Tm.av) v11 [x13] o0_4 ap26 e.2 ?_
  simp[e]
  cases m;exact hK10 _ _ _ ⟨(.loc 32 (fr4.tgen 32 + 1)),by simp[e],(On 32)⟩ z9
 obtain ⟨v11,v12⟩:=s3
 obtain ⟨tg0_4,E,o0_4⟩:=E
 have e:=Aj e E
 apply wg 5
 dsimp only[sumK_inl,un2_mk]at m
 simp[e]
 refine Wj m 999 999 (fun j15 f h=>∃ (v16:Int) (tg0_20:Tag),(h=st v12∧f.1 1=sI v16∧f.1 2=AV.func (.func g2) [] cap2∧f.1 3=AV.lptr 3 (f.gen 3) 0∧f.1 6=AV.lptr 6 (f.gen 6) 0∧f.1 7=AV.lptr 7 (f.gen 7) 0∧f.box 3=some (Fm.av a0).cells∧f.box 6=some [sI 0,sI 0,AV.slice .full [],AV.slice .full [],AV.slice .full []]∧f.box 7=some [sI a0.kind,sI x1.kind,sL Ty.av x1.args,sT tg0_20 Tm.av v11,AV.slice .full []])∧Ow f [32] tg0_20 v11∧j15 v16=some (r0,sv1)) (fun j15 K17 hk18 m=>?_) ?_
 ·obtain ⟨x19,e,m⟩:=Bo1 e m
  simp[e]
  refine Cf (r_tree_Quantifier e.2) ?_
  rcases Io e m with ⟨e,m⟩|⟨e,m⟩
  rotate_left
  ·simp[e]
   exact hk18 _ _ ⟨a1,tg0_4,by simp[e],o0_4,m⟩
  simp[e]
  exact hk18 _ _ ⟨(iadd .i64 a1 1),tg0_4,by simp[e],o0_4,m⟩
 rintro fr20 h20 ⟨v16,tg0_20,E,o0_20,m⟩
 have e:=Aj e E
 simp[e]
 refine Wr e m 999 (fun j21 s22 f h=>∃ (tg0_23:Tag) (tg1_23:Tag),(h=st s22.2∧f.1 1=sI v16∧f.1 2=AV.func (.func g2) [] cap2∧f.1 6=AV.lptr 6 (f.gen 6) 0∧f.1 7=AV.lptr 7 (f.gen 7) 0∧f.1 41=sL Fm.av a0.args∧f.1 42=sI (llen a0.args)∧f.1 43=sI j21∧f.box 6=some [sI 0,sI 0,AV.slice .full [],AV.slice .full [],AV.slice .full []]∧f.box 7=some [sI a0.kind,sI x1.kind,sL Ty.av x1.args,sT tg0_23 Tm.av v11,sT tg1_23 Fm.av s22.1])∧Ow f [32] tg0_23 v11∧Ow f [54] tg1_23 s22.1) (by exact ⟨tg0_20,.full,by simp[e],o0_20,OwnT.full⟩) (fun s22 fr23 h23 K24 E m=>?_) (fun j21 x25 s22 fr23 h23 K24 n26 c27 E e m z28 hK29=>?_)
 ·obtain ⟨v30,v31⟩:=s22
  obtain ⟨tg0_23,tg1_23,E,o0_23,o1_23⟩:=E
  have e:=Aj e E
  dsimp only[sumK_inl,un2_mk]at m
  cases m;simp[e]
 obtain ⟨v30,v31⟩:=s22
 obtain ⟨tg0_23,tg1_23,E,o0_23,o1_23⟩:=E
 have e:=Aj e E
 dsimp only[un2_mk]at m
 obtain ⟨x32,s33,e,m⟩:=Bo2 e m
 simp[e]
 refine Cs (ih hF hw2 e.2) ?_
 obtain ⟨e,m⟩:=Ck e m
 simp[e]
 refine Ad (f:=Fm.av) v30 [x32] o1_23 ap27 e.2 ?_
 simp[e]
 cases m;exact hK29 _ _ _ ⟨tg0_23,(.loc 54 (fr23.tgen 54 + 1)),by simp[e],(OwnT.other o0_23 o1_23 (by decide) (by decide)),(On 54)⟩ z28
theorem r_tree_RebuildFormula (T : Tabs) {S : Type} {st : S → Heap} {k : Nat} {a0 : Fm} {a1 : Int} {a2 : (S → Tm → Int → Option (Tm × S))} {sv0 : S} {r0 : Fm} {sv1 : S} {g2 : Nat} {cap2 : List AV} (hF : Fam st k) (hw2 : Does97 T g2 cap2 st a2) {n : Nat} (hm : tree_RebuildFormula n a0 a1 a2 sv0 = some (r0, sv1)) : ACall Tryz.prog T 72 [Fm.av a0, sI a1, AV.func (.func g2) [] cap2] (st sv0) (Fm.av r0) (st sv1) := (rg_tree_RebuildFormula T n) hF hw2 hm


theorem r_tree_LiftFormula (T : Tabs) {H : Heap} {a0 : Fm} {a1 : Int} {a2 : Int} {r0 : Fm} (hm : tree_LiftFormula a0 a1 a2 = some r0) : ACall Tryz.prog T 101 [Fm.av a0, sI a1, sI a2] H (Fm.av r0) H := by
 rw [tree_LiftFormula] at hm
 refine ACallP.drop0 (Post:=fun x K => x=Fm.av r0∧∃ X,K=H ++ X) ?_ (fun _ _ h => ⟨_,h.2.choose_spec,by rw [h.1]; simp [AV.low,AV.lowL],h.1,rfl⟩)
 have e:=trivial
 refine wi mixed Tryz.func101 [4,5] [] 999 ?_
 obtain ⟨x1,s2,e,m⟩:=Bo2 e hm
 simp[e]
 refine Cf (r_tree_RebuildFormula T (st:=fun _:Unit => H ++ [[sI a1],[sI a2]]) (Fam.const _) (fun X _ _ _ _ _ h => by obtain ⟨h3,rfl⟩:=pureW_some h; exact r_tree_LiftFormula_1 T (q0:=(List.length H)) (q1:=(List.length H + 1)) (by simp[e]) (by simp[e]) h3) e.2) ?_
 cases m;simp[e]

end Go.Proofs.YtanjokijgbgcpaaGreatDoor
