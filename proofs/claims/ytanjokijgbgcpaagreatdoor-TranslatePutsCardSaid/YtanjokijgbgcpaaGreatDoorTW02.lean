/- The program's functions do what the models say. -/
import Derived.Test.YtanjokijgbgcpaaGreatDoorTW01
import Derived.Test.YtanjokijgbgcpaaGreatDoorTM
set_option maxRecDepth 20000
set_option maxHeartbeats 4000000
set_option linter.unusedSimpArgs false
set_option linter.unusedVariables false
namespace Go.Proofs.YtanjokijgbgcpaaGreatDoor
open Go Go.Abs Go.Mdl

theorem r_tree_Typed : C1 Tryz.prog 128 tree_Typed sB sI := by
 intro T H a0 r hm
 rw [tree_Typed] at hm
 have e:=trivial
 refine wi mixed Tryz.func128 [] [] 2 ?_
 simp[e]
 refine wj 999 999 (fun f h=>h=H∧f.1 2=sB (sel (ieq a0 2) true (sel (ieq a0 6) true (ieq a0 9)))) (fun K1 hk2=>?_) ?_
 rotate_left
 ·rintro fr3 h3 E
  have e:=Aj e E
  cases hm;simp[e]
 rcases Pb (ieq a0 2) e with e|e
 ·simp[e]
  exact hk2 _ _ (by simp[e])
 rcases Pb (ieq a0 6) e with e|e
 ·simp[e]
  exact hk2 _ _ (by simp[e])
 simp[e]
 exact hk2 _ _ (by simp[e])


theorem rg_tree_termNodes (T : Tabs) (hT : T 0 = some (AV.agg (List.map (fun n => AV.sc (Value.int .i64 n)) tree_arities))) : ∀ (n : Nat), (∀ {H : Heap} {a0 : Tm} {r0 : Int} {r1 : Bool} (hm : tree_termNodes n a0 = some (r0, r1)), ACall Tryz.prog T 118 [Tm.av a0] H (AV.tuple [sI r0, sB r1]) H) := by
  intro n
  induction n with
  | zero =>
    skip
    all_goals (intro _ _;intros;rename_i hm;cases hm)
  | succ n ih =>
 intro H a0 r0 r1 hm
 rw [tree_termNodes] at hm
 have e:=hT
 refine wi mixed Tryz.func118 [] [] 5 ?_
 obtain ⟨x1,x2,e,m⟩:=Bo2 e hm
 simp[e]
 refine Cf (r_tree_Arity T hT e.2) ?_
 simp[e]
 refine wj 999 0 (fun f h=>h=H∧f.1 1=AV.lptr 1 (f.gen 1) 0∧f.1 42=sB (sel x2 (sel (ine (llen a0.args) x1) true (sel (ilt a0.index 0) true (sel (ine a0.index 0) (ine a0.kind 1) false))) true)∧f.box 1=some (Tm.av a0).cells) (fun K3 hk4=>?_) ?_
 ·rcases Pb x2 e with e|e
  rotate_left
  ·simp[e]
   exact hk4 _ _ (by simp[e])
  rcases Pb (ine (llen a0.args) x1) e with e|e
  ·simp[e]
   exact hk4 _ _ (by simp[e])
  rcases Pb (ilt a0.index 0) e with e|e
  ·simp[e]
   exact hk4 _ _ (by simp[e])
  rcases Pb (ine a0.index 0) e with e|e
  ·simp[e]
   exact hk4 _ _ (by simp[e])
  simp[e]
  exact hk4 _ _ (by simp[e])
 rintro fr5 h5 E
 have e:=Aj e E
 rcases Io e m with ⟨e,m⟩|⟨e,m⟩
 ·apply wg 999
  cases m;simp[e]
 apply wg 2
 simp[e]
 refine Wj m 999 999 (fun j6 f h=>(h=H∧f.1 1=AV.lptr 1 (f.gen 1) 0∧f.box 1=some (Tm.av a0).cells)∧j6=some (r0,r1)) (fun j6 K7 hk8 m=>?_) ?_
 ·obtain ⟨x9,e,m⟩:=Bo1 e m
  simp[e]
  refine Cf (r_tree_Typed e.2) ?_
  rcases Io e m with ⟨e,m⟩|⟨e,m⟩
  ·obtain ⟨x10,x11,e,m⟩:=Bo2 e m
   simp[e]
   refine Cf (r_tree_CheckType e.2) ?_
   rcases Io e m with ⟨e,m⟩|⟨e,m⟩
   ·cases m;simp[e]
   simp[e]
   exact hk8 _ _ ⟨by simp[e],m⟩
  obtain ⟨x12,e,m⟩:=Bo1 e m
  simp[e]
  refine Cf (r_tree_NoType e.2) ?_
  rcases Io e m with ⟨e,m⟩|⟨e,m⟩
  rotate_left
  ·cases m;simp[e]
  simp[e]
  exact hk8 _ _ ⟨by simp[e],m⟩
 rintro fr13 h13 ⟨E,m⟩
 have e:=Aj e E
 simp[e]
 refine Wr e m 999 (fun j14 s15 f h=>h=H∧f.1 8=sI s15∧f.1 59=sL Tm.av a0.args∧f.1 60=sI (llen a0.args)∧f.1 61=sI j14) (by simp[e]) (fun s15 fr16 h16 K17 E m=>?_) (fun j14 x18 s15 fr16 h16 K17 n19 c20 E e m z21 hK22=>?_)
 ·have e:=Aj e E
  dsimp only[sumK_inl]at m
  cases m;simp[e]
 have e:=Aj e E
 obtain ⟨x23,x24,e,m⟩:=Bo2 e m
 simp[e]
 refine Cf (ih e.2) ?_
 rcases Io e m with ⟨e,m⟩|⟨e,m⟩
 rotate_left
 ·cases m;cases z21;simp[e]
 simp[e]
 cases m;exact hK22 _ _ _ (by simp[e]) z21
theorem r_tree_termNodes (T : Tabs) (hT : T 0 = some (AV.agg (List.map (fun n => AV.sc (Value.int .i64 n)) tree_arities))) {H : Heap} {a0 : Tm} {r0 : Int} {r1 : Bool} {n : Nat} (hm : tree_termNodes n a0 = some (r0, r1)) : ACall Tryz.prog T 118 [Tm.av a0] H (AV.tuple [sI r0, sB r1]) H := (rg_tree_termNodes T hT n) hm


theorem rg_tree_formulaNodes (T : Tabs) (hT : T 0 = some (AV.agg (List.map (fun n => AV.sc (Value.int .i64 n)) tree_arities))) : ∀ (n : Nat), (∀ {H : Heap} {a0 : Fm} {r0 : Int} {r1 : Bool} (hm : tree_formulaNodes n a0 = some (r0, r1)), ACall Tryz.prog T 102 [Fm.av a0] H (AV.tuple [sI r0, sB r1]) H) := by
  intro n
  induction n with
  | zero =>
    skip
    all_goals (intro _ _;intros;rename_i hm;cases hm)
  | succ n ih =>
 intro H a0 r0 r1 hm
 rw [tree_formulaNodes] at hm
 have e:=hT
 refine wi mixed Tryz.func102 [] [] 999 ?_
 obtain ⟨x1,e,m⟩:=Bo1 e hm
 simp[e]
 refine Cf (r_tree_formed e.2) ?_
 rcases Io e m with ⟨e,m⟩|⟨e,m⟩
 rotate_left
 ·cases m;simp[e]
 simp[e]
 refine Wr e m 999 (fun j2 s3 f h=>h=H∧f.1 1=AV.lptr 1 (f.gen 1) 0∧f.1 4=sI s3∧f.1 17=sL Tm.av a0.terms∧f.1 18=sI (llen a0.terms)∧f.1 19=sI j2∧f.box 1=some (Fm.av a0).cells) (by simp[e]) (fun s3 fr4 h4 K5 E m=>?_) (fun j2 x6 s3 fr4 h4 K5 n7 c8 E e m z9 hK10=>?_)
 rotate_left
 ·have e:=Aj e E
  obtain ⟨x11,x12,e,m⟩:=Bo2 e m
  simp[e]
  refine Cf (r_tree_termNodes T hT e.2) ?_
  rcases Io e m with ⟨e,m⟩|⟨e,m⟩
  rotate_left
  ·cases m;cases z9;simp[e]
  simp[e]
  cases m;exact hK10 _ _ _ (by simp[e]) z9
 have e:=Aj e E
 dsimp only[sumK_inl]at m
 simp[e]
 refine Wr e m 999 (fun j13 s14 f h=>h=H∧f.1 4=sI s14∧f.1 35=sL Fm.av a0.args∧f.1 36=sI (llen a0.args)∧f.1 37=sI j13) (by simp[e]) (fun s14 fr15 h15 K16 E m=>?_) (fun j13 x17 s14 fr15 h15 K16 n18 c19 E e m z20 hK21=>?_)
 ·have e:=Aj e E
  dsimp only[sumK_inl]at m
  cases m;simp[e]
 have e:=Aj e E
 obtain ⟨x22,x23,e,m⟩:=Bo2 e m
 simp[e]
 refine Cf (ih e.2) ?_
 rcases Io e m with ⟨e,m⟩|⟨e,m⟩
 rotate_left
 ·cases m;cases z20;simp[e]
 simp[e]
 cases m;exact hK21 _ _ _ (by simp[e]) z20
theorem r_tree_formulaNodes (T : Tabs) (hT : T 0 = some (AV.agg (List.map (fun n => AV.sc (Value.int .i64 n)) tree_arities))) {H : Heap} {a0 : Fm} {r0 : Int} {r1 : Bool} {n : Nat} (hm : tree_formulaNodes n a0 = some (r0, r1)) : ACall Tryz.prog T 102 [Fm.av a0] H (AV.tuple [sI r0, sB r1]) H := (rg_tree_formulaNodes T hT n) hm


theorem r_tree_CheckFormula (T : Tabs) (hT : T 0 = some (AV.agg (List.map (fun n => AV.sc (Value.int .i64 n)) tree_arities))) {H : Heap} {a0 : Fm} {r0 : Int} {r1 : Int} (hm : tree_CheckFormula a0 = some (r0, r1)) : ACall Tryz.prog T 70 [Fm.av a0] H (AV.tuple [sI r0, sI r1]) H := by
 rw [tree_CheckFormula] at hm
 have e:=hT
 refine wi mixed Tryz.func70 [] [] 999 ?_
 obtain ⟨x1,x2,e,m⟩:=Bo2 e hm
 simp[e]
 refine Cf (r_tree_formulaNodes T hT e.2) ?_
 rcases Io e m with ⟨e,m⟩|⟨e,m⟩
 rotate_left
 ·cases m;simp[e]
 rcases Io e m with ⟨e,m⟩|⟨e,m⟩
 ·cases m;simp[e]
 cases m;simp[e]


theorem r_formula_Check (T : Tabs) (hT : T 0 = some (AV.agg (List.map (fun n => AV.sc (Value.int .i64 n)) tree_arities))) {H : Heap} {a0 : Fm} {r0 : Int} (hm : formula_Check a0 = some r0) : ACall Tryz.prog T 67 [Fm.av a0] H (sI r0) H := by
 rw [formula_Check] at hm
 have e:=hT
 refine wi mixed Tryz.func67 [] [] 999 ?_
 obtain ⟨x1,x2,e,m⟩:=Bo2 e hm
 simp[e]
 refine Cf (r_tree_CheckFormula T hT e.2) ?_
 cases m;simp[e]


theorem rg_translate_uniform : ∀ (n : Nat), C1 Tryz.prog 68 (translate_uniform n) sB Fm.av := by
  intro n
  induction n with
  | zero =>
    skip
    all_goals (intro _ _;intros;rename_i hm;cases hm)
  | succ n ih =>
 intro T H a0 r hm
 rw [translate_uniform] at hm
 have e:=trivial
 refine wi mixed Tryz.func68 [] [] 3 ?_
 simp[e]
 refine wj 999 999 (fun f h=>h=H∧f.1 1=AV.lptr 1 (f.gen 1) 0∧f.1 12=sB (sel (ieq a0.kind 6) true (ieq a0.kind 7))∧f.box 1=some (Fm.av a0).cells) (fun K1 hk2=>?_) ?_
 ·rcases Pb (ieq a0.kind 6) e with e|e
  ·simp[e]
   exact hk2 _ _ (by simp[e])
  simp[e]
  exact hk2 _ _ (by simp[e])
 rintro fr3 h3 E
 have e:=Aj e E
 rcases Io e hm with ⟨e,m⟩|⟨e,m⟩
 ·cases m;simp[e]
 simp[e]
 refine Wr e m 999 (fun j4 s5 f h=>h=H∧f.1 14=sL Fm.av a0.args∧f.1 15=sI (llen a0.args)∧f.1 16=sI j4) (by simp[e]) (fun s5 fr6 h6 K7 E m=>?_) (fun j4 x8 s5 fr6 h6 K7 n9 c10 E e m z11 hK12=>?_)
 ·have e:=Aj e E
  dsimp only[sumK_inl]at m
  cases m;simp[e]
 have e:=Aj e E
 obtain ⟨x13,e,m⟩:=Bo1 e m
 simp[e]
 refine Cf (ih e.2) ?_
 rcases Io e m with ⟨e,m⟩|⟨e,m⟩
 ·cases m;cases z11;simp[e]
 simp[e]
 cases m;exact hK12 _ _ _ (by simp[e]) z11
theorem r_translate_uniform {n : Nat} : C1 Tryz.prog 68 (translate_uniform n) sB Fm.av := (rg_translate_uniform n)

theorem r_formula_within : C1 Tryz.prog 99 formula_within sB sI := by
 intro T H a0 r hm
 rw [formula_within] at hm
 have e:=trivial
 refine wi mixed Tryz.func99 [] [] 2 ?_
 simp[e]
 refine wj 999 999 (fun f h=>h=H∧f.1 2=sB (sel (ige a0 0) (ile a0 4096) false)) (fun K1 hk2=>?_) ?_
 rotate_left
 ·rintro fr3 h3 E
  have e:=Aj e E
  cases hm;simp[e]
 rcases Pb (ige a0 0) e with e|e
 ·simp[e]
  exact hk2 _ _ (by simp[e])
 simp[e]
 exact hk2 _ _ (by simp[e])


theorem r_tree_Near_1 (T : Tabs) {H : Heap} {a0 : Int} {a1 : Int} {cv0 : Bool} {dq0 : Bool} {q0 : Nat} (kq0 : H[q0]? = some [sB cv0]) (hm : tree_Near_1 a0 a1 cv0 = some dq0) : ACall Tryz.prog T 121 [sI a0, sI a1, AV.gptr q0 0] H (AV.tuple []) (hset H q0 [sB dq0]) := by
 rw [tree_Near_1] at hm
 have lq0:=inb_of_get kq0
 refine ACallP.at1 kq0 ?_
 have e:=lq0
 refine wi mixed Tryz.func121 [] [] 999 ?_
 rcases Io e hm with ⟨e,m⟩|⟨e,m⟩
 ·cases m;simp[e]
 cases m;simp[e]


theorem rg_tree_Each_1 (T : Tabs) : ∀ (n : Nat), (∀ {S : Type} {st : S → Heap} {k : Nat} {a0 : Tm} {a1 : Int} {cv0 : (S → Int → Int → Option (S))} {sv0 : S} {sv1 : S} {q0 : Nat} {q1 : Nat} {gc0 : Nat} {kc0 : List AV} (hF : Fam st k) (kq0 : ∀ s, (st s)[q0]? = some [AV.func (.func gc0) [] kc0]) (hc0_ : Does120 T gc0 kc0 st cv0) (kq1 : ∀ s, (st s)[q1]? = some [AV.func (.func 130) [] [AV.gptr q0 0, AV.gptr q1 0]]) (hm : tree_Each_1 n a0 a1 cv0 sv0 = some sv1), ACall Tryz.prog T 130 [Tm.av a0, sI a1, AV.gptr q0 0, AV.gptr q1 0] (st sv0) (AV.tuple []) (st sv1)) := by
  intro n
  induction n with
  | zero =>
    skip
    all_goals (intro _ _;intros;rename_i hm;cases hm)
  | succ n ih =>
 intro S st k a0 a1 cv0 sv0 sv1 q0 q1 gc0 kc0 hF kq0 hc0_ kq1 hm
 rw [tree_Each_1] at hm
 have lq0:=fun s => inb_of_get (kq0 s)
 have lq1:=fun s => inb_of_get (kq1 s)
 have e:=Aj (Aj (Aj (Aj hF.len lq0) kq0) lq1) kq1
 refine wi mixed Tryz.func130 [] [] 2 ?_
 simp[e]
 refine Wj hm 999 0 (fun j1 f h=>∃ (v2:S),(h=st v2∧f.1 1=sI a1∧f.1 3=AV.gptr q1 0∧f.1 4=AV.lptr 4 (f.gen 4) 0∧f.box 4=some (Tm.av a0).cells)∧j1 v2=some sv1) (fun j1 K3 hk4 m=>?_) ?_
 ·rcases Io e m with ⟨e,m⟩|⟨e,m⟩
  rotate_left
  ·simp[e]
   exact hk4 _ _ ⟨sv0,by simp[e],m⟩
  obtain ⟨x5,e,m⟩:=Bo1 e m
  simp[e]
  refine CallAt.clo (by rfl) (Does120.at0 hc0_ e.2) ?_
  simp[e]
  exact hk4 _ _ ⟨x5,by simp[e],m⟩
 rintro fr6 h6 ⟨v2,E,m⟩
 have e:=Aj e E
 refine wj 999 999 (fun f h=>h=st v2∧f.1 1=sI (sel (ieq a0.kind 2) (iadd .i64 a1 1) a1)∧f.1 3=AV.gptr q1 0∧f.1 4=AV.lptr 4 (f.gen 4) 0∧f.box 4=some (Tm.av a0).cells) (fun K7 hk8=>?_) ?_
 ·rcases Pb (ieq a0.kind 2) e with e|e
  ·simp[e]
   exact hk8 _ _ (by simp[e])
  simp[e]
  exact hk8 _ _ (by simp[e])
 rintro fr9 h9 E
 have e:=Aj e E
 simp[e]
 refine Wr e m 999 (fun j10 s11 f h=>h=st s11∧f.1 1=sI (sel (ieq a0.kind 2) (iadd .i64 a1 1) a1)∧f.1 3=AV.gptr q1 0∧f.1 22=sL Tm.av a0.args∧f.1 23=sI (llen a0.args)∧f.1 24=sI j10) (by simp[e]) (fun s11 fr12 h12 K13 E m=>?_) (fun j10 x14 s11 fr12 h12 K13 n15 c16 E e m z17 hK18=>?_)
 ·have e:=Aj e E
  dsimp only[sumK_inl]at m
  cases m;simp[e]
 have e:=Aj e E
 obtain ⟨s19,e,m⟩:=Bo1 e m
 simp[e]
 refine CallAt.clo (by rfl) (ih hF kq0 hc0_ kq1 e.2) ?_
 simp[e]
 cases m;exact hK18 _ _ _ (by simp[e]) z17
theorem r_tree_Each_1 (T : Tabs) {S : Type} {st : S → Heap} {k : Nat} {a0 : Tm} {a1 : Int} {cv0 : (S → Int → Int → Option (S))} {sv0 : S} {sv1 : S} {q0 : Nat} {q1 : Nat} {gc0 : Nat} {kc0 : List AV} (hF : Fam st k) (kq0 : ∀ s, (st s)[q0]? = some [AV.func (.func gc0) [] kc0]) (hc0_ : Does120 T gc0 kc0 st cv0) (kq1 : ∀ s, (st s)[q1]? = some [AV.func (.func 130) [] [AV.gptr q0 0, AV.gptr q1 0]]) {n : Nat} (hm : tree_Each_1 n a0 a1 cv0 sv0 = some sv1) : ACall Tryz.prog T 130 [Tm.av a0, sI a1, AV.gptr q0 0, AV.gptr q1 0] (st sv0) (AV.tuple []) (st sv1) := (rg_tree_Each_1 T n) hF kq0 hc0_ kq1 hm


theorem r_tree_Each (T : Tabs) {S : Type} {st : S → Heap} {k : Nat} {a0 : Tm} {a1 : (S → Int → Int → Option (S))} {sv0 : S} {sv1 : S} {g1 : Nat} {cap1 : List AV} (hF : Fam st k) (hw1 : Does120 T g1 cap1 st a1) (hm : tree_Each a0 a1 sv0 = some sv1) : ACall Tryz.prog T 120 [Tm.av a0, AV.func (.func g1) [] cap1] (st sv0) (AV.tuple []) (st sv1) := by
 rw [tree_Each] at hm
 refine ACallP.dropS hF (Post:=fun x K => x=AV.tuple []∧∃ X,K=(st sv1) ++ X) ?_ (fun _ _ h => ⟨_,h.2.choose,h.2.choose_spec,by rw [h.1]; simp [AV.low,AV.lowL],h.1,rfl⟩)
 have e:=hF.len
 refine wi mixed Tryz.func120 [3,4] [] 999 ?_
 obtain ⟨s1,e,m⟩:=Bo1 e hm
 simp[e]
 refine CallAt.clo (by rfl) (r_tree_Each_1 T (st:=fun s => st s ++ [[AV.func (.func g1) [] cap1],[AV.func (.func 130) [] [AV.gptr k 0,AV.gptr (k + 1) 0]]]) (Fam.ext hF _ (n:=k + 2) (by simp)) (fun _ => (by simp[e])) (Does120.ext hw1) (fun _ => (by simp[e])) e.2) ?_
 cases m;simp[e]


theorem r_tree_Near (T : Tabs) {H : Heap} {a0 : Tm} {r0 : Bool} (hm : tree_Near a0 = some r0) : ACall Tryz.prog T 114 [Tm.av a0] H (sB r0) H := by
 rw [tree_Near] at hm
 refine ACallP.drop0 (Post:=fun x K => x=sB r0∧∃ X,K=H ++ X) ?_ (fun _ _ h => ⟨_,h.2.choose_spec,by rw [h.1]; simp [AV.low,AV.lowL],h.1,rfl⟩)
 have e:=trivial
 refine wi mixed Tryz.func114 [3] [] 999 ?_
 obtain ⟨s1,e,m⟩:=Bo1 e hm
 simp[e]
 refine Cf (r_tree_Each T (st:=fun s:Bool => H ++ [[sB s]]) (Fam.objs H (fun s:Bool => [[sB s]]) 1 (fun _ => rfl) (by simp [AV.low,AV.lowL])) (fun X s _ _ s' h => by have:=r_tree_Near_1 T (H:=H ++ [[sB s]] ++ X) (q0:=(List.length H)) (by simp[e]) h; simpa using this) e.2) ?_
 cases m;simp[e]


theorem r_tree_NearFormula_1 (T : Tabs) {H : Heap} {a0 : Tm} {a1 : Int} {cv0 : Bool} {dq0 : Bool} {q0 : Nat} (kq0 : H[q0]? = some [sB cv0]) (hm : tree_NearFormula_1 a0 a1 cv0 = some dq0) : ACall Tryz.prog T 113 [Tm.av a0, sI a1, AV.gptr q0 0] H (AV.tuple []) (hset H q0 [sB dq0]) := by
 rw [tree_NearFormula_1] at hm
 have lq0:=inb_of_get kq0
 refine ACallP.at1 kq0 ?_
 have e:=lq0
 refine wi mixed Tryz.func113 [] [] 999 ?_
 rcases Io e hm with ⟨e,m⟩|⟨e,m⟩
 rotate_left
 ·cases m;simp[e]
 obtain ⟨x1,e,m⟩:=Bo1 e m
 simp[e]
 refine Cf (r_tree_Near T e.2) ?_
 cases m;simp[e]

end Go.Proofs.YtanjokijgbgcpaaGreatDoor
