/- The program's functions do what the models say. -/
import Derived.Test.YtanjokijgbgcpaaGreatDoorTWx
import Derived.Test.YtanjokijgbgcpaaGreatDoorTM
set_option maxRecDepth 20000
set_option maxHeartbeats 4000000
set_option linter.unusedSimpArgs false
set_option linter.unusedVariables false
namespace Go.Proofs.YtanjokijgbgcpaaGreatDoor
open Go Go.Abs Go.Mdl


theorem rg_ref01_Same : ∀ (n : Nat), C2 Tryz.prog 36 (ref01_Same n) sB Ty.av Ty.av := by
  intro n
  induction n with
  | zero =>
    skip
    all_goals (intro _ _;intros;rename_i hm;cases hm)
  | succ n ih =>
 intro T H a0 a1 r hm
 rw [ref01_Same] at hm
 have e:=trivial
 refine wi mixed Tryz.func36 [] [] 3 ?_
 simp[e]
 refine wj 999 999 (fun f h=>h=H∧f.1 2=AV.lptr 2 (f.gen 2) 0∧f.1 3=AV.lptr 3 (f.gen 3) 0∧f.1 19=sB (sel (ine a0.kind a1.kind) true (ine (llen a0.args) (llen a1.args)))∧f.box 2=some (Ty.av a0).cells∧f.box 3=some (Ty.av a1).cells) (fun K1 hk2=>?_) ?_
 ·rcases Pb (ine a0.kind a1.kind) e with e|e
  ·simp[e]
   exact hk2 _ _ (by simp[e])
  simp[e]
  exact hk2 _ _ (by simp[e])
 rintro fr3 h3 E
 have e:=Aj e E
 rcases Io e hm with ⟨e,m⟩|⟨e,m⟩
 ·cases m;simp[e]
 simp[e]
 refine Wr e m 999 (fun j4 s5 f h=>h=H∧f.1 2=AV.lptr 2 (f.gen 2) 0∧f.1 3=AV.lptr 3 (f.gen 3) 0∧f.1 22=sI (llen a0.args)∧f.1 23=sI j4∧f.box 2=some (Ty.av a0).cells∧f.box 3=some (Ty.av a1).cells) (by simp[e]) (fun s5 fr6 h6 K7 E m=>?_) (fun j4 x8 s5 fr6 h6 K7 n9 c10 E e m z11 hK12=>?_)
 ·have e:=Aj e E
  dsimp only[sumK_inl]at m
  cases m;simp[e]
 have e:=Aj e E
 obtain ⟨x13,e,m⟩:=Bo1 e m
 obtain ⟨x14,e,m⟩:=Bo1 e m
 simp[e]
 refine Cs (ih e.2) ?_
 rcases Io e m with ⟨e,m⟩|⟨e,m⟩
 rotate_left
 ·cases m;cases z11;simp[e]
 simp[e]
 cases m;exact hK12 _ _ _ (by simp[e]) z11
theorem r_ref01_Same {n : Nat} : C2 Tryz.prog 36 (ref01_Same n) sB Ty.av Ty.av := (rg_ref01_Same n)


theorem rg_ref02_Same : ∀ (n : Nat), C2 Tryz.prog 85 (ref02_Same n) sB Tm.av Tm.av := by
  intro n
  induction n with
  | zero =>
    skip
    all_goals (intro _ _;intros;rename_i hm;cases hm)
  | succ n ih =>
 intro T H a0 a1 r hm
 rw [ref02_Same] at hm
 have e:=trivial
 refine wi mixed Tryz.func85 [] [] 3 ?_
 simp[e]
 refine Wj hm 999 999 (fun j1 f h=>∃ (v2:Bool),(h=H∧f.1 2=AV.lptr 2 (f.gen 2) 0∧f.1 3=AV.lptr 3 (f.gen 3) 0∧f.1 34=sB v2∧f.box 2=some (Tm.av a0).cells∧f.box 3=some (Tm.av a1).cells)∧j1 v2=some r) (fun j1 K3 hk4 m=>?_) ?_
 ·rcases Io e m with ⟨e,m⟩|⟨e,m⟩
  ·simp[e]
   exact hk4 _ _ ⟨true,by simp[e],m⟩
  rcases Io e m with ⟨e,m⟩|⟨e,m⟩
  ·simp[e]
   exact hk4 _ _ ⟨true,by simp[e],m⟩
  obtain ⟨x5,e,m⟩:=Bo1 e m
  simp[e]
  refine Cf (r_ref01_Same e.2) ?_
  rcases Io e m with ⟨e,m⟩|⟨e,m⟩
  rotate_left
  ·simp[e]
   exact hk4 _ _ ⟨true,by simp[e],m⟩
  simp[e]
  exact hk4 _ _ ⟨(ine (llen a0.args) (llen a1.args)),by simp[e],m⟩
 rintro fr6 h6 ⟨v2,E,m⟩
 have e:=Aj e E
 rcases Io e m with ⟨e,m⟩|⟨e,m⟩
 ·cases m;simp[e]
 simp[e]
 refine Wr e m 999 (fun j7 s8 f h=>h=H∧f.1 2=AV.lptr 2 (f.gen 2) 0∧f.1 3=AV.lptr 3 (f.gen 3) 0∧f.1 37=sI (llen a0.args)∧f.1 38=sI j7∧f.box 2=some (Tm.av a0).cells∧f.box 3=some (Tm.av a1).cells) (by simp[e]) (fun s8 fr9 h9 K10 E m=>?_) (fun j7 x11 s8 fr9 h9 K10 n12 c13 E e m z14 hK15=>?_)
 ·have e:=Aj e E
  dsimp only[sumK_inl]at m
  cases m;simp[e]
 have e:=Aj e E
 obtain ⟨x16,e,m⟩:=Bo1 e m
 obtain ⟨x17,e,m⟩:=Bo1 e m
 simp[e]
 refine Cs (ih e.2) ?_
 rcases Io e m with ⟨e,m⟩|⟨e,m⟩
 rotate_left
 ·cases m;cases z14;simp[e]
 simp[e]
 cases m;exact hK15 _ _ _ (by simp[e]) z14
theorem r_ref02_Same {n : Nat} : C2 Tryz.prog 85 (ref02_Same n) sB Tm.av Tm.av := (rg_ref02_Same n)

theorem r_ref02_SameAll : C2 Tryz.prog 37 ref02_SameAll sB (sL Tm.av) (sL Tm.av) := by
 intro T H a0 a1 r hm
 rw [ref02_SameAll] at hm
 have e:=trivial
 refine wi mixed Tryz.func37 [] [] 999 ?_
 rcases Io e hm with ⟨e,m⟩|⟨e,m⟩
 ·cases m;simp[e]
 simp[e]
 refine Wr e m 999 (fun j1 s2 f h=>h=H∧f.1 0=sL Tm.av a0∧f.1 1=sL Tm.av a1∧f.1 12=sI (llen a0)∧f.1 13=sI j1) (by simp[e]) (fun s2 fr3 h3 K4 E m=>?_) (fun j1 x5 s2 fr3 h3 K4 n6 c7 E e m z8 hK9=>?_)
 ·have e:=Aj e E
  dsimp only[sumK_inl]at m
  cases m;simp[e]
 have e:=Aj e E
 obtain ⟨x10,e,m⟩:=Bo1 e m
 obtain ⟨x11,e,m⟩:=Bo1 e m
 simp[e]
 refine Cs (r_ref02_Same e.2) ?_
 rcases Io e m with ⟨e,m⟩|⟨e,m⟩
 rotate_left
 ·cases m;cases z8;simp[e]
 simp[e]
 cases m;exact hK9 _ _ _ (by simp[e]) z8


theorem rg_ref07_Same : ∀ (n : Nat), C2 Tryz.prog 14 (ref07_Same n) sB Fm.av Fm.av := by
  intro n
  induction n with
  | zero =>
    skip
    all_goals (intro _ _;intros;rename_i hm;cases hm)
  | succ n ih =>
 intro T H a0 a1 r hm
 rw [ref07_Same] at hm
 have e:=trivial
 refine wi mixed Tryz.func14 [] [] 3 ?_
 simp[e]
 refine Wj hm 999 999 (fun j1 f h=>∃ (v2:Bool),(h=H∧f.1 2=AV.lptr 2 (f.gen 2) 0∧f.1 3=AV.lptr 3 (f.gen 3) 0∧f.1 35=sB v2∧f.box 2=some (Fm.av a0).cells∧f.box 3=some (Fm.av a1).cells)∧j1 v2=some r) (fun j1 K3 hk4 m=>?_) ?_
 ·rcases Io e m with ⟨e,m⟩|⟨e,m⟩
  ·simp[e]
   exact hk4 _ _ ⟨true,by simp[e],m⟩
  obtain ⟨x5,e,m⟩:=Bo1 e m
  simp[e]
  refine Cf (r_ref01_Same e.2) ?_
  rcases Io e m with ⟨e,m⟩|⟨e,m⟩
  rotate_left
  ·simp[e]
   exact hk4 _ _ ⟨true,by simp[e],m⟩
  obtain ⟨x6,e,m⟩:=Bo1 e m
  simp[e]
  refine Cf (r_ref02_SameAll e.2) ?_
  rcases Io e m with ⟨e,m⟩|⟨e,m⟩
  rotate_left
  ·simp[e]
   exact hk4 _ _ ⟨true,by simp[e],m⟩
  simp[e]
  exact hk4 _ _ ⟨(ine (llen a0.args) (llen a1.args)),by simp[e],m⟩
 rintro fr7 h7 ⟨v2,E,m⟩
 have e:=Aj e E
 rcases Io e m with ⟨e,m⟩|⟨e,m⟩
 ·cases m;simp[e]
 simp[e]
 refine Wr e m 999 (fun j8 s9 f h=>h=H∧f.1 2=AV.lptr 2 (f.gen 2) 0∧f.1 3=AV.lptr 3 (f.gen 3) 0∧f.1 38=sI (llen a0.args)∧f.1 39=sI j8∧f.box 2=some (Fm.av a0).cells∧f.box 3=some (Fm.av a1).cells) (by simp[e]) (fun s9 fr10 h10 K11 E m=>?_) (fun j8 x12 s9 fr10 h10 K11 n13 c14 E e m z15 hK16=>?_)
 ·have e:=Aj e E
  dsimp only[sumK_inl]at m
  cases m;simp[e]
 have e:=Aj e E
 obtain ⟨x17,e,m⟩:=Bo1 e m
 obtain ⟨x18,e,m⟩:=Bo1 e m
 simp[e]
 refine Cs (ih e.2) ?_
 rcases Io e m with ⟨e,m⟩|⟨e,m⟩
 rotate_left
 ·cases m;cases z15;simp[e]
 simp[e]
 cases m;exact hK16 _ _ _ (by simp[e]) z15
theorem r_ref07_Same {n : Nat} : C2 Tryz.prog 14 (ref07_Same n) sB Fm.av Fm.av := (rg_ref07_Same n)


theorem r_law20_sane (T : Tabs) (hT : T 0 = some (AV.agg (List.map (fun n => AV.sc (Value.int .i64 n)) tree_arities))) {H : Heap}  {r0 : Bool} (hm : law20_sane = some r0) : ACall Tryz.prog T 5 [] H (sB r0) H := by
 rw [law20_sane] at hm
 have e:=hT
 refine wi mixed Tryz.func5 [] [] 6 ?_
 obtain ⟨x1,e,m⟩:=Bo1 e hm
 simp[e]
 refine Cf (r_mk_Num e.2) ?_
 obtain ⟨x2,e,m⟩:=Bo1 e m
 simp[e]
 refine Cf (r_mk_Num e.2) ?_
 obtain ⟨x3,e,m⟩:=Bo1 e m
 simp[e]
 refine Cf (r_ref07_Eq e.2) ?_
 obtain ⟨x4,e,m⟩:=Bo1 e m
 simp[e]
 refine Cf (r_mk_Num e.2) ?_
 obtain ⟨x5,e,m⟩:=Bo1 e m
 simp[e]
 refine Cf (r_mk_Num e.2) ?_
 obtain ⟨x6,e,m⟩:=Bo1 e m
 simp[e]
 refine Cf (r_ref07_Eq e.2) ?_
 obtain ⟨x7,x8,e,m⟩:=Bo2 e m
 simp[e]
 refine Cf (r_translate_Formula T hT e.2) ?_
 simp[e]
 refine Wj m 999 999 (fun j9 f h=>∃ (v10:Bool),(h=H∧f.1 0=sB v10)∧j9 v10=some r0) (fun j9 K11 hk12 m=>?_) ?_
 rotate_left
 ·rintro fr13 h13 ⟨v10,E,m⟩
  have e:=Aj e E
  cases m;simp[e]
 rcases Io e m with ⟨e,m⟩|⟨e,m⟩
 rotate_left
 ·simp[e]
  exact hk12 _ _ ⟨false,by simp[e],m⟩
 obtain ⟨x14,e,m⟩:=Bo1 e m
 simp[e]
 refine Cs (r_ref07_Two e.2) ?_
 obtain ⟨x15,e,m⟩:=Bo1 e m
 simp[e]
 refine Cs (r_ref07_Two e.2) ?_
 obtain ⟨x16,e,m⟩:=Bo1 e m
 simp[e]
 refine Cs (r_ref07_Same e.2) ?_
 simp[e]
 exact hk12 _ _ ⟨x16,by simp[e],m⟩

theorem r_mk_Few : C1 Tryz.prog 6 mk_Few sB (sL sI) := by
 intro T H a0 r hm
 rw [mk_Few] at hm
 have e:=trivial
 refine wi mixed Tryz.func6 [] [] 999 ?_
 cases hm;simp[e]


theorem rg_mk_CountType : ∀ (n : Nat), C2 Tryz.prog 63 (mk_CountType n) sI Ty.av sI := by
  intro n
  induction n with
  | zero =>
    skip
    all_goals (intro _ _;intros;rename_i hm;cases hm)
  | succ n ih =>
 intro T H a0 a1 r hm
 rw [mk_CountType] at hm
 have e:=trivial
 refine wi mixed Tryz.func63 [] [] 999 ?_
 simp[e]
 refine Wn hm 1 (fun s1 f h=>h=H∧f.1 1=sI a1∧f.1 2=AV.lptr 2 (f.gen 2) 0∧f.1 5=sI s1.1∧f.1 6=sI s1.2∧f.box 2=some (Ty.av a0).cells) (by simp[e]) (fun s1 fr2 h2 K3 n4 c5 E m z6 hK7=>?_)
 obtain ⟨v8,v9⟩:=s1
 have e:=Aj e E
 dsimp only[un2_mk]at m
 simp[e]
 refine wj 999 999 (fun f h=>h=H∧f.1 1=sI a1∧f.1 2=AV.lptr 2 (f.gen 2) 0∧f.1 5=sI v8∧f.1 6=sI v9∧f.1 16=sB (sel (ilt v9 (llen a0.args)) (ile v8 a1) false)∧f.box 2=some (Ty.av a0).cells) (fun K10 hk11=>?_) ?_
 ·rcases Pb (ilt v9 (llen a0.args)) e with e|e
  ·simp[e]
   exact hk11 _ _ (by simp[e])
  simp[e]
  exact hk11 _ _ (by simp[e])
 rintro fr12 h12 E
 have e:=Aj e E
 rcases Io e m with ⟨e,m⟩|⟨e,m⟩
 rotate_left
 ·cases m
  have m:=Qb z6
  dsimp only[un2_mk]at m
  cases m;simp[e]
 obtain ⟨x13,e,m⟩:=Bo1 e m
 obtain ⟨x14,e,m⟩:=Bo1 e m
 simp[e]
 refine Cf (ih e.2) ?_
 simp[e]
 cases m;exact hK7 _ _ _ (by simp[e]) z6
theorem r_mk_CountType {n : Nat} : C2 Tryz.prog 63 (mk_CountType n) sI Ty.av sI := (rg_mk_CountType n)


theorem rg_mk_CountTerm : ∀ (n : Nat), C2 Tryz.prog 64 (mk_CountTerm n) sI Tm.av sI := by
  intro n
  induction n with
  | zero =>
    skip
    all_goals (intro _ _;intros;rename_i hm;cases hm)
  | succ n ih =>
 intro T H a0 a1 r hm
 rw [mk_CountTerm] at hm
 have e:=trivial
 refine wi mixed Tryz.func64 [] [] 999 ?_
 obtain ⟨x1,e,m⟩:=Bo1 e hm
 simp[e]
 refine Cf (r_mk_CountType e.2) ?_
 simp[e]
 refine Wn m 1 (fun s2 f h=>h=H∧f.1 1=sI a1∧f.1 2=AV.lptr 2 (f.gen 2) 0∧f.1 5=sI s2.1∧f.1 6=sI s2.2∧f.box 2=some (Tm.av a0).cells) (by simp[e]) (fun s2 fr3 h3 K4 n5 c6 E m z7 hK8=>?_)
 obtain ⟨v9,v10⟩:=s2
 have e:=Aj e E
 dsimp only[un2_mk]at m
 simp[e]
 refine wj 999 999 (fun f h=>h=H∧f.1 1=sI a1∧f.1 2=AV.lptr 2 (f.gen 2) 0∧f.1 5=sI v9∧f.1 6=sI v10∧f.1 22=sB (sel (ilt v10 (llen a0.args)) (ile v9 a1) false)∧f.box 2=some (Tm.av a0).cells) (fun K11 hk12=>?_) ?_
 ·rcases Pb (ilt v10 (llen a0.args)) e with e|e
  ·simp[e]
   exact hk12 _ _ (by simp[e])
  simp[e]
  exact hk12 _ _ (by simp[e])
 rintro fr13 h13 E
 have e:=Aj e E
 rcases Io e m with ⟨e,m⟩|⟨e,m⟩
 rotate_left
 ·cases m
  have m:=Qb z7
  dsimp only[un2_mk]at m
  cases m;simp[e]
 obtain ⟨x14,e,m⟩:=Bo1 e m
 obtain ⟨x15,e,m⟩:=Bo1 e m
 simp[e]
 refine Cf (ih e.2) ?_
 simp[e]
 cases m;exact hK8 _ _ _ (by simp[e]) z7
theorem r_mk_CountTerm {n : Nat} : C2 Tryz.prog 64 (mk_CountTerm n) sI Tm.av sI := (rg_mk_CountTerm n)


theorem rg_mk_CountFormula : ∀ (n : Nat), C2 Tryz.prog 24 (mk_CountFormula n) sI Fm.av sI := by
  intro n
  induction n with
  | zero =>
    skip
    all_goals (intro _ _;intros;rename_i hm;cases hm)
  | succ n ih =>
 intro T H a0 a1 r hm
 rw [mk_CountFormula] at hm
 have e:=trivial
 refine wi mixed Tryz.func24 [] [] 999 ?_
 obtain ⟨x1,e,m⟩:=Bo1 e hm
 simp[e]
 refine Cf (r_mk_CountType e.2) ?_
 simp[e]
 refine Wn m 1 (fun s2 f h=>h=H∧f.1 1=sI a1∧f.1 2=AV.lptr 2 (f.gen 2) 0∧f.1 5=sI s2.1∧f.1 6=sI s2.2∧f.box 2=some (Fm.av a0).cells) (by simp[e]) (fun s2 fr3 h3 K4 n5 c6 E m z7 hK8=>?_)
 obtain ⟨v9,v10⟩:=s2
 have e:=Aj e E
 dsimp only[un2_mk]at m
 simp[e]
 refine wj 999 999 (fun f h=>h=H∧f.1 1=sI a1∧f.1 2=AV.lptr 2 (f.gen 2) 0∧f.1 5=sI v9∧f.1 6=sI v10∧f.1 23=sB (sel (ilt v10 (llen a0.terms)) (ile v9 a1) false)∧f.box 2=some (Fm.av a0).cells) (fun K11 hk12=>?_) ?_
 ·rcases Pb (ilt v10 (llen a0.terms)) e with e|e
  ·simp[e]
   exact hk12 _ _ (by simp[e])
  simp[e]
  exact hk12 _ _ (by simp[e])
 rintro fr13 h13 E
 have e:=Aj e E
 rcases Io e m with ⟨e,m⟩|⟨e,m⟩
 ·obtain ⟨x14,e,m⟩:=Bo1 e m
  obtain ⟨x15,e,m⟩:=Bo1 e m
  simp[e]
  refine Cf (r_mk_CountTerm e.2) ?_
  simp[e]
  cases m;exact hK8 _ _ _ (by simp[e]) z7
 cases m
 have m:=Qb z7
 dsimp only[un2_mk]at m
 simp[e]
 refine Wn m 1 (fun s16 f h=>h=H∧f.1 1=sI a1∧f.1 2=AV.lptr 2 (f.gen 2) 0∧f.1 5=sI s16.1∧f.1 7=sI s16.2∧f.box 2=some (Fm.av a0).cells) (by simp[e]) (fun s16 fr17 h17 K18 n19 c20 E m z21 hK22=>?_)
 obtain ⟨v23,v24⟩:=s16
 have e:=Aj e E
 dsimp only[un2_mk]at m
 simp[e]
 refine wj 999 999 (fun f h=>h=H∧f.1 1=sI a1∧f.1 2=AV.lptr 2 (f.gen 2) 0∧f.1 5=sI v23∧f.1 7=sI v24∧f.1 46=sB (sel (ilt v24 (llen a0.args)) (ile v23 a1) false)∧f.box 2=some (Fm.av a0).cells) (fun K25 hk26=>?_) ?_
 ·rcases Pb (ilt v24 (llen a0.args)) e with e|e
  ·simp[e]
   exact hk26 _ _ (by simp[e])
  simp[e]
  exact hk26 _ _ (by simp[e])
 rintro fr27 h27 E
 have e:=Aj e E
 rcases Io e m with ⟨e,m⟩|⟨e,m⟩
 rotate_left
 ·cases m
  have m:=Qb z21
  dsimp only[un2_mk]at m
  cases m;simp[e]
 obtain ⟨x28,e,m⟩:=Bo1 e m
 obtain ⟨x29,e,m⟩:=Bo1 e m
 simp[e]
 refine Cf (ih e.2) ?_
 simp[e]
 cases m;exact hK22 _ _ _ (by simp[e]) z21
theorem r_mk_CountFormula {n : Nat} : C2 Tryz.prog 24 (mk_CountFormula n) sI Fm.av sI := (rg_mk_CountFormula n)

theorem r_law20_forms : C1 Tryz.prog 7 law20_forms sI Fm.av := by
 intro T H a0 r hm
 rw [law20_forms] at hm
 have e:=trivial
 refine wi mixed Tryz.func7 [] [] 999 ?_
 obtain ⟨x1,e,m⟩:=Bo1 e hm
 simp[e]
 refine Cf (r_mk_CountFormula e.2) ?_
 cases m;simp[e]

theorem enters8 : entersB Tryz.prog 8 = true := by kernel_rfl
theorem r_mk_New (T : Tabs) {a0 : List Int} {r0 : Smk_Deck} (hm : mk_New a0 = some r0) : ACall Tryz.prog T 8 [AV.slice .frz (List.map (fun n => AV.sc (Value.int .i64 n)) a0)] [] (AV.gptr 0 0) (hset [[]] 0 [AV.slice .frz (List.map (fun n => AV.sc (Value.int .i64 n)) r0.l), AV.sc (.int .i64 r0.atF)]) := by
  obtain rfl := Option.some.inj hm
  refine ACallP.intro (fn := Tryz.f8) Tryz.func8 rfl enters8 (Nat.le_of_ble_eq_true rfl) ?_
  refine AWp.seqK fun K1 hk1 => ?_
  refine AWp.region [] (by decide +kernel) ?_
  simp
  refine hk1 _ _ ?_
  refine AWp.seqK fun K1 hk1 => ?_
  refine AWp.region [5] (by decide +kernel) ?_
  simp
  refine hk1 _ _ ?_
  refine AWp.ret ?_
  simp [retQ, hset]

theorem r_mk_Mod : C2 Tryz.prog 65 mk_Mod sI sI sI := by
 intro T H a0 a1 r hm
 rw [mk_Mod] at hm
 have e:=trivial
 refine wi mixed Tryz.func65 [] [] 999 ?_
 obtain ⟨e,m⟩:=Ck e hm
 obtain ⟨e,m⟩:=Ck e m
 cases m;simp[e]

end Go.Proofs.YtanjokijgbgcpaaGreatDoor
