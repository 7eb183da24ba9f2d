/- The program's functions do what the models say. -/
import Derived.Test.YtanjokijgbgcpaaGreatDoorTW07
import Derived.Test.YtanjokijgbgcpaaGreatDoorTM
set_option maxRecDepth 20000
set_option maxHeartbeats 4000000
set_option linter.unusedSimpArgs false
set_option linter.unusedVariables false
namespace Go.Proofs.YtanjokijgbgcpaaGreatDoor
open Go Go.Abs Go.Mdl


theorem rg_ref01_shape : ∀ (n : Nat), C1 Tryz.prog 109 (ref01_shape n) sB Ty.av := by
  intro n
  induction n with
  | zero =>
    skip
    all_goals (intro _ _;intros;rename_i hm;cases hm)
  | succ n ih =>
 intro T H a0 r hm
 rw [ref01_shape] at hm
 have e:=trivial
 refine wi mixed Tryz.func109 [] [] 4 ?_
 simp[e]
 refine Wj hm 3 999 (fun j1 f h=>∃ (v2:Int),(h=H∧f.1 1=AV.lptr 1 (f.gen 1) 0∧f.1 3=sI v2∧f.box 1=some (Ty.av a0).cells)∧j1 v2=some r) (fun j1 K3 hk4 m=>?_) ?_
 rotate_left
 ·rintro fr5 h5 ⟨v2,E,m⟩
  have e:=Aj e E
  rcases Io e m with ⟨e,m⟩|⟨e,m⟩
  ·cases m;simp[e]
  simp[e]
  refine Wr e m 999 (fun j6 s7 f h=>h=H∧f.1 21=sL Ty.av a0.args∧f.1 22=sI (llen a0.args)∧f.1 23=sI j6) (by simp[e]) (fun s7 fr8 h8 K9 E m=>?_) (fun j6 x10 s7 fr8 h8 K9 n11 c12 E e m z13 hK14=>?_)
  ·have e:=Aj e E
   dsimp only[sumK_inl]at m
   cases m;simp[e]
  have e:=Aj e E
  obtain ⟨x15,e,m⟩:=Bo1 e m
  simp[e]
  refine Cf (ih e.2) ?_
  rcases Io e m with ⟨e,m⟩|⟨e,m⟩
  rotate_left
  ·cases m;cases z13;simp[e]
  simp[e]
  cases m;exact hK14 _ _ _ (by simp[e]) z13
 simp[e]
 refine wj 999 0 (fun f h=>h=H∧f.1 1=AV.lptr 1 (f.gen 1) 0∧f.1 3=sI 0∧f.1 7=sI a0.kind∧f.1 8=sB (sel (ieq a0.kind 1) true (sel (ieq a0.kind 2) true (ieq a0.kind 5)))∧f.box 1=some (Ty.av a0).cells) (fun K16 hk17=>?_) ?_
 ·rcases Pb (ieq a0.kind 1) e with e|e
  ·simp[e]
   exact hk17 _ _ (by simp[e])
  rcases Pb (ieq a0.kind 2) e with e|e
  ·simp[e]
   exact hk17 _ _ (by simp[e])
  simp[e]
  exact hk17 _ _ (by simp[e])
 rintro fr18 h18 E
 have e:=Aj e E
 rcases Io e m with ⟨e,m⟩|⟨e,m⟩
 ·apply wg 999
  simp[e]
  exact hk4 _ _ ⟨0,by simp[e],m⟩
 apply wg 1
 simp[e]
 refine wj 999 999 (fun f h=>h=H∧f.1 1=AV.lptr 1 (f.gen 1) 0∧f.1 12=sB (sel (ieq a0.kind 3) true (ieq a0.kind 4))∧f.box 1=some (Ty.av a0).cells) (fun K19 hk20=>?_) ?_
 ·rcases Pb (ieq a0.kind 3) e with e|e
  ·simp[e]
   exact hk20 _ _ (by simp[e])
  simp[e]
  exact hk20 _ _ (by simp[e])
 rintro fr21 h21 E
 have e:=Aj e E
 rcases Io e m with ⟨e,m⟩|⟨e,m⟩
 rotate_left
 ·cases m;simp[e]
 simp[e]
 exact hk4 _ _ ⟨2,by simp[e],m⟩
theorem r_ref01_shape {n : Nat} : C1 Tryz.prog 109 (ref01_shape n) sB Ty.av := (rg_ref01_shape n)


theorem rg_ref01_size : ∀ (n : Nat), C1 Tryz.prog 110 (ref01_size n) sI Ty.av := by
  intro n
  induction n with
  | zero =>
    skip
    all_goals (intro _ _;intros;rename_i hm;cases hm)
  | succ n ih =>
 intro T H a0 r hm
 rw [ref01_size] at hm
 have e:=trivial
 refine wi mixed Tryz.func110 [] [] 999 ?_
 simp[e]
 refine Wr e hm 999 (fun j1 s2 f h=>h=H∧f.1 3=sI s2∧f.1 7=sL Ty.av a0.args∧f.1 8=sI (llen a0.args)∧f.1 9=sI j1) (by simp[e]) (fun s2 fr3 h3 K4 E m=>?_) (fun j1 x5 s2 fr3 h3 K4 n6 c7 E e m z8 hK9=>?_)
 ·have e:=Aj e E
  dsimp only[sumK_inl]at m
  cases m;simp[e]
 have e:=Aj e E
 obtain ⟨x10,e,m⟩:=Bo1 e m
 simp[e]
 refine Cf (ih e.2) ?_
 simp[e]
 cases m;exact hK9 _ _ _ (by simp[e]) z8
theorem r_ref01_size {n : Nat} : C1 Tryz.prog 110 (ref01_size n) sI Ty.av := (rg_ref01_size n)

theorem r_ref01_Check : C1 Tryz.prog 94 ref01_Check sI Ty.av := by
 intro T H a0 r hm
 rw [ref01_Check] at hm
 have e:=trivial
 refine wi mixed Tryz.func94 [] [] 999 ?_
 obtain ⟨x1,e,m⟩:=Bo1 e hm
 simp[e]
 refine Cf (r_ref01_shape e.2) ?_
 rcases Io e m with ⟨e,m⟩|⟨e,m⟩
 rotate_left
 ·cases m;simp[e]
 obtain ⟨x2,e,m⟩:=Bo1 e m
 simp[e]
 refine Cf (r_ref01_size e.2) ?_
 rcases Io e m with ⟨e,m⟩|⟨e,m⟩
 ·cases m;simp[e]
 cases m;simp[e]


theorem rg_ref02_Shape : ∀ (n : Nat), C1 Tryz.prog 60 (ref02_Shape n) sB Tm.av := by
  intro n
  induction n with
  | zero =>
    skip
    all_goals (intro _ _;intros;rename_i hm;cases hm)
  | succ n ih =>
 intro T H a0 r hm
 rw [ref02_Shape] at hm
 have e:=trivial
 refine wi mixed Tryz.func60 [] [] 3 ?_
 simp[e]
 refine Wj hm 999 0 (fun j1 f h=>∃ (v2:Bool),(h=H∧f.1 1=AV.lptr 1 (f.gen 1) 0∧f.1 26=sB v2∧f.box 1=some (Tm.av a0).cells)∧j1 v2=some r) (fun j1 K3 hk4 m=>?_) ?_
 ·obtain ⟨x5,e,m⟩:=Bo1 e m
  simp[e]
  refine Cs (r_ref02_args e.2) ?_
  rcases Io e m with ⟨e,m⟩|⟨e,m⟩
  ·simp[e]
   exact hk4 _ _ ⟨true,by simp[e],m⟩
  rcases Io e m with ⟨e,m⟩|⟨e,m⟩
  ·simp[e]
   exact hk4 _ _ ⟨true,by simp[e],m⟩
  rcases Io e m with ⟨e,m⟩|⟨e,m⟩
  rotate_left
  ·simp[e]
   exact hk4 _ _ ⟨false,by simp[e],m⟩
  simp[e]
  exact hk4 _ _ ⟨(ine a0.index 0),by simp[e],m⟩
 rintro fr6 h6 ⟨v2,E,m⟩
 have e:=Aj e E
 rcases Io e m with ⟨e,m⟩|⟨e,m⟩
 ·apply wg 999
  cases m;simp[e]
 apply wg 2
 simp[e]
 refine Wj m 3 999 (fun j7 f h=>(h=H∧f.1 1=AV.lptr 1 (f.gen 1) 0∧f.box 1=some (Tm.av a0).cells)∧j7=some r) (fun j7 K8 hk9 m=>?_) ?_
 rotate_left
 ·rintro fr10 h10 ⟨E,m⟩
  have e:=Aj e E
  simp[e]
  refine Wr e m 999 (fun j11 s12 f h=>h=H∧f.1 42=sL Tm.av a0.args∧f.1 43=sI (llen a0.args)∧f.1 44=sI j11) (by simp[e]) (fun s12 fr13 h13 K14 E m=>?_) (fun j11 x15 s12 fr13 h13 K14 n16 c17 E e m z18 hK19=>?_)
  ·have e:=Aj e E
   dsimp only[sumK_inl]at m
   cases m;simp[e]
  have e:=Aj e E
  obtain ⟨x20,e,m⟩:=Bo1 e m
  simp[e]
  refine Cf (ih e.2) ?_
  rcases Io e m with ⟨e,m⟩|⟨e,m⟩
  rotate_left
  ·cases m;cases z18;simp[e]
  simp[e]
  cases m;exact hK19 _ _ _ (by simp[e]) z18
 simp[e]
 refine wj 999 999 (fun f h=>h=H∧f.1 1=AV.lptr 1 (f.gen 1) 0∧f.1 33=sB (sel (ieq a0.kind 2) true (sel (ieq a0.kind 6) true (ieq a0.kind 9)))∧f.box 1=some (Tm.av a0).cells) (fun K21 hk22=>?_) ?_
 ·rcases Pb (ieq a0.kind 2) e with e|e
  ·simp[e]
   exact hk22 _ _ (by simp[e])
  rcases Pb (ieq a0.kind 6) e with e|e
  ·simp[e]
   exact hk22 _ _ (by simp[e])
  simp[e]
  exact hk22 _ _ (by simp[e])
 rintro fr23 h23 E
 have e:=Aj e E
 rcases Io e m with ⟨e,m⟩|⟨e,m⟩
 ·obtain ⟨x24,e,m⟩:=Bo1 e m
  simp[e]
  refine Cf (r_ref01_Check e.2) ?_
  rcases Io e m with ⟨e,m⟩|⟨e,m⟩
  ·cases m;simp[e]
  simp[e]
  exact hk9 _ _ ⟨by simp[e],m⟩
 obtain ⟨x25,e,m⟩:=Bo1 e m
 simp[e]
 refine Cf (r_ref01_Zero e.2) ?_
 rcases Io e m with ⟨e,m⟩|⟨e,m⟩
 rotate_left
 ·cases m;simp[e]
 simp[e]
 exact hk9 _ _ ⟨by simp[e],m⟩
theorem r_ref02_Shape {n : Nat} : C1 Tryz.prog 60 (ref02_Shape n) sB Tm.av := (rg_ref02_Shape n)

theorem r_ref07_quantifier : C1 Tryz.prog 106 ref07_quantifier sB sI := by
 intro T H a0 r hm
 rw [ref07_quantifier] at hm
 have e:=trivial
 refine wi mixed Tryz.func106 [] [] 2 ?_
 simp[e]
 refine wj 999 999 (fun f h=>h=H∧f.1 2=sB (sel (ieq a0 4) true (sel (ieq a0 5) true (sel (ieq a0 6) true (ieq a0 7))))) (fun K1 hk2=>?_) ?_
 rotate_left
 ·rintro fr3 h3 E
  have e:=Aj e E
  cases hm;simp[e]
 rcases Pb (ieq a0 4) e with e|e
 ·simp[e]
  exact hk2 _ _ (by simp[e])
 rcases Pb (ieq a0 5) e with e|e
 ·simp[e]
  exact hk2 _ _ (by simp[e])
 rcases Pb (ieq a0 6) e with e|e
 ·simp[e]
  exact hk2 _ _ (by simp[e])
 simp[e]
 exact hk2 _ _ (by simp[e])


theorem rg_ref07_Shape : ∀ (n : Nat), C1 Tryz.prog 89 (ref07_Shape n) sB Fm.av := by
  intro n
  induction n with
  | zero =>
    skip
    all_goals (intro _ _;intros;rename_i hm;cases hm)
  | succ n ih =>
 intro T H a0 r hm
 rw [ref07_Shape] at hm
 have e:=trivial
 refine wi mixed Tryz.func89 [] [] 7 ?_
 rcases Io e hm with ⟨e,m⟩|⟨e,m⟩
 ·simp[e]
  refine Wj m 999 999 (fun j1 f h=>∃ (v2:Bool),(h=H∧f.1 2=sB v2)∧j1 v2=some r) (fun j1 K3 hk4 m=>?_) ?_
  rotate_left
  ·rintro fr5 h5 ⟨v2,E,m⟩
   have e:=Aj e E
   cases m;simp[e]
  rcases Io e m with ⟨e,m⟩|⟨e,m⟩
  rotate_left
  ·simp[e]
   exact hk4 _ _ ⟨false,by simp[e],m⟩
  obtain ⟨x6,e,m⟩:=Bo1 e m
  simp[e]
  refine Cf (r_ref01_Zero e.2) ?_
  rcases Io e m with ⟨e,m⟩|⟨e,m⟩
  rotate_left
  ·simp[e]
   exact hk4 _ _ ⟨false,by simp[e],m⟩
  rcases Io e m with ⟨e,m⟩|⟨e,m⟩
  rotate_left
  ·simp[e]
   exact hk4 _ _ ⟨false,by simp[e],m⟩
  obtain ⟨x7,e,m⟩:=Bo1 e m
  obtain ⟨x8,e,m⟩:=Bo1 e m
  simp[e]
  refine Cf (r_ref02_Shape e.2) ?_
  rcases Io e m with ⟨e,m⟩|⟨e,m⟩
  rotate_left
  ·simp[e]
   exact hk4 _ _ ⟨false,by simp[e],m⟩
  obtain ⟨x9,e,m⟩:=Bo1 e m
  obtain ⟨x10,e,m⟩:=Bo1 e m
  simp[e]
  refine Cf (r_ref02_Shape e.2) ?_
  simp[e]
  exact hk4 _ _ ⟨x10,by simp[e],m⟩
 simp[e]
 refine wj 999 0 (fun f h=>h=H∧f.1 1=AV.lptr 1 (f.gen 1) 0∧f.1 36=sB (sel (ieq a0.kind 2) true (ieq a0.kind 3))∧f.box 1=some (Fm.av a0).cells) (fun K11 hk12=>?_) ?_
 ·rcases Pb (ieq a0.kind 2) e with e|e
  ·simp[e]
   exact hk12 _ _ (by simp[e])
  simp[e]
  exact hk12 _ _ (by simp[e])
 rintro fr13 h13 E
 have e:=Aj e E
 rcases Io e m with ⟨e,m⟩|⟨e,m⟩
 rotate_left
 ·apply wg 3
  obtain ⟨x14,e,m⟩:=Bo1 e m
  simp[e]
  refine Cf (r_ref07_quantifier e.2) ?_
  simp[e]
  rcases Io e m with ⟨e,m⟩|⟨e,m⟩
  rotate_left
  ·apply wg 999
   cases m;simp[e]
  apply wg 1
  simp[e]
  refine Wj m 999 999 (fun j15 f h=>∃ (v16:Bool),(h=H∧f.1 2=sB v16)∧j15 v16=some r) (fun j15 K17 hk18 m=>?_) ?_
  rotate_left
  ·rintro fr19 h19 ⟨v16,E,m⟩
   have e:=Aj e E
   cases m;simp[e]
  rcases Io e m with ⟨e,m⟩|⟨e,m⟩
  rotate_left
  ·simp[e]
   exact hk18 _ _ ⟨false,by simp[e],m⟩
  obtain ⟨x20,e,m⟩:=Bo1 e m
  simp[e]
  refine Cf (r_ref01_Check e.2) ?_
  rcases Io e m with ⟨e,m⟩|⟨e,m⟩
  rotate_left
  ·simp[e]
   exact hk18 _ _ ⟨false,by simp[e],m⟩
  rcases Io e m with ⟨e,m⟩|⟨e,m⟩
  rotate_left
  ·simp[e]
   exact hk18 _ _ ⟨false,by simp[e],m⟩
  obtain ⟨x21,e,m⟩:=Bo1 e m
  obtain ⟨x22,e,m⟩:=Bo1 e m
  simp[e]
  refine Cf (ih e.2) ?_
  simp[e]
  exact hk18 _ _ ⟨x22,by simp[e],m⟩
 apply wg 1
 simp[e]
 refine Wj m 999 999 (fun j23 f h=>∃ (v24:Bool),(h=H∧f.1 2=sB v24)∧j23 v24=some r) (fun j23 K25 hk26 m=>?_) ?_
 rotate_left
 ·rintro fr27 h27 ⟨v24,E,m⟩
  have e:=Aj e E
  cases m;simp[e]
 rcases Io e m with ⟨e,m⟩|⟨e,m⟩
 rotate_left
 ·simp[e]
  exact hk26 _ _ ⟨false,by simp[e],m⟩
 obtain ⟨x28,e,m⟩:=Bo1 e m
 simp[e]
 refine Cf (r_ref01_Zero e.2) ?_
 rcases Io e m with ⟨e,m⟩|⟨e,m⟩
 rotate_left
 ·simp[e]
  exact hk26 _ _ ⟨false,by simp[e],m⟩
 rcases Io e m with ⟨e,m⟩|⟨e,m⟩
 rotate_left
 ·simp[e]
  exact hk26 _ _ ⟨false,by simp[e],m⟩
 obtain ⟨x29,e,m⟩:=Bo1 e m
 obtain ⟨x30,e,m⟩:=Bo1 e m
 simp[e]
 refine Cf (ih e.2) ?_
 rcases Io e m with ⟨e,m⟩|⟨e,m⟩
 rotate_left
 ·simp[e]
  exact hk26 _ _ ⟨false,by simp[e],m⟩
 obtain ⟨x31,e,m⟩:=Bo1 e m
 obtain ⟨x32,e,m⟩:=Bo1 e m
 simp[e]
 refine Cf (ih e.2) ?_
 simp[e]
 exact hk26 _ _ ⟨x32,by simp[e],m⟩
theorem r_ref07_Shape {n : Nat} : C1 Tryz.prog 89 (ref07_Shape n) sB Fm.av := (rg_ref07_Shape n)


theorem rg_ref02_Count : ∀ (n : Nat), C1 Tryz.prog 54 (ref02_Count n) sI Tm.av := by
  intro n
  induction n with
  | zero =>
    skip
    all_goals (intro _ _;intros;rename_i hm;cases hm)
  | succ n ih =>
 intro T H a0 r hm
 rw [ref02_Count] at hm
 have e:=trivial
 refine wi mixed Tryz.func54 [] [] 999 ?_
 simp[e]
 refine Wr e hm 999 (fun j1 s2 f h=>h=H∧f.1 3=sI s2∧f.1 7=sL Tm.av a0.args∧f.1 8=sI (llen a0.args)∧f.1 9=sI j1) (by simp[e]) (fun s2 fr3 h3 K4 E m=>?_) (fun j1 x5 s2 fr3 h3 K4 n6 c7 E e m z8 hK9=>?_)
 ·have e:=Aj e E
  dsimp only[sumK_inl]at m
  cases m;simp[e]
 have e:=Aj e E
 obtain ⟨x10,e,m⟩:=Bo1 e m
 simp[e]
 refine Cf (ih e.2) ?_
 simp[e]
 cases m;exact hK9 _ _ _ (by simp[e]) z8
theorem r_ref02_Count {n : Nat} : C1 Tryz.prog 54 (ref02_Count n) sI Tm.av := (rg_ref02_Count n)


theorem rg_ref07_Count : ∀ (n : Nat), C1 Tryz.prog 52 (ref07_Count n) sI Fm.av := by
  intro n
  induction n with
  | zero =>
    skip
    all_goals (intro _ _;intros;rename_i hm;cases hm)
  | succ n ih =>
 intro T H a0 r hm
 rw [ref07_Count] at hm
 have e:=trivial
 refine wi mixed Tryz.func52 [] [] 999 ?_
 simp[e]
 refine Wr e hm 999 (fun j1 s2 f h=>h=H∧f.1 1=AV.lptr 1 (f.gen 1) 0∧f.1 3=sI s2∧f.1 9=sL Tm.av a0.terms∧f.1 10=sI (llen a0.terms)∧f.1 11=sI j1∧f.box 1=some (Fm.av a0).cells) (by simp[e]) (fun s2 fr3 h3 K4 E m=>?_) (fun j1 x5 s2 fr3 h3 K4 n6 c7 E e m z8 hK9=>?_)
 rotate_left
 ·have e:=Aj e E
  obtain ⟨x10,e,m⟩:=Bo1 e m
  simp[e]
  refine Cf (r_ref02_Count e.2) ?_
  simp[e]
  cases m;exact hK9 _ _ _ (by simp[e]) z8
 have e:=Aj e E
 dsimp only[sumK_inl]at m
 simp[e]
 refine Wr e m 999 (fun j11 s12 f h=>h=H∧f.1 3=sI s12∧f.1 21=sL Fm.av a0.args∧f.1 22=sI (llen a0.args)∧f.1 23=sI j11) (by simp[e]) (fun s12 fr13 h13 K14 E m=>?_) (fun j11 x15 s12 fr13 h13 K14 n16 c17 E e m z18 hK19=>?_)
 ·have e:=Aj e E
  dsimp only[sumK_inl]at m
  cases m;simp[e]
 have e:=Aj e E
 obtain ⟨x20,e,m⟩:=Bo1 e m
 simp[e]
 refine Cf (ih e.2) ?_
 simp[e]
 cases m;exact hK19 _ _ _ (by simp[e]) z18
theorem r_ref07_Count {n : Nat} : C1 Tryz.prog 52 (ref07_Count n) sI Fm.av := (rg_ref07_Count n)

theorem r_ref07_Check : C1 Tryz.prog 49 ref07_Check sI Fm.av := by
 intro T H a0 r hm
 rw [ref07_Check] at hm
 have e:=trivial
 refine wi mixed Tryz.func49 [] [] 999 ?_
 obtain ⟨x1,e,m⟩:=Bo1 e hm
 simp[e]
 refine Cf (r_ref07_Shape e.2) ?_
 rcases Io e m with ⟨e,m⟩|⟨e,m⟩
 rotate_left
 ·cases m;simp[e]
 obtain ⟨x2,e,m⟩:=Bo1 e m
 simp[e]
 refine Cf (r_ref07_Count e.2) ?_
 rcases Io e m with ⟨e,m⟩|⟨e,m⟩
 ·cases m;simp[e]
 cases m;simp[e]


theorem rg_ref20_uniform : ∀ (n : Nat), C1 Tryz.prog 80 (ref20_uniform n) sB Fm.av := by
  intro n
  induction n with
  | zero =>
    skip
    all_goals (intro _ _;intros;rename_i hm;cases hm)
  | succ n ih =>
 intro T H a0 r hm
 rw [ref20_uniform] at hm
 have e:=trivial
 refine wi mixed Tryz.func80 [] [] 3 ?_
 simp[e]
 refine wj 999 999 (fun f h=>h=H∧f.1 1=AV.lptr 1 (f.gen 1) 0∧f.1 12=sB (sel (ieq a0.kind 6) true (ieq a0.kind 7))∧f.box 1=some (Fm.av a0).cells) (fun K1 hk2=>?_) ?_
 ·rcases Pb (ieq a0.kind 6) e with e|e
  ·simp[e]
   exact hk2 _ _ (by simp[e])
  simp[e]
  exact hk2 _ _ (by simp[e])
 rintro fr3 h3 E
 have e:=Aj e E
 rcases Io e hm with ⟨e,m⟩|⟨e,m⟩
 ·cases m;simp[e]
 simp[e]
 refine Wr e m 999 (fun j4 s5 f h=>h=H∧f.1 14=sL Fm.av a0.args∧f.1 15=sI (llen a0.args)∧f.1 16=sI j4) (by simp[e]) (fun s5 fr6 h6 K7 E m=>?_) (fun j4 x8 s5 fr6 h6 K7 n9 c10 E e m z11 hK12=>?_)
 ·have e:=Aj e E
  dsimp only[sumK_inl]at m
  cases m;simp[e]
 have e:=Aj e E
 obtain ⟨x13,e,m⟩:=Bo1 e m
 simp[e]
 refine Cf (ih e.2) ?_
 rcases Io e m with ⟨e,m⟩|⟨e,m⟩
 ·cases m;cases z11;simp[e]
 simp[e]
 cases m;exact hK12 _ _ _ (by simp[e]) z11
theorem r_ref20_uniform {n : Nat} : C1 Tryz.prog 80 (ref20_uniform n) sB Fm.av := (rg_ref20_uniform n)


theorem rg_ref03_Least : ∀ (n : Nat), C2 Tryz.prog 51 (ref03_Least n) sB Tm.av sI := by
  intro n
  induction n with
  | zero =>
    skip
    all_goals (intro _ _;intros;rename_i hm;cases hm)
  | succ n ih =>
 intro T H a0 a1 r hm
 rw [ref03_Least] at hm
 have e:=trivial
 refine wi mixed Tryz.func51 [] [] 999 ?_
 rcases Io e hm with ⟨e,m⟩|⟨e,m⟩
 ·cases m;simp[e]
 simp[e]
 refine Wr e m 999 (fun j1 s2 f h=>h=H∧f.1 1=sI a1∧f.1 12=sL Tm.av a0.args∧f.1 13=sI (llen a0.args)∧f.1 14=sI j1) (by simp[e]) (fun s2 fr3 h3 K4 E m=>?_) (fun j1 x5 s2 fr3 h3 K4 n6 c7 E e m z8 hK9=>?_)
 ·have e:=Aj e E
  dsimp only[sumK_inl]at m
  cases m;simp[e]
 have e:=Aj e E
 obtain ⟨x10,e,m⟩:=Bo1 e m
 simp[e]
 refine Cf (ih e.2) ?_
 rcases Io e m with ⟨e,m⟩|⟨e,m⟩
 rotate_left
 ·cases m;cases z8;simp[e]
 simp[e]
 cases m;exact hK9 _ _ _ (by simp[e]) z8
theorem r_ref03_Least {n : Nat} : C2 Tryz.prog 51 (ref03_Least n) sB Tm.av sI := (rg_ref03_Least n)


theorem rg_ref07_Least : ∀ (n : Nat), C2 Tryz.prog 50 (ref07_Least n) sB Fm.av sI := by
  intro n
  induction n with
  | zero =>
    skip
    all_goals (intro _ _;intros;rename_i hm;cases hm)
  | succ n ih =>
 intro T H a0 a1 r hm
 rw [ref07_Least] at hm
 have e:=trivial
 refine wi mixed Tryz.func50 [] [] 999 ?_
 simp[e]
 refine Wr e hm 999 (fun j1 s2 f h=>h=H∧f.1 1=sI a1∧f.1 2=AV.lptr 2 (f.gen 2) 0∧f.1 10=sL Tm.av a0.terms∧f.1 11=sI (llen a0.terms)∧f.1 12=sI j1∧f.box 2=some (Fm.av a0).cells) (by simp[e]) (fun s2 fr3 h3 K4 E m=>?_) (fun j1 x5 s2 fr3 h3 K4 n6 c7 E e m z8 hK9=>?_)
 rotate_left
 ·have e:=Aj e E
  obtain ⟨x10,e,m⟩:=Bo1 e m
  simp[e]
  refine Cf (r_ref03_Least e.2) ?_
  rcases Io e m with ⟨e,m⟩|⟨e,m⟩
  rotate_left
  ·cases m;cases z8;simp[e]
  simp[e]
  cases m;exact hK9 _ _ _ (by simp[e]) z8
 have e:=Aj e E
 dsimp only[sumK_inl]at m
 simp[e]
 refine Wr e m 999 (fun j11 s12 f h=>h=H∧f.1 1=sI a1∧f.1 22=sL Fm.av a0.args∧f.1 23=sI (llen a0.args)∧f.1 24=sI j11) (by simp[e]) (fun s12 fr13 h13 K14 E m=>?_) (fun j11 x15 s12 fr13 h13 K14 n16 c17 E e m z18 hK19=>?_)
 ·have e:=Aj e E
  dsimp only[sumK_inl]at m
  cases m;simp[e]
 have e:=Aj e E
 obtain ⟨x20,e,m⟩:=Bo1 e m
 simp[e]
 refine Cf (ih e.2) ?_
 rcases Io e m with ⟨e,m⟩|⟨e,m⟩
 rotate_left
 ·cases m;cases z18;simp[e]
 simp[e]
 cases m;exact hK19 _ _ _ (by simp[e]) z18
theorem r_ref07_Least {n : Nat} : C2 Tryz.prog 50 (ref07_Least n) sB Fm.av sI := (rg_ref07_Least n)

end Go.Proofs.YtanjokijgbgcpaaGreatDoor
