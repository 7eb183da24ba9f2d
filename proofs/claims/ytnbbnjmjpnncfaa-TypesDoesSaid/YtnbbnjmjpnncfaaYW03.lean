/- The program's functions do what the models say. -/
import Derived.Test.YtnbbnjmjpnncfaaYW02
import Derived.Test.YtnbbnjmjpnncfaaYM
import Derived.Test.YtnbbnjmjpnncfaaDat
set_option maxRecDepth 20000
set_option maxHeartbeats 4000000
set_option linter.unusedSimpArgs false
set_option linter.unusedVariables false
namespace Go.Proofs.Ytnbbnjmjpnncfaa
open Go Go.Abs Go.Mdl


theorem rg_tree_SameType : ∀ (n : Nat), C2 Try.prog 40 (tree_SameType n) sB Ty.av Ty.av := by
  intro n
  induction n with
  | zero =>
    skip
    all_goals (intro _ _;intros;rename_i hm;cases hm)
  | succ n ih =>
 intro T H a0 a1 r hm
 rw [tree_SameType] at hm
 have e:=trivial
 refine wi mixed Try.func40 [] [] 3 ?_
 simp[e]
 refine wj 999 999 (fun f h=>h=H∧f.1 2=AV.lptr 2 (f.gen 2) 0∧f.1 3=AV.lptr 3 (f.gen 3) 0∧f.1 20=sB (sel (ine a0.kind a1.kind) true (ine (llen a0.args) (llen a1.args)))∧f.box 2=some (Ty.av a0).cells∧f.box 3=some (Ty.av a1).cells) (fun K1 hk2=>?_) ?_
 ·rcases Pb (ine a0.kind a1.kind) e with e|e
  ·simp[e]
   exact hk2 _ _ (by simp[e])
  simp[e]
  exact hk2 _ _ (by simp[e])
 rintro fr3 h3 E
 have e:=Aj e E
 rcases Io e hm with ⟨e,m⟩|⟨e,m⟩
 ·cases m;simp[e]
 simp[e]
 refine Wr e m 999 (fun j4 s5 f h=>h=H∧f.1 3=AV.lptr 3 (f.gen 3) 0∧f.1 22=sL Ty.av a0.args∧f.1 23=sI (llen a0.args)∧f.1 24=sI j4∧f.box 3=some (Ty.av a1).cells) (by simp[e]) (fun s5 fr6 h6 K7 E m=>?_) (fun j4 x8 s5 fr6 h6 K7 n9 c10 E e m z11 hK12=>?_)
 ·have e:=Aj e E
  dsimp only[sumK_inl]at m
  cases m;simp[e]
 have e:=Aj e E
 obtain ⟨x13,e,m⟩:=Bo1 e m
 obtain ⟨x14,e,m⟩:=Bo1 e m
 simp[e]
 refine Cs (ih e.2) ?_
 rcases Io e m with ⟨e,m⟩|⟨e,m⟩
 rotate_left
 ·cases m;cases z11;simp[e]
 simp[e]
 cases m;exact hK12 _ _ _ (by simp[e]) z11
theorem r_tree_SameType {n : Nat} : C2 Try.prog 40 (tree_SameType n) sB Ty.av Ty.av := (rg_tree_SameType n)

theorem r_types_Same : C2 Try.prog 15 types_Same sB Ty.av Ty.av := by
 intro T H a0 a1 r hm
 rw [types_Same] at hm
 have e:=trivial
 refine wi mixed Try.func15 [] [] 999 ?_
 obtain ⟨x1,e,m⟩:=Bo1 e hm
 simp[e]
 refine Cf (r_tree_SameType e.2) ?_
 cases m;simp[e]


theorem r_law01_TypesFunctions (T : Tabs) {a0 : (List Int)} {r0 : Bool} (hm : law01_TypesFunctions a0 = some r0) : ACallP Try.prog T 4 [sL sI a0] [] (fun x _ => x = sB r0) := by
 rw [law01_TypesFunctions] at hm
 have e:=trivial
 refine wi mixed Try.func4 [] [] 5 ?_
 obtain ⟨x1,e,m⟩:=Bo1 e hm
 simp[e]
 refine Cf (r_law01_sane e.2) ?_
 simp[e]
 rcases Io e m with ⟨e,m⟩|⟨e,m⟩
 rotate_left
 ·apply wg 999
  cases m;simp[e]
 apply wg 5
 obtain ⟨x2,e,m⟩:=Bo1 e m
 simp[e]
 refine Cf (r_mk_Few e.2) ?_
 simp[e]
 rcases Io e m with ⟨e,m⟩|⟨e,m⟩
 rotate_left
 ·apply wg 999
  cases m;simp[e]
 apply wg 14
 obtain ⟨x3,e,m⟩:=Bo1 e m
 simp[e]
 refine Cf (r_mk_New T e.2) ?_
 obtain ⟨x4,d5,e,m⟩:=Bo2 e m
 simp[e]
 refine Cf (r_mk_Type T (by simp[e]) e.2) ?_
 obtain ⟨x6,x7,x8,e,m⟩:=Bo3 e m
 simp[e]
 refine Cf (r_types_Result e.2) ?_
 obtain ⟨x9,x10,e,m⟩:=Bo2 e m
 simp[e]
 refine Cf (r_types_Function e.2) ?_
 obtain ⟨x11,x12,e,m⟩:=Bo2 e m
 simp[e]
 refine Cf (r_types_Level e.2) ?_
 obtain ⟨x13,x14,e,m⟩:=Bo2 e m
 simp[e]
 refine Cf (r_types_Data T e.2) ?_
 simp[e]
 refine Wj m 999 999 (fun j15 f h=>∃ (v16:Bool),(h=hset [[]] 0 [sL sI d5.l,sI d5.atF]∧f.1 2=sB v16)∧j15 v16=some r0) (fun j15 K17 hk18 m=>?_) ?_
 rotate_left
 ·rintro fr19 h19 ⟨v16,E,m⟩
  have e:=Aj e E
  cases m;simp[e]
 rcases Io e m with ⟨e,m⟩|⟨e,m⟩
 rotate_left
 ·simp[e]
  exact hk18 _ _ ⟨false,by simp[e],m⟩
 rcases Io e m with ⟨e,m⟩|⟨e,m⟩
 rotate_left
 ·simp[e]
  exact hk18 _ _ ⟨false,by simp[e],m⟩
 rcases Io e m with ⟨e,m⟩|⟨e,m⟩
 rotate_left
 ·simp[e]
  exact hk18 _ _ ⟨false,by simp[e],m⟩
 rcases Io e m with ⟨e,m⟩|⟨e,m⟩
 rotate_left
 ·simp[e]
  exact hk18 _ _ ⟨false,by simp[e],m⟩
 obtain ⟨x20,e,m⟩:=Bo1 e m
 simp[e]
 refine Cf (r_types_Same e.2) ?_
 rcases Io e m with ⟨e,m⟩|⟨e,m⟩
 rotate_left
 ·simp[e]
  exact hk18 _ _ ⟨false,by simp[e],m⟩
 rcases Io e m with ⟨e,m⟩|⟨e,m⟩
 rotate_left
 ·simp[e]
  exact hk18 _ _ ⟨false,by simp[e],m⟩
 simp[e]
 exact hk18 _ _ ⟨(ine x7.kind 4),by simp[e],m⟩


theorem rg_mk_CountType : ∀ (n : Nat), C2 Try.prog 49 (mk_CountType n) sI Ty.av sI := by
  intro n
  induction n with
  | zero =>
    skip
    all_goals (intro _ _;intros;rename_i hm;cases hm)
  | succ n ih =>
 intro T H a0 a1 r hm
 rw [mk_CountType] at hm
 have e:=trivial
 refine wi mixed Try.func49 [] [] 999 ?_
 simp[e]
 refine Wn hm 1 (fun s1 f h=>h=H∧f.1 1=sI a1∧f.1 2=AV.lptr 2 (f.gen 2) 0∧f.1 5=sI s1.1∧f.1 6=sI s1.2∧f.box 2=some (Ty.av a0).cells) (by simp[e]) (fun s1 fr2 h2 K3 n4 c5 E m z6 hK7=>?_)
 obtain ⟨v8,v9⟩:=s1
 have e:=Aj e E
 dsimp only[un2_mk]at m
 simp[e]
 refine wj 999 999 (fun f h=>h=H∧f.1 1=sI a1∧f.1 2=AV.lptr 2 (f.gen 2) 0∧f.1 5=sI v8∧f.1 6=sI v9∧f.1 16=sB (sel (ilt v9 (llen a0.args)) (ile v8 a1) false)∧f.box 2=some (Ty.av a0).cells) (fun K10 hk11=>?_) ?_
 ·rcases Pb (ilt v9 (llen a0.args)) e with e|e
  ·simp[e]
   exact hk11 _ _ (by simp[e])
  simp[e]
  exact hk11 _ _ (by simp[e])
 rintro fr12 h12 E
 have e:=Aj e E
 rcases Io e m with ⟨e,m⟩|⟨e,m⟩
 rotate_left
 ·cases m
  have m:=Qb z6
  dsimp only[un2_mk]at m
  cases m;simp[e]
 obtain ⟨x13,e,m⟩:=Bo1 e m
 obtain ⟨x14,e,m⟩:=Bo1 e m
 simp[e]
 refine Cf (ih e.2) ?_
 simp[e]
 cases m;exact hK7 _ _ _ (by simp[e]) z6
theorem r_mk_CountType {n : Nat} : C2 Try.prog 49 (mk_CountType n) sI Ty.av sI := (rg_mk_CountType n)

theorem r_law01_nodes : C1 Try.prog 41 law01_nodes sI Ty.av := by
 intro T H a0 r hm
 rw [law01_nodes] at hm
 have e:=trivial
 refine wi mixed Try.func41 [] [] 999 ?_
 obtain ⟨x1,e,m⟩:=Bo1 e hm
 simp[e]
 refine Cf (r_mk_CountType e.2) ?_
 cases m;simp[e]

theorem r_law01_few : C1 Try.prog 16 law01_few sB (sL Ty.av) := by
 intro T H a0 r hm
 rw [law01_few] at hm
 have e:=trivial
 refine wi mixed Try.func16 [] [] 999 ?_
 simp[e]
 refine Wr e hm 999 (fun j1 s2 f h=>h=H∧f.1 3=sI s2∧f.1 6=sL Ty.av a0∧f.1 7=sI (llen a0)∧f.1 8=sI j1) (by simp[e]) (fun s2 fr3 h3 K4 E m=>?_) (fun j1 x5 s2 fr3 h3 K4 n6 c7 E e m z8 hK9=>?_)
 ·have e:=Aj e E
  dsimp only[sumK_inl]at m
  cases m;simp[e]
 have e:=Aj e E
 obtain ⟨x10,e,m⟩:=Bo1 e m
 simp[e]
 refine Cf (r_law01_nodes e.2) ?_
 simp[e]
 cases m;exact hK9 _ _ _ (by simp[e]) z8


theorem rg_ref01_shape : ∀ (n : Nat), C1 Try.prog 45 (ref01_shape n) sB Ty.av := by
  intro n
  induction n with
  | zero =>
    skip
    all_goals (intro _ _;intros;rename_i hm;cases hm)
  | succ n ih =>
 intro T H a0 r hm
 rw [ref01_shape] at hm
 have e:=trivial
 refine wi mixed Try.func45 [] [] 4 ?_
 simp[e]
 refine Wj hm 3 999 (fun j1 f h=>∃ (v2:Int),(h=H∧f.1 1=AV.lptr 1 (f.gen 1) 0∧f.1 3=sI v2∧f.box 1=some (Ty.av a0).cells)∧j1 v2=some r) (fun j1 K3 hk4 m=>?_) ?_
 rotate_left
 ·rintro fr5 h5 ⟨v2,E,m⟩
  have e:=Aj e E
  rcases Io e m with ⟨e,m⟩|⟨e,m⟩
  ·cases m;simp[e]
  simp[e]
  refine Wr e m 999 (fun j6 s7 f h=>h=H∧f.1 21=sL Ty.av a0.args∧f.1 22=sI (llen a0.args)∧f.1 23=sI j6) (by simp[e]) (fun s7 fr8 h8 K9 E m=>?_) (fun j6 x10 s7 fr8 h8 K9 n11 c12 E e m z13 hK14=>?_)
  ·have e:=Aj e E
   dsimp only[sumK_inl]at m
   cases m;simp[e]
  have e:=Aj e E
  obtain ⟨x15,e,m⟩:=Bo1 e m
  simp[e]
  refine Cf (ih e.2) ?_
  rcases Io e m with ⟨e,m⟩|⟨e,m⟩
  rotate_left
  ·cases m;cases z13;simp[e]
  simp[e]
  cases m;exact hK14 _ _ _ (by simp[e]) z13
 simp[e]
 refine wj 999 0 (fun f h=>h=H∧f.1 1=AV.lptr 1 (f.gen 1) 0∧f.1 3=sI 0∧f.1 7=sI a0.kind∧f.1 8=sB (sel (ieq a0.kind 1) true (sel (ieq a0.kind 2) true (ieq a0.kind 5)))∧f.box 1=some (Ty.av a0).cells) (fun K16 hk17=>?_) ?_
 ·rcases Pb (ieq a0.kind 1) e with e|e
  ·simp[e]
   exact hk17 _ _ (by simp[e])
  rcases Pb (ieq a0.kind 2) e with e|e
  ·simp[e]
   exact hk17 _ _ (by simp[e])
  simp[e]
  exact hk17 _ _ (by simp[e])
 rintro fr18 h18 E
 have e:=Aj e E
 rcases Io e m with ⟨e,m⟩|⟨e,m⟩
 ·apply wg 999
  simp[e]
  exact hk4 _ _ ⟨0,by simp[e],m⟩
 apply wg 1
 simp[e]
 refine wj 999 999 (fun f h=>h=H∧f.1 1=AV.lptr 1 (f.gen 1) 0∧f.1 12=sB (sel (ieq a0.kind 3) true (ieq a0.kind 4))∧f.box 1=some (Ty.av a0).cells) (fun K19 hk20=>?_) ?_
 ·rcases Pb (ieq a0.kind 3) e with e|e
  ·simp[e]
   exact hk20 _ _ (by simp[e])
  simp[e]
  exact hk20 _ _ (by simp[e])
 rintro fr21 h21 E
 have e:=Aj e E
 rcases Io e m with ⟨e,m⟩|⟨e,m⟩
 rotate_left
 ·cases m;simp[e]
 simp[e]
 exact hk4 _ _ ⟨2,by simp[e],m⟩
theorem r_ref01_shape {n : Nat} : C1 Try.prog 45 (ref01_shape n) sB Ty.av := (rg_ref01_shape n)


theorem rg_ref01_size : ∀ (n : Nat), C1 Try.prog 43 (ref01_size n) sI Ty.av := by
  intro n
  induction n with
  | zero =>
    skip
    all_goals (intro _ _;intros;rename_i hm;cases hm)
  | succ n ih =>
 intro T H a0 r hm
 rw [ref01_size] at hm
 have e:=trivial
 refine wi mixed Try.func43 [] [] 999 ?_
 simp[e]
 refine Wr e hm 999 (fun j1 s2 f h=>h=H∧f.1 3=sI s2∧f.1 7=sL Ty.av a0.args∧f.1 8=sI (llen a0.args)∧f.1 9=sI j1) (by simp[e]) (fun s2 fr3 h3 K4 E m=>?_) (fun j1 x5 s2 fr3 h3 K4 n6 c7 E e m z8 hK9=>?_)
 ·have e:=Aj e E
  dsimp only[sumK_inl]at m
  cases m;simp[e]
 have e:=Aj e E
 obtain ⟨x10,e,m⟩:=Bo1 e m
 simp[e]
 refine Cf (ih e.2) ?_
 simp[e]
 cases m;exact hK9 _ _ _ (by simp[e]) z8
theorem r_ref01_size {n : Nat} : C1 Try.prog 43 (ref01_size n) sI Ty.av := (rg_ref01_size n)

theorem r_ref01_Check : C1 Try.prog 23 ref01_Check sI Ty.av := by
 intro T H a0 r hm
 rw [ref01_Check] at hm
 have e:=trivial
 refine wi mixed Try.func23 [] [] 999 ?_
 obtain ⟨x1,e,m⟩:=Bo1 e hm
 simp[e]
 refine Cf (r_ref01_shape e.2) ?_
 rcases Io e m with ⟨e,m⟩|⟨e,m⟩
 rotate_left
 ·cases m;simp[e]
 obtain ⟨x2,e,m⟩:=Bo1 e m
 simp[e]
 refine Cf (r_ref01_size e.2) ?_
 rcases Io e m with ⟨e,m⟩|⟨e,m⟩
 ·cases m;simp[e]
 cases m;simp[e]

theorem r_ref01_Size : C1 Try.prog 18 ref01_Size (t2 sI sI) Ty.av := by
 intro T H a0 r hm
 rw [ref01_Size] at hm
 have e:=trivial
 refine wi mixed Try.func18 [] [] 999 ?_
 obtain ⟨x1,e,m⟩:=Bo1 e hm
 simp[e]
 refine Cf (r_ref01_Check e.2) ?_
 rcases Io e m with ⟨e,m⟩|⟨e,m⟩
 ·cases m;simp[e]
 obtain ⟨x2,e,m⟩:=Bo1 e m
 simp[e]
 refine Cf (r_ref01_size e.2) ?_
 cases m;simp[e]


theorem rg_ref01_level : ∀ (n : Nat), C1 Try.prog 44 (ref01_level n) sI Ty.av := by
  intro n
  induction n with
  | zero =>
    skip
    all_goals (intro _ _;intros;rename_i hm;cases hm)
  | succ n ih =>
 intro T H a0 r hm
 rw [ref01_level] at hm
 have e:=trivial
 refine wi mixed Try.func44 [] [] 999 ?_
 rcases Io e hm with ⟨e,m⟩|⟨e,m⟩
 ·obtain ⟨x1,e,m⟩:=Bo1 e m
  obtain ⟨x2,e,m⟩:=Bo1 e m
  simp[e]
  refine Cs (ih e.2) ?_
  obtain ⟨x3,e,m⟩:=Bo1 e m
  obtain ⟨x4,e,m⟩:=Bo1 e m
  simp[e]
  refine Cs (ih e.2) ?_
  cases m;simp[e]
 rcases Io e m with ⟨e,m⟩|⟨e,m⟩
 rotate_left
 ·cases m;simp[e]
 obtain ⟨x5,e,m⟩:=Bo1 e m
 obtain ⟨x6,e,m⟩:=Bo1 e m
 simp[e]
 refine Cs (ih e.2) ?_
 obtain ⟨x7,e,m⟩:=Bo1 e m
 obtain ⟨x8,e,m⟩:=Bo1 e m
 simp[e]
 refine Cs (ih e.2) ?_
 cases m;simp[e]
theorem r_ref01_level {n : Nat} : C1 Try.prog 44 (ref01_level n) sI Ty.av := (rg_ref01_level n)

theorem r_ref01_Level : C1 Try.prog 19 ref01_Level (t2 sI sI) Ty.av := by
 intro T H a0 r hm
 rw [ref01_Level] at hm
 have e:=trivial
 refine wi mixed Try.func19 [] [] 999 ?_
 obtain ⟨x1,e,m⟩:=Bo1 e hm
 simp[e]
 refine Cf (r_ref01_Check e.2) ?_
 rcases Io e m with ⟨e,m⟩|⟨e,m⟩
 ·cases m;simp[e]
 obtain ⟨x2,e,m⟩:=Bo1 e m
 simp[e]
 refine Cf (r_ref01_level e.2) ?_
 cases m;simp[e]

end Go.Proofs.Ytnbbnjmjpnncfaa
