/- The program's functions do what the models say. -/
import Derived.Test.YtanjokijgbgcpaaGreatDoorTW08
import Derived.Test.YtanjokijgbgcpaaGreatDoorTM
set_option maxRecDepth 20000
set_option maxHeartbeats 4000000
set_option linter.unusedSimpArgs false
set_option linter.unusedVariables false
namespace Go.Proofs.YtanjokijgbgcpaaGreatDoor
open Go Go.Abs Go.Mdl


theorem rg_ref20_count : ∀ (n : Nat), C2 Tryz.prog 81 (ref20_count n) sI Fm.av sI := by
  intro n
  induction n with
  | zero =>
    skip
    all_goals (intro _ _;intros;rename_i hm;cases hm)
  | succ n ih =>
 intro T H a0 a1 r hm
 rw [ref20_count] at hm
 have e:=trivial
 refine wi mixed Tryz.func81 [] [] 4 ?_
 simp[e]
 refine Wj hm 999 999 (fun j1 f h=>∃ (v2:Int),(h=H∧f.1 5=sI v2)∧j1 v2=some r) (fun j1 K3 hk4 m=>?_) ?_
 rotate_left
 ·rintro fr5 h5 ⟨v2,E,m⟩
  have e:=Aj e E
  cases m;simp[e]
 rcases Io e m with ⟨e,m⟩|⟨e,m⟩
 ·obtain ⟨x6,e,m⟩:=Bo1 e m
  simp[e]
  refine Cf (r_ref07_Count e.2) ?_
  simp[e]
  exact hk4 _ _ ⟨(iadd .i64 (iadd .i64 x6 (imul .i64 2 a1)) 2),by simp[e],m⟩
 rcases Io e m with ⟨e,m⟩|⟨e,m⟩
 ·obtain ⟨x7,e,m⟩:=Bo1 e m
  obtain ⟨x8,e,m⟩:=Bo1 e m
  simp[e]
  refine Cf (ih e.2) ?_
  simp[e]
  exact hk4 _ _ ⟨(iadd .i64 (iadd .i64 x8 (imul .i64 2 a1)) 3),by simp[e],m⟩
 simp[e]
 refine Wr e m 999 (fun j9 s10 f h=>h=H∧f.1 1=sI a1∧f.1 5=sI s10∧f.1 11=sL Fm.av a0.args∧f.1 12=sI (llen a0.args)∧f.1 13=sI j9) (by simp[e]) (fun s10 fr11 h11 K12 E m=>?_) (fun j9 x13 s10 fr11 h11 K12 n14 c15 E e m z16 hK17=>?_)
 ·have e:=Aj e E
  dsimp only[sumK_inl]at m
  simp[e]
  exact hk4 _ _ ⟨s10,by simp[e],m⟩
 have e:=Aj e E
 obtain ⟨x18,e,m⟩:=Bo1 e m
 simp[e]
 refine Cf (ih e.2) ?_
 simp[e]
 cases m;exact hK17 _ _ _ (by simp[e]) z16
theorem r_ref20_count {n : Nat} : C2 Tryz.prog 81 (ref20_count n) sI Fm.av sI := (rg_ref20_count n)

theorem r_ref20_checked : C2 Tryz.prog 33 ref20_checked sI Fm.av Fm.av := by
 intro T H a0 a1 r hm
 rw [ref20_checked] at hm
 have e:=trivial
 refine wi mixed Tryz.func33 [] [] 999 ?_
 obtain ⟨x1,e,m⟩:=Bo1 e hm
 simp[e]
 refine Cf (r_ref07_Check e.2) ?_
 rcases Io e m with ⟨e,m⟩|⟨e,m⟩
 ·cases m;simp[e]
 obtain ⟨x2,e,m⟩:=Bo1 e m
 simp[e]
 refine Cf (r_ref07_Check e.2) ?_
 rcases Io e m with ⟨e,m⟩|⟨e,m⟩
 ·cases m;simp[e]
 obtain ⟨x3,e,m⟩:=Bo1 e m
 simp[e]
 refine Cf (r_ref20_uniform e.2) ?_
 rcases Io e m with ⟨e,m⟩|⟨e,m⟩
 ·cases m;simp[e]
 obtain ⟨x4,e,m⟩:=Bo1 e m
 simp[e]
 refine Cf (r_ref07_Least e.2) ?_
 rcases Io e m with ⟨e,m⟩|⟨e,m⟩
 rotate_left
 ·cases m;simp[e]
 obtain ⟨x5,e,m⟩:=Bo1 e m
 simp[e]
 refine Cs (r_ref07_Count e.2) ?_
 obtain ⟨x6,e,m⟩:=Bo1 e m
 simp[e]
 refine Cs (r_ref20_count e.2) ?_
 rcases Io e m with ⟨e,m⟩|⟨e,m⟩
 ·cases m;simp[e]
 cases m;simp[e]

theorem r_ref20_imp : C2 Tryz.prog 82 ref20_imp Fm.av Fm.av Fm.av := by
 intro T H a0 a1 r hm
 rw [ref20_imp] at hm
 have e:=trivial
 refine wi mixed Tryz.func82 [] [] 999 ?_
 obtain ⟨x1,e,m⟩:=Bo1 e hm
 simp[e]
 refine Cf (r_ref07_Two e.2) ?_
 cases m;simp[e]

theorem r_ref03_below : C1 Tryz.prog 107 ref03_below sI Tm.av := by
 intro T H a0 r hm
 rw [ref03_below] at hm
 have e:=trivial
 refine wi mixed Tryz.func107 [] [] 999 ?_
 rcases Io e hm with ⟨e,m⟩|⟨e,m⟩
 ·cases m;simp[e]
 cases m;simp[e]


theorem rg_ref03_Up : ∀ (n : Nat), C3 Tryz.prog 108 (ref03_Up n) Tm.av Tm.av sI sI := by
  intro n
  induction n with
  | zero =>
    skip
    all_goals (intro _ _;intros;rename_i hm;cases hm)
  | succ n ih =>
 intro T H a0 a1 a2 r hm
 rw [ref03_Up] at hm
 have e:=trivial
 refine wi mixed Tryz.func108 [] [] 4 ?_
 simp[e]
 refine wj 0 999 (fun f h=>h=H∧f.1 1=sI a1∧f.1 2=sI a2∧f.1 3=AV.lptr 3 (f.gen 3) 0∧f.1 6=AV.lptr 6 (f.gen 6) 0∧f.1 7=AV.lptr 7 (f.gen 7) 0∧f.box 3=some (Tm.av a0).cells∧f.box 6=some [sI 0,sI 0,sI 0,AV.slice .full [],AV.slice .full []]∧f.box 7=some [sI a0.kind,sI (sel (sel (ieq a0.kind 1) (ige a0.index a1) false) (iadd .i64 a0.index a2) a0.index),sI a0.typeF.kind,sL Ty.av a0.typeF.args,AV.slice .full []]) (fun K1 hk2=>?_) ?_
 ·refine wj 999 999 (fun f h=>h=H∧f.1 1=sI a1∧f.1 2=sI a2∧f.1 3=AV.lptr 3 (f.gen 3) 0∧f.1 6=AV.lptr 6 (f.gen 6) 0∧f.1 7=AV.lptr 7 (f.gen 7) 0∧f.1 25=sB (sel (ieq a0.kind 1) (ige a0.index a1) false)∧f.box 3=some (Tm.av a0).cells∧f.box 6=some [sI 0,sI 0,sI 0,AV.slice .full [],AV.slice .full []]∧f.box 7=some [sI a0.kind,sI a0.index,sI a0.typeF.kind,sL Ty.av a0.typeF.args,AV.slice .full []]) (fun K3 hk4=>?_) ?_
  ·rcases Pb (ieq a0.kind 1) e with e|e
   ·simp[e]
    exact hk4 _ _ (by simp[e])
   simp[e]
   exact hk4 _ _ (by simp[e])
  rintro fr5 h5 E
  have e:=Aj e E
  rcases Pb (sel (ieq a0.kind 1) (ige a0.index a1) false) e with e|e
  ·simp[e]
   exact hk2 _ _ (by simp[e])
  simp[e]
  exact hk2 _ _ (by simp[e])
 rintro fr6 h6 E
 have e:=Aj e E
 simp[e]
 refine Wr e hm 999 (fun j7 s8 f h=>∃ (tg0_9:Tag),(h=H∧f.1 1=sI a1∧f.1 2=sI a2∧f.1 3=AV.lptr 3 (f.gen 3) 0∧f.1 6=AV.lptr 6 (f.gen 6) 0∧f.1 7=AV.lptr 7 (f.gen 7) 0∧f.1 32=sL Tm.av a0.args∧f.1 33=sI (llen a0.args)∧f.1 34=sI j7∧f.box 3=some (Tm.av a0).cells∧f.box 6=some [sI 0,sI 0,sI 0,AV.slice .full [],AV.slice .full []]∧f.box 7=some [sI a0.kind,sI (sel (sel (ieq a0.kind 1) (ige a0.index a1) false) (iadd .i64 a0.index a2) a0.index),sI a0.typeF.kind,sL Ty.av a0.typeF.args,sT tg0_9 Tm.av s8])∧Ow f [48] tg0_9 s8) (by exact ⟨.full,by simp[e],OwnT.full⟩) (fun s8 fr9 h9 K10 E m=>?_) (fun j7 x11 s8 fr9 h9 K10 n12 c13 E e m z14 hK15=>?_)
 ·obtain ⟨tg0_9,E,o0_9⟩:=E
  have e:=Aj e E
  dsimp only[sumK_inl]at m
  cases m;simp[e]
 obtain ⟨tg0_9,E,o0_9⟩:=E
 have e:=Aj e E
 obtain ⟨x16,e,m⟩:=Bo1 e m
 simp[e]
 refine Cs (r_ref03_below e.2) ?_
 obtain ⟨x17,e,m⟩:=Bo1 e m
 simp[e]
 refine Cs (ih e.2) ?_
 obtain ⟨e,m⟩:=Ck e m
 simp[e]
 refine Ad (f:=Tm.av) s8 [x17] o0_9 ap26 e.2 ?_
 simp[e]
 cases m;exact hK15 _ _ _ ⟨(.loc 48 (fr9.tgen 48 + 1)),by simp[e],(On 48)⟩ z14
theorem r_ref03_Up {n : Nat} : C3 Tryz.prog 108 (ref03_Up n) Tm.av Tm.av sI sI := (rg_ref03_Up n)

theorem r_ref07_below : C1 Tryz.prog 91 ref07_below sI Fm.av := by
 intro T H a0 r hm
 rw [ref07_below] at hm
 have e:=trivial
 refine wi mixed Tryz.func91 [] [] 999 ?_
 obtain ⟨x1,e,m⟩:=Bo1 e hm
 simp[e]
 refine Cf (r_ref07_quantifier e.2) ?_
 rcases Io e m with ⟨e,m⟩|⟨e,m⟩
 ·cases m;simp[e]
 cases m;simp[e]


theorem rg_ref07_Up : ∀ (n : Nat), C3 Tryz.prog 105 (ref07_Up n) Fm.av Fm.av sI sI := by
  intro n
  induction n with
  | zero =>
    skip
    all_goals (intro _ _;intros;rename_i hm;cases hm)
  | succ n ih =>
 intro T H a0 a1 a2 r hm
 rw [ref07_Up] at hm
 have e:=trivial
 refine wi mixed Tryz.func105 [] [] 999 ?_
 simp[e]
 refine Wr e hm 999 (fun j1 s2 f h=>∃ (tg0_3:Tag),(h=H∧f.1 1=sI a1∧f.1 2=sI a2∧f.1 3=AV.lptr 3 (f.gen 3) 0∧f.1 6=AV.lptr 6 (f.gen 6) 0∧f.1 7=AV.lptr 7 (f.gen 7) 0∧f.1 18=sL Tm.av a0.terms∧f.1 19=sI (llen a0.terms)∧f.1 20=sI j1∧f.box 3=some (Fm.av a0).cells∧f.box 6=some [sI 0,sI 0,AV.slice .full [],AV.slice .full [],AV.slice .full []]∧f.box 7=some [sI a0.kind,sI a0.typeF.kind,sL Ty.av a0.typeF.args,sT tg0_3 Tm.av s2,AV.slice .full []])∧Ow f [31] tg0_3 s2) (by exact ⟨.full,by simp[e],OwnT.full⟩) (fun s2 fr3 h3 K4 E m=>?_) (fun j1 x5 s2 fr3 h3 K4 n6 c7 E e m z8 hK9=>?_)
 rotate_left
 ·obtain ⟨tg0_3,E,o0_3⟩:=E
  have e:=Aj e E
  obtain ⟨x10,e,m⟩:=Bo1 e m
  simp[e]
  refine Cs (r_ref03_Up e.2) ?_
  obtain ⟨e,m⟩:=Ck e m
  simp[e]
  refine Ad (f:=Tm.av) s2 [x10] o0_3 ap26 e.2 ?_
  simp[e]
  cases m;exact hK9 _ _ _ ⟨(.loc 31 (fr3.tgen 31 + 1)),by simp[e],(On 31)⟩ z8
 obtain ⟨tg0_3,E,o0_3⟩:=E
 have e:=Aj e E
 dsimp only[sumK_inl]at m
 simp[e]
 refine Wr e m 999 (fun j11 s12 f h=>∃ (tg0_13:Tag) (tg1_13:Tag),(h=H∧f.1 1=sI a1∧f.1 2=sI a2∧f.1 3=AV.lptr 3 (f.gen 3) 0∧f.1 6=AV.lptr 6 (f.gen 6) 0∧f.1 7=AV.lptr 7 (f.gen 7) 0∧f.1 35=sL Fm.av a0.args∧f.1 36=sI (llen a0.args)∧f.1 37=sI j11∧f.box 3=some (Fm.av a0).cells∧f.box 6=some [sI 0,sI 0,AV.slice .full [],AV.slice .full [],AV.slice .full []]∧f.box 7=some [sI a0.kind,sI a0.typeF.kind,sL Ty.av a0.typeF.args,sT tg0_13 Tm.av s2,sT tg1_13 Fm.av s12])∧Ow f [31] tg0_13 s2∧Ow f [51] tg1_13 s12) (by exact ⟨tg0_3,.full,by simp[e],o0_3,OwnT.full⟩) (fun s12 fr13 h13 K14 E m=>?_) (fun j11 x15 s12 fr13 h13 K14 n16 c17 E e m z18 hK19=>?_)
 ·obtain ⟨tg0_13,tg1_13,E,o0_13,o1_13⟩:=E
  have e:=Aj e E
  dsimp only[sumK_inl]at m
  cases m;simp[e]
 obtain ⟨tg0_13,tg1_13,E,o0_13,o1_13⟩:=E
 have e:=Aj e E
 obtain ⟨x20,e,m⟩:=Bo1 e m
 simp[e]
 refine Cs (r_ref07_below e.2) ?_
 obtain ⟨x21,e,m⟩:=Bo1 e m
 simp[e]
 refine Cs (ih e.2) ?_
 obtain ⟨e,m⟩:=Ck e m
 simp[e]
 refine Ad (f:=Fm.av) s12 [x21] o1_13 ap27 e.2 ?_
 simp[e]
 cases m;exact hK19 _ _ _ ⟨tg0_13,(.loc 51 (fr13.tgen 51 + 1)),by simp[e],(OwnT.other o0_13 o1_13 (by decide) (by decide)),(On 51)⟩ z18
theorem r_ref07_Up {n : Nat} : C3 Tryz.prog 105 (ref07_Up n) Fm.av Fm.av sI sI := (rg_ref07_Up n)

theorem r_ref20_up : C1 Tryz.prog 83 ref20_up Fm.av Fm.av := by
 intro T H a0 r hm
 rw [ref20_up] at hm
 have e:=trivial
 refine wi mixed Tryz.func83 [] [] 999 ?_
 obtain ⟨x1,e,m⟩:=Bo1 e hm
 simp[e]
 refine Cf (r_ref07_Up e.2) ?_
 cases m;simp[e]


theorem rg_ref20_T : ∀ (n : Nat), C2 Tryz.prog 35 (ref20_T n) Fm.av Fm.av Fm.av ∧ C2 Tryz.prog 84 (ref20_premise n) Fm.av Fm.av Fm.av := by
  intro n
  induction n with
  | zero =>
    refine ⟨?_, ?_⟩
    all_goals (intro _ _;intros;rename_i hm;cases hm)
  | succ n ih =>
 refine⟨?_,?_⟩
 ·intro T H a0 a1 r hm
  rw [ref20_T] at hm
  have e:=trivial
  refine wi mixed Tryz.func35 [] [] 8 ?_
  simp[e]
  rcases Io e hm with ⟨e,m⟩|⟨e,m⟩
  ·apply wg 999
   obtain ⟨x1,e,m⟩:=Bo1 e m
   simp[e]
   refine Cs (r_ref20_imp e.2) ?_
   obtain ⟨x2,e,m⟩:=Bo1 e m
   simp[e]
   refine Cs (r_ref20_imp e.2) ?_
   cases m;simp[e]
  apply wg 1
  simp[e]
  refine wj 999 999 (fun f h=>h=H∧f.1 2=AV.lptr 2 (f.gen 2) 0∧f.1 3=AV.lptr 3 (f.gen 3) 0∧f.1 4=AV.lptr 4 (f.gen 4) 0∧f.1 6=sI a1.kind∧f.1 14=sB (sel (ieq a1.kind 2) true (ieq a1.kind 3))∧f.box 2=some (Fm.av a0).cells∧f.box 3=some (Fm.av a1).cells∧f.box 4=some [sI 0,sI 0,AV.slice .full [],AV.slice .full [],AV.slice .full []]) (fun K3 hk4=>?_) ?_
  ·rcases Pb (ieq a1.kind 2) e with e|e
   ·simp[e]
    exact hk4 _ _ (by simp[e])
   simp[e]
   exact hk4 _ _ (by simp[e])
  rintro fr5 h5 E
  have e:=Aj e E
  rcases Io e m with ⟨e,m⟩|⟨e,m⟩
  ·obtain ⟨x6,e,m⟩:=Bo1 e m
   obtain ⟨x7,e,m⟩:=Bo1 e m
   simp[e]
   refine Cs (ih.1 e.2) ?_
   obtain ⟨x8,e,m⟩:=Bo1 e m
   obtain ⟨x9,e,m⟩:=Bo1 e m
   simp[e]
   refine Cs (ih.1 e.2) ?_
   obtain ⟨x10,e,m⟩:=Bo1 e m
   simp[e]
   refine Cs (r_ref07_Two e.2) ?_
   cases m;simp[e]
  rcases Io e m with ⟨e,m⟩|⟨e,m⟩
  rotate_left
  ·obtain ⟨x11,e,m⟩:=Bo1 e m
   simp[e]
   refine Cs (ih.2 e.2) ?_
   obtain ⟨x12,e,m⟩:=Bo1 e m
   simp[e]
   refine Cs (r_ref20_imp e.2) ?_
   cases m;simp[e]
  obtain ⟨x13,e,m⟩:=Bo1 e m
  simp[e]
  refine Cs (r_ref20_up e.2) ?_
  obtain ⟨x14,e,m⟩:=Bo1 e m
  obtain ⟨x15,e,m⟩:=Bo1 e m
  simp[e]
  refine Cs (ih.1 e.2) ?_
  obtain ⟨x16,e,m⟩:=Bo1 e m
  simp[e]
  refine Cs (r_ref07_Q e.2) ?_
  cases m;simp[e]
 ·intro T H a0 a1 r hm
  rw [ref20_premise] at hm
  have e:=trivial
  refine wi mixed Tryz.func84 [] [] 999 ?_
  obtain ⟨x17,e,m⟩:=Bo1 e hm
  simp[e]
  refine Cs (r_ref20_up e.2) ?_
  obtain ⟨x18,e,m⟩:=Bo1 e m
  obtain ⟨x19,e,m⟩:=Bo1 e m
  simp[e]
  refine Cs (ih.1 e.2) ?_
  obtain ⟨x20,e,m⟩:=Bo1 e m
  simp[e]
  refine Cs (r_ref20_up e.2) ?_
  obtain ⟨x21,e,m⟩:=Bo1 e m
  simp[e]
  refine Cs (r_ref20_imp e.2) ?_
  obtain ⟨x22,e,m⟩:=Bo1 e m
  simp[e]
  refine Cs (r_ref07_Q e.2) ?_
  cases m;simp[e]
theorem r_ref20_T {n : Nat} : C2 Tryz.prog 35 (ref20_T n) Fm.av Fm.av Fm.av := (rg_ref20_T n).1
theorem r_ref20_premise {n : Nat} : C2 Tryz.prog 84 (ref20_premise n) Fm.av Fm.av Fm.av := (rg_ref20_T n).2

theorem r_ref20_Formula : C2 Tryz.prog 13 ref20_Formula (t2 Fm.av sI) Fm.av Fm.av := by
 intro T H a0 a1 r hm
 rw [ref20_Formula] at hm
 have e:=trivial
 refine wi mixed Tryz.func13 [] [] 999 ?_
 obtain ⟨x1,e,m⟩:=Bo1 e hm
 simp[e]
 refine Cf (r_ref20_checked e.2) ?_
 rcases Io e m with ⟨e,m⟩|⟨e,m⟩
 ·cases m;simp[e]
 obtain ⟨x2,e,m⟩:=Bo1 e m
 simp[e]
 refine Cf (r_ref20_T e.2) ?_
 obtain ⟨x3,e,m⟩:=Bo1 e m
 simp[e]
 refine Cf (r_ref07_Copy e.2) ?_
 cases m;simp[e]


theorem r_law20_TranslateDoes (T : Tabs) (hT : T 0 = some (AV.agg (List.map (fun n => AV.sc (Value.int .i64 n)) tree_arities))) {a0 : (List Int)} {a1 : Fm} {a2 : Fm} {r0 : Bool} (hm : law20_TranslateDoes a0 a1 a2 = some r0) : ACallP Tryz.prog T 3 [sL sI a0, Fm.av a1, Fm.av a2] [] (fun x _ => x = sB r0) := by
 rw [law20_TranslateDoes] at hm
 have e:=hT
 refine wi mixed Tryz.func3 [] [] 5 ?_
 obtain ⟨x1,e,m⟩:=Bo1 e hm
 simp[e]
 refine Cf (r_law20_sane T hT e.2) ?_
 simp[e]
 rcases Io e m with ⟨e,m⟩|⟨e,m⟩
 rotate_left
 ·apply wg 999
  cases m;simp[e]
 apply wg 3
 simp[e]
 refine Wj m 999 999 (fun j2 f h=>∃ (v3:Bool),(h=([]:Heap)∧f.1 0=sL sI a0∧f.1 4=AV.lptr 4 (f.gen 4) 0∧f.1 5=AV.lptr 5 (f.gen 5) 0∧f.1 33=sB v3∧f.box 4=some (Fm.av a1).cells∧f.box 5=some (Fm.av a2).cells)∧j2 v3=some r0) (fun j2 K4 hk5 m=>?_) ?_
 ·obtain ⟨x6,e,m⟩:=Bo1 e m
  simp[e]
  refine Cf (r_mk_Few e.2) ?_
  rcases Io e m with ⟨e,m⟩|⟨e,m⟩
  rotate_left
  ·simp[e]
   exact hk5 _ _ ⟨true,by simp[e],m⟩
  obtain ⟨x7,e,m⟩:=Bo1 e m
  simp[e]
  refine Cf (r_law20_forms e.2) ?_
  rcases Io e m with ⟨e,m⟩|⟨e,m⟩
  ·simp[e]
   exact hk5 _ _ ⟨true,by simp[e],m⟩
  obtain ⟨x8,e,m⟩:=Bo1 e m
  simp[e]
  refine Cf (r_law20_forms e.2) ?_
  simp[e]
  exact hk5 _ _ ⟨(igt x8 400),by simp[e],m⟩
 rintro fr9 h9 ⟨v3,E,m⟩
 have e:=Aj e E
 rcases Io e m with ⟨e,m⟩|⟨e,m⟩
 ·cases m;simp[e]
 obtain ⟨x10,e,m⟩:=Bo1 e m
 simp[e]
 refine Cf (r_mk_New T e.2) ?_
 obtain ⟨x11,d12,e,m⟩:=Bo2 e m
 simp[e]
 refine Cf (r_mk_Context T (by simp[e]) e.2) ?_
 obtain ⟨x13,d14,e,m⟩:=Bo2 e m
 simp[e]
 refine Cf (r_mk_Pure T (by simp[e]) e.2) ?_
 obtain ⟨x15,d16,e,m⟩:=Bo2 e m
 simp[e]
 refine Cf (r_mk_Pure T (by simp[e]) e.2) ?_
 simp[e]
 obtain ⟨L17,hL18,m⟩:=joinB_some m
 refine Wr e m 999 (fun j19 s20 f h=>h=hset [[]] 0 [sL sI s20.l,sI s20.atF]∧f.1 5=AV.lptr 5 (f.gen 5) 0∧f.1 7=AV.gptr 0 0∧f.1 8=sL Ty.av x11∧f.1 10=AV.lptr 10 (f.gen 10) 0∧f.1 47=sT .full Fm.av L17∧f.1 48=sI (llen L17)∧f.1 49=sI j19∧f.box 5=some (Fm.av a2).cells∧f.box 10=some (Fm.av x15).cells) (by (repeat' apply And.intro)<;>first|rfl|(rw[hL18];rfl)|simp[e,hL18,llen]) (fun s20 fr21 h21 K22 E m=>?_) (fun j19 x23 s20 fr21 h21 K22 n24 c25 E e m z26 hK27=>?_)
 ·have e:=Aj e E
  dsimp only[sumK_inl]at m
  cases m;simp[e]
 have e:=Aj e E
 obtain ⟨x28,d29,e,m⟩:=Bo2 e m
 simp[e]
 refine Cs (r_mk_Formula T (by simp[e]) e.2) ?_
 simp[e]
 obtain ⟨L30,hL31,m⟩:=joinB_some m
 refine Wr e m 0 (fun j32 s33 f h=>h=hset [[]] 0 [sL sI d29.l,sI d29.atF]∧f.1 5=AV.lptr 5 (f.gen 5) 0∧f.1 7=AV.gptr 0 0∧f.1 8=sL Ty.av x11∧f.1 10=AV.lptr 10 (f.gen 10) 0∧f.1 12=AV.lptr 12 (f.gen 12) 0∧f.1 47=sT .full Fm.av L17∧f.1 48=sI (llen L17)∧f.1 49=sI j19∧f.1 58=sT .full Fm.av L30∧f.1 59=sI (llen L30)∧f.1 60=sI j32∧f.box 5=some (Fm.av a2).cells∧f.box 10=some (Fm.av x15).cells∧f.box 12=some (Fm.av x23).cells) (by (repeat' apply And.intro)<;>first|rfl|(rw[hL31];rfl)|simp[e,hL31,llen]) (fun s33 fr34 h34 K35 E m=>?_) (fun j32 x36 s33 fr34 h34 K35 n37 c38 E e m z39 hK40=>?_)
 ·have e:=Aj e E
  apply wg 999
  dsimp only[sumK_inl]at m
  simp[e]
  cases m;exact hK27 _ _ _ (by simp[e]) z26
 have e:=Aj e E
 apply wg 13
 obtain ⟨x41,x42,e,m⟩:=Bo2 e m
 simp[e]
 refine Cf (r_translate_Formula T hT e.2) ?_
 obtain ⟨x43,x44,e,m⟩:=Bo2 e m
 simp[e]
 refine Cf (r_ref20_Formula e.2) ?_
 simp[e]
 refine Wj m 999 999 (fun j45 f h=>∃ (v46:Bool),(h=hset [[]] 0 [sL sI d29.l,sI d29.atF]∧f.1 5=AV.lptr 5 (f.gen 5) 0∧f.1 7=AV.gptr 0 0∧f.1 8=sL Ty.av x11∧f.1 10=AV.lptr 10 (f.gen 10) 0∧f.1 12=AV.lptr 12 (f.gen 12) 0∧f.1 47=sT .full Fm.av L17∧f.1 48=sI (llen L17)∧f.1 49=sI j19∧f.1 58=sT .full Fm.av L30∧f.1 59=sI (llen L30)∧f.1 60=sI j32∧f.1 84=sB v46∧f.box 5=some (Fm.av a2).cells∧f.box 10=some (Fm.av x15).cells∧f.box 12=some (Fm.av x23).cells)∧j45 v46=some c38) (fun j45 K47 hk48 m=>?_) ?_
 rotate_left
 ·rintro fr49 h49 ⟨v46,E,m⟩
  have e:=Aj e E
  rcases Io e m with ⟨e,m⟩|⟨e,m⟩
  ·cases m;cases z39;cases z26;simp[e]
  simp[e]
  cases m;exact hK40 _ _ _ (by simp[e]) z39
 rcases Io e m with ⟨e,m⟩|⟨e,m⟩
 ·simp[e]
  exact hk48 _ _ ⟨true,by simp[e],m⟩
 obtain ⟨x50,e,m⟩:=Bo1 e m
 simp[e]
 refine Cf (r_ref07_Same e.2) ?_
 simp[e]
 exact hk48 _ _ ⟨(bnot x50),by simp[e],m⟩

theorem r_ref02_Check : C1 Tryz.prog 20 ref02_Check sI Tm.av := by
 intro T H a0 r hm
 rw [ref02_Check] at hm
 have e:=trivial
 refine wi mixed Tryz.func20 [] [] 999 ?_
 obtain ⟨x1,e,m⟩:=Bo1 e hm
 simp[e]
 refine Cf (r_ref02_Shape e.2) ?_
 rcases Io e m with ⟨e,m⟩|⟨e,m⟩
 rotate_left
 ·cases m;simp[e]
 obtain ⟨x2,e,m⟩:=Bo1 e m
 simp[e]
 refine Cf (r_ref02_Count e.2) ?_
 rcases Io e m with ⟨e,m⟩|⟨e,m⟩
 ·cases m;simp[e]
 cases m;simp[e]

end Go.Proofs.YtanjokijgbgcpaaGreatDoor
