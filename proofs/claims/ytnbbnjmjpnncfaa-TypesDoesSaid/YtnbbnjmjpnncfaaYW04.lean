/- The program's functions do what the models say. -/
import Derived.Test.YtnbbnjmjpnncfaaYW03
import Derived.Test.YtnbbnjmjpnncfaaYM
import Derived.Test.YtnbbnjmjpnncfaaDat
set_option maxRecDepth 20000
set_option maxHeartbeats 4000000
set_option linter.unusedSimpArgs false
set_option linter.unusedVariables false
namespace Go.Proofs.Ytnbbnjmjpnncfaa
open Go Go.Abs Go.Mdl

theorem r_ref01_Data : C1 Try.prog 20 ref01_Data (t2 sB sI) Ty.av := by
 intro T H a0 r hm
 rw [ref01_Data] at hm
 have e:=trivial
 refine wi mixed Try.func20 [] [] 999 ?_
 obtain ⟨x1,e,m⟩:=Bo1 e hm
 simp[e]
 refine Cf (r_ref01_Check e.2) ?_
 rcases Io e m with ⟨e,m⟩|⟨e,m⟩
 ·cases m;simp[e]
 obtain ⟨x2,e,m⟩:=Bo1 e m
 simp[e]
 refine Cf (r_ref01_level e.2) ?_
 cases m;simp[e]

theorem r_ref01_Result : C1 Try.prog 21 ref01_Result (t3 (sL Ty.av) Ty.av sI) Ty.av := by
 intro T H a0 r hm
 rw [ref01_Result] at hm
 have e:=trivial
 refine wi mixed Try.func21 [] [] 999 ?_
 obtain ⟨x1,e,m⟩:=Bo1 e hm
 simp[e]
 refine Cf (r_ref01_Check e.2) ?_
 rcases Io e m with ⟨e,m⟩|⟨e,m⟩
 ·cases m;simp[e]
 simp[e]
 refine Wn m 999 (fun s2 f h=>∃ (tg0_3:Tag),(h=H∧f.1 1=AV.lptr 1 (f.gen 1) 0∧f.1 3=AV.lptr 3 (f.gen 3) 0∧f.1 6=sT tg0_3 Ty.av s2.1∧f.box 1=some [sI s2.2.1,sL Ty.av s2.2.2]∧f.box 3=some [sI 0,AV.slice .full []])∧Ow f [23] tg0_3 s2.1) (by exact ⟨.full,by simp[e],OwnT.full⟩) (fun s2 fr3 h3 K4 n5 c6 E m z7 hK8=>?_)
 obtain ⟨v9,v10,v11⟩:=s2
 obtain ⟨tg0_3,E,o0_3⟩:=E
 have e:=Aj e E
 dsimp only[un3_mk]at m
 rcases Io e m with ⟨e,m⟩|⟨e,m⟩
 rotate_left
 ·cases m
  have m:=Qb z7
  dsimp only[un3_mk]at m
  obtain ⟨x12,e,m⟩:=Bo1 e m
  simp[e]
  refine Cf (r_ref01_Copy e.2) ?_
  cases m;simp[e]
 obtain ⟨x13,e,m⟩:=Bo1 e m
 obtain ⟨x14,e,m⟩:=Bo1 e m
 simp[e]
 refine Cf (r_ref01_Copy e.2) ?_
 obtain ⟨e,m⟩:=Ck e m
 simp[e]
 refine Ao (f:=Ty.av) v9 [x14] o0_3 ap27 e.2 ?_
 obtain ⟨x15,e,m⟩:=Bo1 e m
 simp[e]
 cases m;exact hK8 _ _ _ ⟨(.loc 23 (fr3.tgen 23 + 1)),by simp[e],(On 23)⟩ z7


theorem rg_ref01_Same : ∀ (n : Nat), C2 Try.prog 25 (ref01_Same n) sB Ty.av Ty.av := by
  intro n
  induction n with
  | zero =>
    skip
    all_goals (intro _ _;intros;rename_i hm;cases hm)
  | succ n ih =>
 intro T H a0 a1 r hm
 rw [ref01_Same] at hm
 have e:=trivial
 refine wi mixed Try.func25 [] [] 3 ?_
 simp[e]
 refine wj 999 999 (fun f h=>h=H∧f.1 2=AV.lptr 2 (f.gen 2) 0∧f.1 3=AV.lptr 3 (f.gen 3) 0∧f.1 19=sB (sel (ine a0.kind a1.kind) true (ine (llen a0.args) (llen a1.args)))∧f.box 2=some (Ty.av a0).cells∧f.box 3=some (Ty.av a1).cells) (fun K1 hk2=>?_) ?_
 ·rcases Pb (ine a0.kind a1.kind) e with e|e
  ·simp[e]
   exact hk2 _ _ (by simp[e])
  simp[e]
  exact hk2 _ _ (by simp[e])
 rintro fr3 h3 E
 have e:=Aj e E
 rcases Io e hm with ⟨e,m⟩|⟨e,m⟩
 ·cases m;simp[e]
 simp[e]
 refine Wr e m 999 (fun j4 s5 f h=>h=H∧f.1 2=AV.lptr 2 (f.gen 2) 0∧f.1 3=AV.lptr 3 (f.gen 3) 0∧f.1 22=sI (llen a0.args)∧f.1 23=sI j4∧f.box 2=some (Ty.av a0).cells∧f.box 3=some (Ty.av a1).cells) (by simp[e]) (fun s5 fr6 h6 K7 E m=>?_) (fun j4 x8 s5 fr6 h6 K7 n9 c10 E e m z11 hK12=>?_)
 ·have e:=Aj e E
  dsimp only[sumK_inl]at m
  cases m;simp[e]
 have e:=Aj e E
 obtain ⟨x13,e,m⟩:=Bo1 e m
 obtain ⟨x14,e,m⟩:=Bo1 e m
 simp[e]
 refine Cs (ih e.2) ?_
 rcases Io e m with ⟨e,m⟩|⟨e,m⟩
 rotate_left
 ·cases m;cases z11;simp[e]
 simp[e]
 cases m;exact hK12 _ _ _ (by simp[e]) z11
theorem r_ref01_Same {n : Nat} : C2 Try.prog 25 (ref01_Same n) sB Ty.av Ty.av := (rg_ref01_Same n)

theorem r_ref01_SameAll : C2 Try.prog 24 ref01_SameAll sB (sL Ty.av) (sL Ty.av) := by
 intro T H a0 a1 r hm
 rw [ref01_SameAll] at hm
 have e:=trivial
 refine wi mixed Try.func24 [] [] 999 ?_
 rcases Io e hm with ⟨e,m⟩|⟨e,m⟩
 ·cases m;simp[e]
 simp[e]
 refine Wr e m 999 (fun j1 s2 f h=>h=H∧f.1 0=sL Ty.av a0∧f.1 1=sL Ty.av a1∧f.1 12=sI (llen a0)∧f.1 13=sI j1) (by simp[e]) (fun s2 fr3 h3 K4 E m=>?_) (fun j1 x5 s2 fr3 h3 K4 n6 c7 E e m z8 hK9=>?_)
 ·have e:=Aj e E
  dsimp only[sumK_inl]at m
  cases m;simp[e]
 have e:=Aj e E
 obtain ⟨x10,e,m⟩:=Bo1 e m
 obtain ⟨x11,e,m⟩:=Bo1 e m
 simp[e]
 refine Cs (r_ref01_Same e.2) ?_
 rcases Io e m with ⟨e,m⟩|⟨e,m⟩
 rotate_left
 ·cases m;cases z8;simp[e]
 simp[e]
 cases m;exact hK9 _ _ _ (by simp[e]) z8

theorem r_ref01_Function : C2 Try.prog 26 ref01_Function (t2 Ty.av sI) (sL Ty.av) Ty.av := by
 intro T H a0 a1 r hm
 rw [ref01_Function] at hm
 have e:=trivial
 refine wi mixed Try.func26 [] [] 999 ?_
 simp[e]
 refine Wr e hm 999 (fun j1 s2 f h=>h=H∧f.1 0=sL Ty.av a0∧f.1 3=AV.lptr 3 (f.gen 3) 0∧f.1 4=AV.lptr 4 (f.gen 4) 0∧f.1 14=sL Ty.av a0∧f.1 15=sI (llen a0)∧f.1 16=sI j1∧f.box 3=some (Ty.av a1).cells∧f.box 4=some [sI 0,AV.slice .full []]) (by simp[e]) (fun s2 fr3 h3 K4 E m=>?_) (fun j1 x5 s2 fr3 h3 K4 n6 c7 E e m z8 hK9=>?_)
 rotate_left
 ·have e:=Aj e E
  obtain ⟨x10,e,m⟩:=Bo1 e m
  simp[e]
  refine Cf (r_ref01_Check e.2) ?_
  rcases Io e m with ⟨e,m⟩|⟨e,m⟩
  ·cases m;cases z8;simp[e]
  simp[e]
  cases m;exact hK9 _ _ _ (by simp[e]) z8
 have e:=Aj e E
 dsimp only[sumK_inl]at m
 obtain ⟨x11,e,m⟩:=Bo1 e m
 simp[e]
 refine Cf (r_ref01_Check e.2) ?_
 rcases Io e m with ⟨e,m⟩|⟨e,m⟩
 ·cases m;simp[e]
 obtain ⟨x12,e,m⟩:=Bo1 e m
 simp[e]
 refine Cf (r_ref01_size e.2) ?_
 simp[e]
 refine Wr e m 999 (fun j13 s14 f h=>h=H∧f.1 0=sL Ty.av a0∧f.1 3=AV.lptr 3 (f.gen 3) 0∧f.1 4=AV.lptr 4 (f.gen 4) 0∧f.1 10=sI s14∧f.1 35=sL Ty.av a0∧f.1 36=sI (llen a0)∧f.1 37=sI j13∧f.box 3=some (Ty.av a1).cells∧f.box 4=some [sI 0,AV.slice .full []]) (by simp[e]) (fun s14 fr15 h15 K16 E m=>?_) (fun j13 x17 s14 fr15 h15 K16 n18 c19 E e m z20 hK21=>?_)
 rotate_left
 ·have e:=Aj e E
  obtain ⟨x22,e,m⟩:=Bo1 e m
  simp[e]
  refine Cf (r_ref01_size e.2) ?_
  simp[e]
  cases m;exact hK21 _ _ _ (by simp[e]) z20
 have e:=Aj e E
 dsimp only[sumK_inl]at m
 rcases Io e m with ⟨e,m⟩|⟨e,m⟩
 ·cases m;simp[e]
 obtain ⟨x23,e,m⟩:=Bo1 e m
 simp[e]
 refine Cf (r_ref01_Copy e.2) ?_
 simp[e]
 refine Wn m 999 (fun s24 f h=>h=H∧f.1 0=sL Ty.av a0∧f.1 3=AV.lptr 3 (f.gen 3) 0∧f.1 4=AV.lptr 4 (f.gen 4) 0∧f.1 13=sI s24.1∧f.box 3=some [sI s24.2.1,sL Ty.av s24.2.2]∧f.box 4=some [sI 0,AV.slice .full []]) (by simp[e]) (fun s24 fr25 h25 K26 n27 c28 E m z29 hK30=>?_)
 obtain ⟨v31,v32,v33⟩:=s24
 have e:=Aj e E
 dsimp only[un3_mk]at m
 rcases Io e m with ⟨e,m⟩|⟨e,m⟩
 rotate_left
 ·cases m
  have m:=Qb z29
  dsimp only[un3_mk]at m
  cases m;simp[e]
 obtain ⟨x34,e,m⟩:=Bo1 e m
 obtain ⟨x35,e,m⟩:=Bo1 e m
 simp[e]
 refine Cs (r_ref01_Fun e.2) ?_
 simp[e]
 cases m;exact hK30 _ _ _ (by simp[e]) z29

theorem r_types_Context : C1 Try.prog 27 types_Context sI (sL Ty.av) := by
 intro T H a0 r hm
 rw [types_Context] at hm
 have e:=trivial
 refine wi mixed Try.func27 [] [] 999 ?_
 rcases Io e hm with ⟨e,m⟩|⟨e,m⟩
 ·cases m;simp[e]
 simp[e]
 refine Wr e m 999 (fun j1 s2 f h=>h=H∧f.1 9=sL Ty.av a0∧f.1 10=sI (llen a0)∧f.1 11=sI j1) (by simp[e]) (fun s2 fr3 h3 K4 E m=>?_) (fun j1 x5 s2 fr3 h3 K4 n6 c7 E e m z8 hK9=>?_)
 ·have e:=Aj e E
  dsimp only[sumK_inl]at m
  cases m;simp[e]
 have e:=Aj e E
 obtain ⟨x10,e,m⟩:=Bo1 e m
 simp[e]
 refine Cf (r_types_Check e.2) ?_
 rcases Io e m with ⟨e,m⟩|⟨e,m⟩
 ·cases m;cases z8;simp[e]
 simp[e]
 cases m;exact hK9 _ _ _ (by simp[e]) z8

theorem r_ref01_Context : C1 Try.prog 28 ref01_Context sI (sL Ty.av) := by
 intro T H a0 r hm
 rw [ref01_Context] at hm
 have e:=trivial
 refine wi mixed Try.func28 [] [] 999 ?_
 rcases Io e hm with ⟨e,m⟩|⟨e,m⟩
 ·cases m;simp[e]
 simp[e]
 refine Wr e m 999 (fun j1 s2 f h=>h=H∧f.1 9=sL Ty.av a0∧f.1 10=sI (llen a0)∧f.1 11=sI j1) (by simp[e]) (fun s2 fr3 h3 K4 E m=>?_) (fun j1 x5 s2 fr3 h3 K4 n6 c7 E e m z8 hK9=>?_)
 ·have e:=Aj e E
  dsimp only[sumK_inl]at m
  cases m;simp[e]
 have e:=Aj e E
 obtain ⟨x10,e,m⟩:=Bo1 e m
 simp[e]
 refine Cf (r_ref01_Check e.2) ?_
 rcases Io e m with ⟨e,m⟩|⟨e,m⟩
 ·cases m;cases z8;simp[e]
 simp[e]
 cases m;exact hK9 _ _ _ (by simp[e]) z8

end Go.Proofs.Ytnbbnjmjpnncfaa
