/- The program's functions do what the models say. -/
import Derived.Test.YtanjokijgbgcpaaGreatDoorTrA
import Derived.Test.YtanjokijgbgcpaaGreatDoorTM
set_option maxRecDepth 20000
set_option maxHeartbeats 4000000
set_option linter.unusedSimpArgs false
set_option linter.unusedVariables false
namespace Go.Proofs.YtanjokijgbgcpaaGreatDoor
open Go Go.Abs Go.Mdl


theorem rg_ref07_Copy : ∀ (n : Nat), C1 Tryz.prog 34 (ref07_Copy n) Fm.av Fm.av := by
  intro n
  induction n with
  | zero =>
    skip
    all_goals (intro _ _;intros;rename_i hm;cases hm)
  | succ n ih =>
 intro T H a0 r hm
 rw [ref07_Copy] at hm
 have e:=trivial
 refine wi mixed Tryz.func34 [] [] 999 ?_
 obtain ⟨x1,e,m⟩:=Bo1 e hm
 simp[e]
 refine Cs (r_ref01_Copy e.2) ?_
 simp[e]
 refine Wr e m 999 (fun j2 s3 f h=>∃ (tg0_4:Tag),(h=H∧f.1 1=AV.lptr 1 (f.gen 1) 0∧f.1 2=AV.lptr 2 (f.gen 2) 0∧f.1 3=AV.lptr 3 (f.gen 3) 0∧f.1 15=sL Tm.av a0.terms∧f.1 16=sI (llen a0.terms)∧f.1 17=sI j2∧f.box 1=some (Fm.av a0).cells∧f.box 2=some [sI 0,sI 0,AV.slice .full [],AV.slice .full [],AV.slice .full []]∧f.box 3=some [sI a0.kind,sI x1.kind,sL Ty.av x1.args,sT tg0_4 Tm.av s3,AV.slice .full []])∧Ow f [26] tg0_4 s3) (by exact ⟨.full,by simp[e],OwnT.full⟩) (fun s3 fr4 h4 K5 E m=>?_) (fun j2 x6 s3 fr4 h4 K5 n7 c8 E e m z9 hK10=>?_)
 rotate_left
 ·obtain ⟨tg0_4,E,o0_4⟩:=E
  have e:=Aj e E
  obtain ⟨x11,e,m⟩:=Bo1 e m
  simp[e]
  refine Cs (r_ref02_Copy e.2) ?_
  obtain ⟨e,m⟩:=Ck e m
  simp[e]
  refine Ad (f:=Tm.av) s3 [x11] o0_4 ap26 e.2 ?_
  simp[e]
  cases m;exact hK10 _ _ _ ⟨(.loc 26 (fr4.tgen 26 + 1)),by simp[e],(On 26)⟩ z9
 obtain ⟨tg0_4,E,o0_4⟩:=E
 have e:=Aj e E
 dsimp only[sumK_inl]at m
 simp[e]
 refine Wr e m 999 (fun j12 s13 f h=>∃ (tg0_14:Tag) (tg1_14:Tag),(h=H∧f.1 2=AV.lptr 2 (f.gen 2) 0∧f.1 3=AV.lptr 3 (f.gen 3) 0∧f.1 30=sL Fm.av a0.args∧f.1 31=sI (llen a0.args)∧f.1 32=sI j12∧f.box 2=some [sI 0,sI 0,AV.slice .full [],AV.slice .full [],AV.slice .full []]∧f.box 3=some [sI a0.kind,sI x1.kind,sL Ty.av x1.args,sT tg0_14 Tm.av s3,sT tg1_14 Fm.av s13])∧Ow f [26] tg0_14 s3∧Ow f [41] tg1_14 s13) (by exact ⟨tg0_4,.full,by simp[e],o0_4,OwnT.full⟩) (fun s13 fr14 h14 K15 E m=>?_) (fun j12 x16 s13 fr14 h14 K15 n17 c18 E e m z19 hK20=>?_)
 ·obtain ⟨tg0_14,tg1_14,E,o0_14,o1_14⟩:=E
  have e:=Aj e E
  dsimp only[sumK_inl]at m
  cases m;simp[e]
 obtain ⟨tg0_14,tg1_14,E,o0_14,o1_14⟩:=E
 have e:=Aj e E
 obtain ⟨x21,e,m⟩:=Bo1 e m
 simp[e]
 refine Cs (ih e.2) ?_
 obtain ⟨e,m⟩:=Ck e m
 simp[e]
 refine Ad (f:=Fm.av) s13 [x21] o1_14 ap27 e.2 ?_
 simp[e]
 cases m;exact hK20 _ _ _ ⟨tg0_14,(.loc 41 (fr14.tgen 41 + 1)),by simp[e],(OwnT.other o0_14 o1_14 (by decide) (by decide)),(On 41)⟩ z19
theorem r_ref07_Copy {n : Nat} : C1 Tryz.prog 34 (ref07_Copy n) Fm.av Fm.av := (rg_ref07_Copy n)

theorem r_ref07_Two : C3 Tryz.prog 23 ref07_Two Fm.av sI Fm.av Fm.av := by
 intro T H a0 a1 a2 r hm
 rw [ref07_Two] at hm
 have e:=trivial
 refine wi mixed Tryz.func23 [] [] 999 ?_
 obtain ⟨x1,e,m⟩:=Bo1 e hm
 simp[e]
 refine Cs (r_ref07_Copy e.2) ?_
 obtain ⟨x2,e,m⟩:=Bo1 e m
 simp[e]
 refine Cs (r_ref07_Copy e.2) ?_
 have e:=Aj e (show AV.agg [sI a0,sI 0,AV.slice .frz [],AV.slice .frz [],AV.slice .frz [Fm.av x1,Fm.av x2]]=Fm.av (Fm.mk a0 (Ty.mk 0 []) [] [x1,x2]) by rw[Fm.av_mk];rfl)
 cases m;simp[e]

end Go.Proofs.YtanjokijgbgcpaaGreatDoor
