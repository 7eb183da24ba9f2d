/- The program's functions do what the models say. -/
import Derived.Test.YtgcimcppginchaaGreatDoorRW01
import Derived.Test.YtgcimcppginchaaGreatDoorRM
set_option maxRecDepth 20000
set_option maxHeartbeats 4000000
set_option linter.unusedSimpArgs false
set_option linter.unusedVariables false
namespace Go.Proofs.YtgcimcppginchaaGreatDoor
open Go Go.Abs Go.Mdl

theorem r_kernel_Accepts (T : Tabs) {H : Heap} {a0 : List Fm} {a1 : Sq} {a2 : Pf} {a3 : Fm} {r0 : Int} (hm : kernel_Accepts a0 a1 a2 a3 = some r0) : ACall Tryz.prog T 49 [(sL Fm.av) a0, Sq.av a1, Pf.av a2, Fm.av a3] H (AV.sc (.int .i64 r0)) H := by cases hm


theorem r_theory_Check : C1 Tryz.prog 37 theory_Check (t2 sI sI) Thy.av := by
 intro T H a0 r hm
 rw [theory_Check] at hm
 have e:=trivial
 refine wi mixed Tryz.func37 [] [] 999 ?_
 rcases Io e hm with ⟨e,m⟩|⟨e,m⟩
 ·cases m;simp[e]
 simp[e]
 refine Wr e m 999 (fun j1 s2 f h=>h=H∧f.1 4=sL Dcl.av a0.declarations∧f.1 14=sL Dcl.av a0.declarations∧f.1 15=sI (llen a0.declarations)∧f.1 16=sI j1) (by simp[e]) (fun s2 fr3 h3 K4 E m=>?_) (fun j1 x5 s2 fr3 h3 K4 n6 c7 E e m z8 hK9=>?_)
 ·have e:=Aj e E
  dsimp only[sumK_inl]at m
  cases m;simp[e]
 have e:=Aj e E
 obtain ⟨x10,e,m⟩:=Bo1 e m
 simp[e]
 refine Cf (r_theory_form T e.2) ?_
 rcases Io e m with ⟨e,m⟩|⟨e,m⟩
 ·cases m;cases z8;simp[e]
 obtain ⟨x11,e,m⟩:=Bo1 e m
 obtain ⟨x12,e,m⟩:=Bo1 e m
 simp[e]
 refine Cs (r_theory_formulas e.2) ?_
 obtain ⟨x13,e,m⟩:=Bo1 e m
 simp[e]
 refine Cs (r_kernel_Accepts T e.2) ?_
 rcases Io e m with ⟨e,m⟩|⟨e,m⟩
 ·cases m;cases z8;simp[e]
 simp[e]
 cases m;exact hK9 _ _ _ (by simp[e]) z8

theorem r_library_formulas : C2 Tryz.prog 39 library_formulas (sL Fm.av) Thy.av sI := by
 intro T H a0 a1 r hm
 rw [library_formulas] at hm
 have e:=trivial
 refine wi mixed Tryz.func39 [] [] 999 ?_
 obtain ⟨x1,e,m⟩:=Bo1 e hm
 simp[e]
 refine Wr e m 999 (fun j2 s3 f h=>∃ (tg0_4:Tag),(h=H∧f.1 5=sT tg0_4 Fm.av s3∧f.1 11=sL Dcl.av x1∧f.1 12=sI (llen x1)∧f.1 13=sI j2)∧Ow f [21] tg0_4 s3) (by exact ⟨.full,by simp[e],OwnT.full⟩) (fun s3 fr4 h4 K5 E m=>?_) (fun j2 x6 s3 fr4 h4 K5 n7 c8 E e m z9 hK10=>?_)
 ·obtain ⟨tg0_4,E,o0_4⟩:=E
  have e:=Aj e E
  dsimp only[sumK_inl]at m
  cases m;simp[e]
 obtain ⟨tg0_4,E,o0_4⟩:=E
 have e:=Aj e E
 obtain ⟨e,m⟩:=Ck e m
 simp[e]
 refine Ao (f:=Fm.av) s3 [x6.formula] o0_4 ap65 e.2 ?_
 simp[e]
 cases m;exact hK10 _ _ _ ⟨(.loc 21 (fr4.tgen 21 + 1)),by simp[e],(On 21)⟩ z9

theorem r_library_list : C1 Tryz.prog 40 library_list (sL Tm.av) (sL Sapi_Extraction.av) := by
 intro T H a0 r hm
 rw [library_list] at hm
 have e:=trivial
 refine wi mixed Tryz.func40 [] [] 999 ?_
 simp[e]
 refine Wr e hm 999 (fun j1 s2 f h=>∃ (tg0_3:Tag),(h=H∧f.1 3=sT tg0_3 Tm.av s2∧f.1 6=sL Sapi_Extraction.av a0∧f.1 7=sI (llen a0)∧f.1 8=sI j1)∧Ow f [16] tg0_3 s2) (by exact ⟨.full,by simp[e],OwnT.full⟩) (fun s2 fr3 h3 K4 E m=>?_) (fun j1 x5 s2 fr3 h3 K4 n6 c7 E e m z8 hK9=>?_)
 ·obtain ⟨tg0_3,E,o0_3⟩:=E
  have e:=Aj e E
  dsimp only[sumK_inl]at m
  cases m;simp[e]
 obtain ⟨tg0_3,E,o0_3⟩:=E
 have e:=Aj e E
 obtain ⟨e,m⟩:=Ck e m
 simp[e]
 refine Ao (f:=Tm.av) s2 [x5.term] o0_3 ap64 e.2 ?_
 simp[e]
 cases m;exact hK9 _ _ _ ⟨(.loc 16 (fr3.tgen 16 + 1)),by simp[e],(On 16)⟩ z8

theorem r_content_Type (T : Tabs) {H : Heap} {a0 : Fm} {r0 : Ty} {r1 : Int} (hm : content_Type a0 = some (r0, r1)) : ACall Tryz.prog T 51 [Fm.av a0] H (AV.tuple [Ty.av r0, AV.sc (.int .i64 r1)]) H := by cases hm


theorem r_terms_TypeOf (T : Tabs) {H : Heap} {a0 : List Ty} {a1 : Tm} {r0 : Ty} {r1 : Int} (hm : terms_TypeOf a0 a1 = some (r0, r1)) : ACall Tryz.prog T 52 [(sL Ty.av) a0, Tm.av a1] H (AV.tuple [Ty.av r0, AV.sc (.int .i64 r1)]) H := by cases hm



theorem rg_tree_SameType : ∀ (n : Nat), C2 Tryz.prog 75 (tree_SameType n) sB Ty.av Ty.av := by
  intro n
  induction n with
  | zero =>
    skip
    all_goals (intro _ _;intros;rename_i hm;cases hm)
  | succ n ih =>
 intro T H a0 a1 r hm
 rw [tree_SameType] at hm
 have e:=trivial
 refine wi mixed Tryz.func75 [] [] 3 ?_
 simp[e]
 refine wj 999 999 (fun f h=>h=H∧f.1 2=AV.lptr 2 (f.gen 2) 0∧f.1 3=AV.lptr 3 (f.gen 3) 0∧f.1 20=sB (sel (ine a0.kind a1.kind) true (ine (llen a0.args) (llen a1.args)))∧f.box 2=some (Ty.av a0).cells∧f.box 3=some (Ty.av a1).cells) (fun K1 hk2=>?_) ?_
 ·rcases Pb (ine a0.kind a1.kind) e with e|e
  ·simp[e]
   exact hk2 _ _ (by simp[e])
  simp[e]
  exact hk2 _ _ (by simp[e])
 rintro fr3 h3 E
 have e:=Aj e E
 rcases Io e hm with ⟨e,m⟩|⟨e,m⟩
 ·cases m;simp[e]
 simp[e]
 refine Wr e m 999 (fun j4 s5 f h=>h=H∧f.1 3=AV.lptr 3 (f.gen 3) 0∧f.1 22=sL Ty.av a0.args∧f.1 23=sI (llen a0.args)∧f.1 24=sI j4∧f.box 3=some (Ty.av a1).cells) (by simp[e]) (fun s5 fr6 h6 K7 E m=>?_) (fun j4 x8 s5 fr6 h6 K7 n9 c10 E e m z11 hK12=>?_)
 ·have e:=Aj e E
  dsimp only[sumK_inl]at m
  cases m;simp[e]
 have e:=Aj e E
 obtain ⟨x13,e,m⟩:=Bo1 e m
 obtain ⟨x14,e,m⟩:=Bo1 e m
 simp[e]
 refine Cs (ih e.2) ?_
 rcases Io e m with ⟨e,m⟩|⟨e,m⟩
 rotate_left
 ·cases m;cases z11;simp[e]
 simp[e]
 cases m;exact hK12 _ _ _ (by simp[e]) z11
theorem r_tree_SameType {n : Nat} : C2 Tryz.prog 75 (tree_SameType n) sB Ty.av Ty.av := (rg_tree_SameType n)

theorem r_types_Same : C2 Tryz.prog 53 types_Same sB Ty.av Ty.av := by
 intro T H a0 a1 r hm
 rw [types_Same] at hm
 have e:=trivial
 refine wi mixed Tryz.func53 [] [] 999 ?_
 obtain ⟨x1,e,m⟩:=Bo1 e hm
 simp[e]
 refine Cf (r_tree_SameType e.2) ?_
 cases m;simp[e]

theorem r_extract_Lemmas : C2 Tryz.prog 38 extract_Lemmas sI (sL Fm.av) (sL Tm.av) := by
 intro T H a0 a1 r hm
 rw [extract_Lemmas] at hm
 have e:=trivial
 refine wi mixed Tryz.func38 [] [] 999 ?_
 rcases Io e hm with ⟨e,m⟩|⟨e,m⟩
 ·cases m;simp[e]
 simp[e]
 refine Wr e m 999 (fun j1 s2 f h=>h=H∧f.1 1=sL Tm.av a1∧f.1 15=sL Fm.av a0∧f.1 16=sI (llen a0)∧f.1 17=sI j1) (by simp[e]) (fun s2 fr3 h3 K4 E m=>?_) (fun j1 x5 s2 fr3 h3 K4 n6 c7 E e m z8 hK9=>?_)
 ·have e:=Aj e E
  dsimp only[sumK_inl]at m
  cases m;simp[e]
 have e:=Aj e E
 obtain ⟨x10,x11,e,m⟩:=Bo2 e m
 simp[e]
 refine Cf (r_content_Type T e.2) ?_
 rcases Io e m with ⟨e,m⟩|⟨e,m⟩
 ·cases m;cases z8;simp[e]
 obtain ⟨x12,e,m⟩:=Bo1 e m
 obtain ⟨x13,x14,e,m⟩:=Bo2 e m
 simp[e]
 refine Cf (r_terms_TypeOf T e.2) ?_
 rcases Io e m with ⟨e,m⟩|⟨e,m⟩
 ·cases m;cases z8;simp[e]
 obtain ⟨x15,e,m⟩:=Bo1 e m
 simp[e]
 refine Cf (r_types_Same e.2) ?_
 rcases Io e m with ⟨e,m⟩|⟨e,m⟩
 rotate_left
 ·cases m;cases z8;simp[e]
 simp[e]
 cases m;exact hK9 _ _ _ (by simp[e]) z8

theorem r_library_Check : C2 Tryz.prog 26 library_Check sI Thy.av (sL Sapi_Extraction.av) := by
 intro T H a0 a1 r hm
 rw [library_Check] at hm
 have e:=trivial
 refine wi mixed Tryz.func26 [] [] 999 ?_
 obtain ⟨x1,x2,e,m⟩:=Bo2 e hm
 simp[e]
 refine Cf (r_theory_Check e.2) ?_
 rcases Io e m with ⟨e,m⟩|⟨e,m⟩
 ·cases m;simp[e]
 rcases Io e m with ⟨e,m⟩|⟨e,m⟩
 ·cases m;simp[e]
 simp[e]
 refine Wr e m 999 (fun j3 s4 f h=>h=H∧f.1 1=sL Sapi_Extraction.av a1∧f.1 2=AV.lptr 2 (f.gen 2) 0∧f.1 23=sL Sapi_Extraction.av a1∧f.1 24=sI (llen a1)∧f.1 25=sI j3∧f.box 2=some [sL Dcl.av a0.declarations]) (by simp[e]) (fun s4 fr5 h5 K6 E m=>?_) (fun j3 x7 s4 fr5 h5 K6 n8 c9 E e m z10 hK11=>?_)
 rotate_left
 ·have e:=Aj e E
  obtain ⟨x12,e,m⟩:=Bo1 e m
  rcases Io e m with ⟨e,m⟩|⟨e,m⟩
  ·cases m;cases z10;simp[e]
  simp[e]
  cases m;exact hK11 _ _ _ (by simp[e]) z10
 have e:=Aj e E
 dsimp only[sumK_inl]at m
 obtain ⟨x13,e,m⟩:=Bo1 e m
 simp[e]
 refine Cf (r_library_formulas e.2) ?_
 obtain ⟨x14,e,m⟩:=Bo1 e m
 simp[e]
 refine Cf (r_library_list e.2) ?_
 obtain ⟨x15,e,m⟩:=Bo1 e m
 simp[e]
 refine Cf (r_extract_Lemmas e.2) ?_
 cases m;simp[e]

theorem r_class_Content (T : Tabs) {H : Heap} {a0 : Fm} {r0 : Bool} {r1 : Int} (hm : class_Content a0 = some (r0, r1)) : ACall Tryz.prog T 27 [Fm.av a0] H (AV.tuple [AV.sc (.bool r0), AV.sc (.int .i64 r1)]) H := by cases hm


theorem r_terms_Size (T : Tabs) {H : Heap} {a0 : Tm} {r0 : Int} {r1 : Int} (hm : terms_Size a0 = some (r0, r1)) : ACall Tryz.prog T 28 [Tm.av a0] H (AV.tuple [AV.sc (.int .i64 r0), AV.sc (.int .i64 r1)]) H := by cases hm


end Go.Proofs.YtgcimcppginchaaGreatDoor
