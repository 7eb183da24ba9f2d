/- The program's functions do what the models say. -/
import Derived.Test.YtanjokijgbgcpaaGreatDoorTW03
import Derived.Test.YtanjokijgbgcpaaGreatDoorTM
set_option maxRecDepth 20000
set_option maxHeartbeats 4000000
set_option linter.unusedSimpArgs false
set_option linter.unusedVariables false
namespace Go.Proofs.YtanjokijgbgcpaaGreatDoor
open Go Go.Abs Go.Mdl


theorem r_formula_Lift (T : Tabs) (hT : T 0 = some (AV.agg (List.map (fun n => AV.sc (Value.int .i64 n)) tree_arities))) {H : Heap} {a0 : Fm} {a1 : Int} {a2 : Int} {r0 : Fm} {r1 : Int} (hm : formula_Lift a0 a1 a2 = some (r0, r1)) : ACall Tryz.prog T 69 [Fm.av a0, sI a1, sI a2] H (AV.tuple [Fm.av r0, sI r1]) H := by
 rw [formula_Lift] at hm
 have e:=hT
 refine wi mixed Tryz.func69 [] [] 7 ?_
 obtain ⟨x1,e,m⟩:=Bo1 e hm
 simp[e]
 refine Cf (r_formula_Check T hT e.2) ?_
 simp[e]
 rcases Io e m with ⟨e,m⟩|⟨e,m⟩
 ·apply wg 999
  cases m;simp[e]
 apply wg 3
 simp[e]
 refine Wj m 999 999 (fun j2 f h=>∃ (v3:Bool),(h=H∧f.1 1=sI a1∧f.1 2=sI a2∧f.1 3=AV.lptr 3 (f.gen 3) 0∧f.1 6=AV.lptr 6 (f.gen 6) 0∧f.1 27=sB v3∧f.box 3=some (Fm.av a0).cells∧f.box 6=some [sI 0,sI 0,AV.slice .full [],AV.slice .full [],AV.slice .full []])∧j2 v3=some (r0,r1)) (fun j2 K4 hk5 m=>?_) ?_
 rotate_left
 ·rintro fr6 h6 ⟨v3,E,m⟩
  have e:=Aj e E
  rcases Io e m with ⟨e,m⟩|⟨e,m⟩
  ·cases m;simp[e]
  obtain ⟨x7,e,m⟩:=Bo1 e m
  simp[e]
  refine Cf (r_tree_LiftFormula T e.2) ?_
  cases m;simp[e]
 obtain ⟨x8,e,m⟩:=Bo1 e m
 simp[e]
 refine Cf (r_formula_within e.2) ?_
 rcases Io e m with ⟨e,m⟩|⟨e,m⟩
 rotate_left
 ·simp[e]
  exact hk5 _ _ ⟨true,by simp[e],m⟩
 obtain ⟨x9,e,m⟩:=Bo1 e m
 simp[e]
 refine Cf (r_formula_within e.2) ?_
 rcases Io e m with ⟨e,m⟩|⟨e,m⟩
 rotate_left
 ·simp[e]
  exact hk5 _ _ ⟨true,by simp[e],m⟩
 obtain ⟨x10,e,m⟩:=Bo1 e m
 simp[e]
 refine Cf (r_tree_NearFormula T e.2) ?_
 simp[e]
 exact hk5 _ _ ⟨(bnot x10),by simp[e],m⟩


theorem rg_translate_size (T : Tabs) (hT : T 0 = some (AV.agg (List.map (fun n => AV.sc (Value.int .i64 n)) tree_arities))) : ∀ (n : Nat), (∀ {H : Heap} {a0 : Fm} {a1 : Int} {r0 : Int} (hm : translate_size n a0 a1 = some r0), ACall Tryz.prog T 71 [Fm.av a0, sI a1] H (sI r0) H) := by
  intro n
  induction n with
  | zero =>
    skip
    all_goals (intro _ _;intros;rename_i hm;cases hm)
  | succ n ih =>
 intro H a0 a1 r0 hm
 rw [translate_size] at hm
 have e:=hT
 refine wi mixed Tryz.func71 [] [] 999 ?_
 obtain ⟨x1,x2,e,m⟩:=Bo2 e hm
 simp[e]
 refine Cf (r_tree_CheckFormula T hT e.2) ?_
 rcases Io e m with ⟨e,m⟩|⟨e,m⟩
 ·cases m;simp[e]
 rcases Io e m with ⟨e,m⟩|⟨e,m⟩
 ·obtain ⟨x3,e,m⟩:=Bo1 e m
  obtain ⟨x4,e,m⟩:=Bo1 e m
  simp[e]
  refine Cf (ih e.2) ?_
  cases m;simp[e]
 simp[e]
 refine Wr e m 999 (fun j5 s6 f h=>h=H∧f.1 1=sI a1∧f.1 5=sI s6∧f.1 36=sL Fm.av a0.args∧f.1 37=sI (llen a0.args)∧f.1 38=sI j5) (by simp[e]) (fun s6 fr7 h7 K8 E m=>?_) (fun j5 x9 s6 fr7 h7 K8 n10 c11 E e m z12 hK13=>?_)
 ·have e:=Aj e E
  dsimp only[sumK_inl]at m
  cases m;simp[e]
 have e:=Aj e E
 obtain ⟨x14,e,m⟩:=Bo1 e m
 simp[e]
 refine Cf (ih e.2) ?_
 simp[e]
 cases m;exact hK13 _ _ _ (by simp[e]) z12
theorem r_translate_size (T : Tabs) (hT : T 0 = some (AV.agg (List.map (fun n => AV.sc (Value.int .i64 n)) tree_arities))) {H : Heap} {a0 : Fm} {a1 : Int} {r0 : Int} {n : Nat} (hm : translate_size n a0 a1 = some r0) : ACall Tryz.prog T 71 [Fm.av a0, sI a1] H (sI r0) H := (rg_translate_size T hT n) hm


theorem r_translate_look (T : Tabs) (hT : T 0 = some (AV.agg (List.map (fun n => AV.sc (Value.int .i64 n)) tree_arities))) {H : Heap} {a0 : Fm} {a1 : Fm} {r0 : Int} (hm : translate_look a0 a1 = some r0) : ACall Tryz.prog T 29 [Fm.av a0, Fm.av a1] H (sI r0) H := by
 rw [translate_look] at hm
 have e:=hT
 refine wi mixed Tryz.func29 [] [] 999 ?_
 obtain ⟨x1,e,m⟩:=Bo1 e hm
 simp[e]
 refine Cf (r_formula_Check T hT e.2) ?_
 rcases Io e m with ⟨e,m⟩|⟨e,m⟩
 ·cases m;simp[e]
 obtain ⟨x2,e,m⟩:=Bo1 e m
 simp[e]
 refine Cf (r_formula_Check T hT e.2) ?_
 rcases Io e m with ⟨e,m⟩|⟨e,m⟩
 ·cases m;simp[e]
 obtain ⟨x3,e,m⟩:=Bo1 e m
 simp[e]
 refine Cf (r_translate_uniform e.2) ?_
 rcases Io e m with ⟨e,m⟩|⟨e,m⟩
 ·cases m;simp[e]
 obtain ⟨x4,x5,e,m⟩:=Bo2 e m
 simp[e]
 refine Cf (r_formula_Lift T hT e.2) ?_
 rcases Io e m with ⟨e,m⟩|⟨e,m⟩
 ·cases m;simp[e]
 obtain ⟨x6,x7,e,m⟩:=Bo2 e m
 simp[e]
 refine Cf (r_tree_CheckFormula T hT e.2) ?_
 obtain ⟨x8,e,m⟩:=Bo1 e m
 simp[e]
 refine Cf (r_translate_size T hT e.2) ?_
 rcases Io e m with ⟨e,m⟩|⟨e,m⟩
 ·cases m;simp[e]
 cases m;simp[e]

theorem r_tree_Form : C2 Tryz.prog 77 tree_Form Fm.av sI (sL Fm.av) := by
 intro T H a0 a1 r hm
 rw [tree_Form] at hm
 have e:=trivial
 refine wi mixed Tryz.func77 [] [] 999 ?_
 cases hm;simp[e]

theorem r_translate_imp : C2 Tryz.prog 75 translate_imp Fm.av Fm.av Fm.av := by
 intro T H a0 a1 r hm
 rw [translate_imp] at hm
 have e:=trivial
 refine wi mixed Tryz.func75 [] [] 999 ?_
 obtain ⟨x1,e,m⟩:=Bo1 e hm
 simp[e]
 refine Cf (r_tree_Form e.2) ?_
 cases m;simp[e]


theorem rg_tree_Own : ∀ (n : Nat), C1 Tryz.prog 74 (tree_Own n) Tm.av Tm.av := by
  intro n
  induction n with
  | zero =>
    skip
    all_goals (intro _ _;intros;rename_i hm;cases hm)
  | succ n ih =>
 intro T H a0 r hm
 rw [tree_Own] at hm
 have e:=trivial
 refine wi mixed Tryz.func74 [] [] 999 ?_
 obtain ⟨x1,e,m⟩:=Bo1 e hm
 simp[e]
 refine Cs (r_tree_OwnType e.2) ?_
 simp[e]
 refine Wr e m 999 (fun j2 s3 f h=>∃ (tg0_4:Tag),(h=H∧f.1 2=AV.lptr 2 (f.gen 2) 0∧f.1 3=AV.lptr 3 (f.gen 3) 0∧f.1 15=sL Tm.av a0.args∧f.1 16=sI (llen a0.args)∧f.1 17=sI j2∧f.box 2=some [sI 0,sI 0,sI 0,AV.slice .full [],AV.slice .full []]∧f.box 3=some [sI a0.kind,sI a0.index,sI x1.kind,sL Ty.av x1.args,sT tg0_4 Tm.av s3])∧Ow f [26] tg0_4 s3) (by exact ⟨.full,by simp[e],OwnT.full⟩) (fun s3 fr4 h4 K5 E m=>?_) (fun j2 x6 s3 fr4 h4 K5 n7 c8 E e m z9 hK10=>?_)
 ·obtain ⟨tg0_4,E,o0_4⟩:=E
  have e:=Aj e E
  dsimp only[sumK_inl]at m
  cases m;simp[e]
 obtain ⟨tg0_4,E,o0_4⟩:=E
 have e:=Aj e E
 obtain ⟨x11,e,m⟩:=Bo1 e m
 simp[e]
 refine Cs (ih e.2) ?_
 obtain ⟨e,m⟩:=Ck e m
 simp[e]
 refine Ad (f:=Tm.av) s3 [x11] o0_4 ap26 e.2 ?_
 simp[e]
 cases m;exact hK10 _ _ _ ⟨(.loc 26 (fr4.tgen 26 + 1)),by simp[e],(On 26)⟩ z9
theorem r_tree_Own {n : Nat} : C1 Tryz.prog 74 (tree_Own n) Tm.av Tm.av := (rg_tree_Own n)

theorem r_tree_OwnFormula_1 : C2 Tryz.prog 73 tree_OwnFormula_1 Tm.av Tm.av sI := by
 intro T H a0 a1 r hm
 rw [tree_OwnFormula_1] at hm
 have e:=trivial
 refine wi mixed Tryz.func73 [] [] 999 ?_
 obtain ⟨x1,e,m⟩:=Bo1 e hm
 simp[e]
 refine Cf (r_tree_Own e.2) ?_
 cases m;simp[e]

theorem r_tree_OwnFormula : C1 Tryz.prog 30 tree_OwnFormula Fm.av Fm.av := by
 intro T H a0 r hm
 rw [tree_OwnFormula] at hm
 have e:=trivial
 refine wi mixed Tryz.func30 [] [] 999 ?_
 obtain ⟨x1,s2,e,m⟩:=Bo2 e hm
 simp[e]
 refine Cf (r_tree_RebuildFormula T (st:=fun _:Unit => H) (Fam.const _) (fun X _ _ _ _ _ h => by obtain ⟨h3,rfl⟩:=pureW_some h; exact r_tree_OwnFormula_1 h3) e.2) ?_
 cases m;simp[e]

theorem r_tree_Quantified : C3 Tryz.prog 78 tree_Quantified Fm.av sI Ty.av Fm.av := by
 intro T H a0 a1 a2 r hm
 rw [tree_Quantified] at hm
 have e:=trivial
 refine wi mixed Tryz.func78 [] [] 999 ?_
 have e:=Aj e (show AV.agg [sI a0,sI a1.kind,sL Ty.av a1.args,AV.slice .frz [],AV.slice .frz [Fm.av a2]]=Fm.av (Fm.mk a0 a1 [] [a2]) by rw[Fm.av_mk];rfl)
 cases hm;simp[e]
end Go.Proofs.YtanjokijgbgcpaaGreatDoor
