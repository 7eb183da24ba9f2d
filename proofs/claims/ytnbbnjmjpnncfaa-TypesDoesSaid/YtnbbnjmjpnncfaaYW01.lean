/- The program's functions do what the models say. -/
import Derived.Test.YtnbbnjmjpnncfaaYE
import Derived.Test.YtnbbnjmjpnncfaaYM
set_option maxRecDepth 20000
set_option maxHeartbeats 4000000
set_option linter.unusedSimpArgs false
set_option linter.unusedVariables false
namespace Go.Proofs.Ytnbbnjmjpnncfaa
open Go Go.Abs Go.Mdl

theorem r_ref01_Nat : C0 Try.prog 30 ref01_Nat Ty.av := by
 intro T H r hm
 rw [ref01_Nat] at hm
 have e:=trivial
 refine wi mixed Try.func30 [] [] 999 ?_
 cases hm;simp[e]


theorem rg_ref01_Copy : ∀ (n : Nat), C1 Try.prog 42 (ref01_Copy n) Ty.av Ty.av := by
  intro n
  induction n with
  | zero =>
    skip
    all_goals (intro _ _;intros;rename_i hm;cases hm)
  | succ n ih =>
 intro T H a0 r hm
 rw [ref01_Copy] at hm
 have e:=trivial
 refine wi mixed Try.func42 [] [] 999 ?_
 simp[e]
 refine Wr e hm 999 (fun j1 s2 f h=>∃ (tg0_3:Tag),(h=H∧f.1 1=AV.lptr 1 (f.gen 1) 0∧f.1 2=AV.lptr 2 (f.gen 2) 0∧f.1 3=sT tg0_3 Ty.av s2∧f.1 7=sL Ty.av a0.args∧f.1 8=sI (llen a0.args)∧f.1 9=sI j1∧f.box 1=some (Ty.av a0).cells∧f.box 2=some [sI 0,AV.slice .full []])∧Ow f [17] tg0_3 s2) (by exact ⟨.full,by simp[e],OwnT.full⟩) (fun s2 fr3 h3 K4 E m=>?_) (fun j1 x5 s2 fr3 h3 K4 n6 c7 E e m z8 hK9=>?_)
 ·obtain ⟨tg0_3,E,o0_3⟩:=E
  have e:=Aj e E
  dsimp only[sumK_inl]at m
  cases m;simp[e]
 obtain ⟨tg0_3,E,o0_3⟩:=E
 have e:=Aj e E
 obtain ⟨x10,e,m⟩:=Bo1 e m
 simp[e]
 refine Cf (ih e.2) ?_
 obtain ⟨e,m⟩:=Ck e m
 simp[e]
 refine Ao (f:=Ty.av) s2 [x10] o0_3 ap27 e.2 ?_
 simp[e]
 cases m;exact hK9 _ _ _ ⟨(.loc 17 (fr3.tgen 17 + 1)),by simp[e],(On 17)⟩ z8
theorem r_ref01_Copy {n : Nat} : C1 Try.prog 42 (ref01_Copy n) Ty.av Ty.av := (rg_ref01_Copy n)

theorem r_ref01_Fun : C2 Try.prog 29 ref01_Fun Ty.av Ty.av Ty.av := by
 intro T H a0 a1 r hm
 rw [ref01_Fun] at hm
 have e:=trivial
 refine wi mixed Try.func29 [] [] 999 ?_
 obtain ⟨x1,e,m⟩:=Bo1 e hm
 simp[e]
 refine Cs (r_ref01_Copy e.2) ?_
 obtain ⟨x2,e,m⟩:=Bo1 e m
 simp[e]
 refine Cs (r_ref01_Copy e.2) ?_
 have e:=Aj e (show AV.agg [sI 4,AV.slice .frz [Ty.av x1,Ty.av x2]]=Ty.av (Ty.mk 4 [x1,x2]) by rw[Ty.av_mk];rfl)
 cases m;simp[e]


theorem rg_tree_typeNodes : ∀ (n : Nat), C1 Try.prog 47 (tree_typeNodes n) (t2 sI sB) Ty.av := by
  intro n
  induction n with
  | zero =>
    skip
    all_goals (intro _ _;intros;rename_i hm;cases hm)
  | succ n ih =>
 intro T H a0 r hm
 rw [tree_typeNodes] at hm
 have e:=trivial
 refine wi mixed Try.func47 [] [] 4 ?_
 simp[e]
 refine Wj hm 3 999 (fun j1 f h=>∃ (v2:Int),(h=H∧f.1 1=AV.lptr 1 (f.gen 1) 0∧f.1 4=sI v2∧f.box 1=some (Ty.av a0).cells)∧j1 v2=some r) (fun j1 K3 hk4 m=>?_) ?_
 rotate_left
 ·rintro fr5 h5 ⟨v2,E,m⟩
  have e:=Aj e E
  rcases Io e m with ⟨e,m⟩|⟨e,m⟩
  ·cases m;simp[e]
  simp[e]
  refine Wr e m 999 (fun j6 s7 f h=>h=H∧f.1 5=sI s7∧f.1 25=sL Ty.av a0.args∧f.1 26=sI (llen a0.args)∧f.1 27=sI j6) (by simp[e]) (fun s7 fr8 h8 K9 E m=>?_) (fun j6 x10 s7 fr8 h8 K9 n11 c12 E e m z13 hK14=>?_)
  ·have e:=Aj e E
   dsimp only[sumK_inl]at m
   cases m;simp[e]
  have e:=Aj e E
  obtain ⟨x15,x16,e,m⟩:=Bo2 e m
  simp[e]
  refine Cf (ih e.2) ?_
  rcases Io e m with ⟨e,m⟩|⟨e,m⟩
  rotate_left
  ·cases m;cases z13;simp[e]
  simp[e]
  cases m;exact hK14 _ _ _ (by simp[e]) z13
 simp[e]
 refine wj 999 0 (fun f h=>h=H∧f.1 1=AV.lptr 1 (f.gen 1) 0∧f.1 4=sI 0∧f.1 11=sI a0.kind∧f.1 12=sB (sel (ieq a0.kind 1) true (sel (ieq a0.kind 2) true (ieq a0.kind 5)))∧f.box 1=some (Ty.av a0).cells) (fun K17 hk18=>?_) ?_
 ·rcases Pb (ieq a0.kind 1) e with e|e
  ·simp[e]
   exact hk18 _ _ (by simp[e])
  rcases Pb (ieq a0.kind 2) e with e|e
  ·simp[e]
   exact hk18 _ _ (by simp[e])
  simp[e]
  exact hk18 _ _ (by simp[e])
 rintro fr19 h19 E
 have e:=Aj e E
 rcases Io e m with ⟨e,m⟩|⟨e,m⟩
 ·apply wg 999
  simp[e]
  exact hk4 _ _ ⟨0,by simp[e],m⟩
 apply wg 1
 simp[e]
 refine wj 999 999 (fun f h=>h=H∧f.1 1=AV.lptr 1 (f.gen 1) 0∧f.1 16=sB (sel (ieq a0.kind 3) true (ieq a0.kind 4))∧f.box 1=some (Ty.av a0).cells) (fun K20 hk21=>?_) ?_
 ·rcases Pb (ieq a0.kind 3) e with e|e
  ·simp[e]
   exact hk21 _ _ (by simp[e])
  simp[e]
  exact hk21 _ _ (by simp[e])
 rintro fr22 h22 E
 have e:=Aj e E
 rcases Io e m with ⟨e,m⟩|⟨e,m⟩
 rotate_left
 ·cases m;simp[e]
 simp[e]
 exact hk4 _ _ ⟨2,by simp[e],m⟩
theorem r_tree_typeNodes {n : Nat} : C1 Try.prog 47 (tree_typeNodes n) (t2 sI sB) Ty.av := (rg_tree_typeNodes n)

theorem r_tree_CheckType : C1 Try.prog 35 tree_CheckType (t2 sI sI) Ty.av := by
 intro T H a0 r hm
 rw [tree_CheckType] at hm
 have e:=trivial
 refine wi mixed Try.func35 [] [] 999 ?_
 obtain ⟨x1,x2,e,m⟩:=Bo2 e hm
 simp[e]
 refine Cf (r_tree_typeNodes e.2) ?_
 rcases Io e m with ⟨e,m⟩|⟨e,m⟩
 rotate_left
 ·cases m;simp[e]
 rcases Io e m with ⟨e,m⟩|⟨e,m⟩
 ·cases m;simp[e]
 cases m;simp[e]

theorem r_types_Check : C1 Try.prog 22 types_Check sI Ty.av := by
 intro T H a0 r hm
 rw [types_Check] at hm
 have e:=trivial
 refine wi mixed Try.func22 [] [] 999 ?_
 obtain ⟨x1,x2,e,m⟩:=Bo2 e hm
 simp[e]
 refine Cf (r_tree_CheckType e.2) ?_
 cases m;simp[e]


theorem rg_types_level : ∀ (n : Nat), C1 Try.prog 38 (types_level n) sI Ty.av := by
  intro n
  induction n with
  | zero =>
    skip
    all_goals (intro _ _;intros;rename_i hm;cases hm)
  | succ n ih =>
 intro T H a0 r hm
 rw [types_level] at hm
 have e:=trivial
 refine wi mixed Try.func38 [] [] 999 ?_
 rcases Io e hm with ⟨e,m⟩|⟨e,m⟩
 ·obtain ⟨x1,e,m⟩:=Bo1 e m
  obtain ⟨x2,e,m⟩:=Bo1 e m
  simp[e]
  refine Cs (ih e.2) ?_
  obtain ⟨x3,e,m⟩:=Bo1 e m
  obtain ⟨x4,e,m⟩:=Bo1 e m
  simp[e]
  refine Cs (ih e.2) ?_
  cases m;simp[e]
 rcases Io e m with ⟨e,m⟩|⟨e,m⟩
 rotate_left
 ·cases m;simp[e]
 obtain ⟨x5,e,m⟩:=Bo1 e m
 obtain ⟨x6,e,m⟩:=Bo1 e m
 simp[e]
 refine Cs (ih e.2) ?_
 obtain ⟨x7,e,m⟩:=Bo1 e m
 obtain ⟨x8,e,m⟩:=Bo1 e m
 simp[e]
 refine Cs (ih e.2) ?_
 cases m;simp[e]
theorem r_types_level {n : Nat} : C1 Try.prog 38 (types_level n) sI Ty.av := (rg_types_level n)

theorem r_types_Level : C1 Try.prog 11 types_Level (t2 sI sI) Ty.av := by
 intro T H a0 r hm
 rw [types_Level] at hm
 have e:=trivial
 refine wi mixed Try.func11 [] [] 999 ?_
 obtain ⟨x1,e,m⟩:=Bo1 e hm
 simp[e]
 refine Cf (r_types_Check e.2) ?_
 rcases Io e m with ⟨e,m⟩|⟨e,m⟩
 ·cases m;simp[e]
 obtain ⟨x2,e,m⟩:=Bo1 e m
 simp[e]
 refine Cf (r_types_level e.2) ?_
 cases m;simp[e]

theorem r_law01_sane : C0 Try.prog 6 law01_sane sB := by
 intro T H r hm
 rw [law01_sane] at hm
 have e:=trivial
 refine wi mixed Try.func6 [] [] 8 ?_
 obtain ⟨x1,e,m⟩:=Bo1 e hm
 simp[e]
 refine Cf (r_ref01_Nat e.2) ?_
 obtain ⟨x2,e,m⟩:=Bo1 e m
 simp[e]
 refine Cf (r_ref01_Nat e.2) ?_
 obtain ⟨x3,e,m⟩:=Bo1 e m
 simp[e]
 refine Cf (r_ref01_Fun e.2) ?_
 obtain ⟨x4,x5,e,m⟩:=Bo2 e m
 simp[e]
 refine Cf (r_types_Level e.2) ?_
 obtain ⟨x6,e,m⟩:=Bo1 e m
 simp[e]
 refine Cs (r_ref01_Nat e.2) ?_
 obtain ⟨x7,e,m⟩:=Bo1 e m
 simp[e]
 refine Cs (r_ref01_Fun e.2) ?_
 obtain ⟨x8,x9,e,m⟩:=Bo2 e m
 simp[e]
 refine Cs (r_types_Level e.2) ?_
 simp[e]
 refine wj 999 999 (fun f h=>h=H∧f.1 0=sB (sel (ieq x5 0) (sel (ieq x9 0) (sel (ieq x4 1) (ieq x8 2) false) false) false)) (fun K10 hk11=>?_) ?_
 rotate_left
 ·rintro fr12 h12 E
  have e:=Aj e E
  cases m;simp[e]
 rcases Pb (ieq x5 0) e with e|e
 rotate_left
 ·simp[e]
  exact hk11 _ _ (by simp[e])
 rcases Pb (ieq x9 0) e with e|e
 rotate_left
 ·simp[e]
  exact hk11 _ _ (by simp[e])
 rcases Pb (ieq x4 1) e with e|e
 ·simp[e]
  exact hk11 _ _ (by simp[e])
 simp[e]
 exact hk11 _ _ (by simp[e])

theorem r_mk_Few : C1 Try.prog 7 mk_Few sB (sL sI) := by
 intro T H a0 r hm
 rw [mk_Few] at hm
 have e:=trivial
 refine wi mixed Try.func7 [] [] 999 ?_
 cases hm;simp[e]

theorem enters8 : entersB Try.prog 8 = true := by kernel_rfl
theorem r_mk_New (T : Tabs) {a0 : List Int} {r0 : Smk_Deck} (hm : mk_New a0 = some r0) : ACall Try.prog T 8 [AV.slice .frz (List.map (fun n => AV.sc (Value.int .i64 n)) a0)] [] (AV.gptr 0 0) (hset [[]] 0 [AV.slice .frz (List.map (fun n => AV.sc (Value.int .i64 n)) r0.l), AV.sc (.int .i64 r0.atF)]) := by
  obtain rfl := Option.some.inj hm
  refine ACallP.intro (fn := Try.f8) Try.func8 rfl enters8 (Nat.le_of_ble_eq_true rfl) ?_
  refine AWp.seqK fun K1 hk1 => ?_
  refine AWp.region [] (by decide +kernel) ?_
  simp
  refine hk1 _ _ ?_
  refine AWp.seqK fun K1 hk1 => ?_
  refine AWp.region [5] (by decide +kernel) ?_
  simp
  refine hk1 _ _ ?_
  refine AWp.ret ?_
  simp [retQ, hset]

theorem r_mk_Mod : C2 Try.prog 46 mk_Mod sI sI sI := by
 intro T H a0 a1 r hm
 rw [mk_Mod] at hm
 have e:=trivial
 refine wi mixed Try.func46 [] [] 999 ?_
 obtain ⟨e,m⟩:=Ck e hm
 obtain ⟨e,m⟩:=Ck e m
 cases m;simp[e]

end Go.Proofs.Ytnbbnjmjpnncfaa
