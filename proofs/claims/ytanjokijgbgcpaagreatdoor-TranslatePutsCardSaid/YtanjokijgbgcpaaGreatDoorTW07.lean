/- The program's functions do what the models say. -/
import Derived.Test.YtanjokijgbgcpaaGreatDoorTW06
import Derived.Test.YtanjokijgbgcpaaGreatDoorTM
set_option maxRecDepth 20000
set_option maxHeartbeats 4000000
set_option linter.unusedSimpArgs false
set_option linter.unusedVariables false
namespace Go.Proofs.YtanjokijgbgcpaaGreatDoor
open Go Go.Abs Go.Mdl

theorem r_ref02_T : C3 Tryz.prog 45 ref02_T Tm.av sI Ty.av (sL Tm.av) := by
 intro T H a0 a1 a2 r hm
 rw [ref02_T] at hm
 have e:=trivial
 refine wi mixed Tryz.func45 [] [] 999 ?_
 obtain ⟨x1,e,m⟩:=Bo1 e hm
 simp[e]
 refine Cf (r_ref02_N e.2) ?_
 obtain ⟨x2,e,m⟩:=Bo1 e m
 simp[e]
 refine Cf (r_ref01_Copy e.2) ?_
 cases m;simp[e]

theorem r_ref05_lam : C1 Tryz.prog 86 ref05_lam Tm.av Tm.av := by
 intro T H a0 r hm
 rw [ref05_lam] at hm
 have e:=trivial
 refine wi mixed Tryz.func86 [] [] 999 ?_
 obtain ⟨x1,e,m⟩:=Bo1 e hm
 simp[e]
 refine Cs (r_ref01_Nat e.2) ?_
 obtain ⟨x2,e,m⟩:=Bo1 e m
 simp[e]
 refine Cs (r_ref02_T e.2) ?_
 cases m;simp[e]

theorem r_ref05_rec : C3 Tryz.prog 87 ref05_rec Tm.av Tm.av Tm.av Tm.av := by
 intro T H a0 a1 a2 r hm
 rw [ref05_rec] at hm
 have e:=trivial
 refine wi mixed Tryz.func87 [] [] 999 ?_
 obtain ⟨x1,e,m⟩:=Bo1 e hm
 simp[e]
 refine Cs (r_ref01_Nat e.2) ?_
 obtain ⟨x2,e,m⟩:=Bo1 e m
 simp[e]
 refine Cs (r_ref02_T e.2) ?_
 cases m;simp[e]

theorem r_ref05_Plus : C0 Tryz.prog 47 ref05_Plus Tm.av := by
 intro T H r hm
 rw [ref05_Plus] at hm
 have e:=trivial
 refine wi mixed Tryz.func47 [] [] 999 ?_
 obtain ⟨x1,e,m⟩:=Bo1 e hm
 simp[e]
 refine Cf (r_ref02_Var e.2) ?_
 obtain ⟨x2,e,m⟩:=Bo1 e m
 simp[e]
 refine Cf (r_ref02_Var e.2) ?_
 obtain ⟨x3,e,m⟩:=Bo1 e m
 simp[e]
 refine Cf (r_ref02_N e.2) ?_
 obtain ⟨x4,e,m⟩:=Bo1 e m
 simp[e]
 refine Cf (r_ref05_lam e.2) ?_
 obtain ⟨x5,e,m⟩:=Bo1 e m
 simp[e]
 refine Cf (r_ref05_lam e.2) ?_
 obtain ⟨x6,e,m⟩:=Bo1 e m
 simp[e]
 refine Cf (r_ref02_Var e.2) ?_
 obtain ⟨x7,e,m⟩:=Bo1 e m
 simp[e]
 refine Cf (r_ref05_rec e.2) ?_
 obtain ⟨x8,e,m⟩:=Bo1 e m
 simp[e]
 refine Cf (r_ref05_lam e.2) ?_
 obtain ⟨x9,e,m⟩:=Bo1 e m
 simp[e]
 refine Cf (r_ref05_lam e.2) ?_
 cases m;simp[e]

theorem r_mk_App : C2 Tryz.prog 46 mk_App Tm.av Tm.av (sL Tm.av) := by
 intro T H a0 a1 r hm
 rw [mk_App] at hm
 have e:=trivial
 refine wi mixed Tryz.func46 [] [] 999 ?_
 simp[e]
 refine Wr e hm 999 (fun j1 s2 f h=>h=H∧f.1 2=AV.lptr 2 (f.gen 2) 0∧f.1 4=AV.lptr 4 (f.gen 4) 0∧f.1 7=sL Tm.av a1∧f.1 8=sI (llen a1)∧f.1 9=sI j1∧f.box 2=some [sI s2.1,sI s2.2.1,sI s2.2.2.1,sL Ty.av s2.2.2.2.1,sL Tm.av s2.2.2.2.2]∧f.box 4=some [sI 0,sI 0,sI 0,AV.slice .full [],AV.slice .full []]) (by simp[e]) (fun s2 fr3 h3 K4 E m=>?_) (fun j1 x5 s2 fr3 h3 K4 n6 c7 E e m z8 hK9=>?_)
 ·obtain ⟨v10,v11,v12,v13,v14⟩:=s2
  have e:=Aj e E
  dsimp only[sumK_inl,un5_mk]at m
  cases m;simp[e]
 obtain ⟨v10,v11,v12,v13,v14⟩:=s2
 have e:=Aj e E
 dsimp only[un5_mk]at m
 obtain ⟨x15,e,m⟩:=Bo1 e m
 simp[e]
 refine Cf (r_ref02_N e.2) ?_
 simp[e]
 cases m;exact hK9 _ _ _ (by simp[e]) z8

theorem r_ref05_Pred : C0 Tryz.prog 88 ref05_Pred Tm.av := by
 intro T H r hm
 rw [ref05_Pred] at hm
 have e:=trivial
 refine wi mixed Tryz.func88 [] [] 999 ?_
 obtain ⟨x1,e,m⟩:=Bo1 e hm
 simp[e]
 refine Cf (r_ref02_N e.2) ?_
 obtain ⟨x2,e,m⟩:=Bo1 e m
 simp[e]
 refine Cf (r_ref02_Var e.2) ?_
 obtain ⟨x3,e,m⟩:=Bo1 e m
 simp[e]
 refine Cf (r_ref05_lam e.2) ?_
 obtain ⟨x4,e,m⟩:=Bo1 e m
 simp[e]
 refine Cf (r_ref05_lam e.2) ?_
 obtain ⟨x5,e,m⟩:=Bo1 e m
 simp[e]
 refine Cf (r_ref02_Var e.2) ?_
 obtain ⟨x6,e,m⟩:=Bo1 e m
 simp[e]
 refine Cf (r_ref05_rec e.2) ?_
 obtain ⟨x7,e,m⟩:=Bo1 e m
 simp[e]
 refine Cf (r_ref05_lam e.2) ?_
 cases m;simp[e]

theorem r_ref05_Sub : C0 Tryz.prog 48 ref05_Sub Tm.av := by
 intro T H r hm
 rw [ref05_Sub] at hm
 have e:=trivial
 refine wi mixed Tryz.func48 [] [] 999 ?_
 obtain ⟨x1,e,m⟩:=Bo1 e hm
 simp[e]
 refine Cf (r_ref02_Var e.2) ?_
 obtain ⟨x2,e,m⟩:=Bo1 e m
 simp[e]
 refine Cf (r_ref05_Pred e.2) ?_
 obtain ⟨x3,e,m⟩:=Bo1 e m
 simp[e]
 refine Cf (r_ref02_Var e.2) ?_
 obtain ⟨x4,e,m⟩:=Bo1 e m
 simp[e]
 refine Cf (r_ref02_N e.2) ?_
 obtain ⟨x5,e,m⟩:=Bo1 e m
 simp[e]
 refine Cf (r_ref05_lam e.2) ?_
 obtain ⟨x6,e,m⟩:=Bo1 e m
 simp[e]
 refine Cf (r_ref05_lam e.2) ?_
 obtain ⟨x7,e,m⟩:=Bo1 e m
 simp[e]
 refine Cf (r_ref02_Var e.2) ?_
 obtain ⟨x8,e,m⟩:=Bo1 e m
 simp[e]
 refine Cf (r_ref05_rec e.2) ?_
 obtain ⟨x9,e,m⟩:=Bo1 e m
 simp[e]
 refine Cf (r_ref05_lam e.2) ?_
 obtain ⟨x10,e,m⟩:=Bo1 e m
 simp[e]
 refine Cf (r_ref05_lam e.2) ?_
 cases m;simp[e]


theorem rg_mk_Term (T : Tabs) : ∀ (n : Nat), (∀ {H : Heap} {a0 : Smk_Deck} {a1 : (List Ty)} {a2 : Ty} {a3 : Int} {r0 : Tm} {do0 : Smk_Deck} {o0 : Nat} (ho0 : H[o0]? = some [sL sI a0.l, sI a0.atF]) (hm : mk_Term n a0 a1 a2 a3 = some (r0, do0)), ACall Tryz.prog T 16 [AV.gptr o0 0, sL Ty.av a1, Ty.av a2, sI a3] H (Tm.av r0) (hset H o0 [sL sI do0.l, sI do0.atF])) := by
  intro n
  induction n with
  | zero =>
    skip
    all_goals (intro _ _;intros;rename_i hm;cases hm)
  | succ n ih =>
 intro H a0 a1 a2 a3 r0 do0 o0 ho0 hm
 rw [mk_Term] at hm
 have lo0:=inb_of_get ho0
 refine ACallP.at1 ho0 ?_
 have e:=lo0
 refine wi mixed Tryz.func16 [] [] 5 ?_
 obtain ⟨x1,e,m⟩:=Bo1 e hm
 simp[e]
 refine Cf (r_mk_vars e.2) ?_
 simp[e]
 refine Wj m 999 0 (fun j2 f h=>∃ (v3:Bool) (v4:Smk_Deck),(h=hset H o0 [sL sI v4.l,sI v4.atF]∧f.1 0=AV.gptr o0 0∧f.1 1=sL Ty.av a1∧f.1 3=sI a3∧f.1 6=AV.lptr 6 (f.gen 6) 0∧f.1 8=AV.lptr 8 (f.gen 8) 0∧f.1 9=sL sI x1∧f.1 27=sB v3∧f.box 6=some (Ty.av a2).cells∧f.box 8=some [sI 0,sI 0,sI 0,AV.slice .full [],AV.slice .full []])∧j2 v3 v4=some (r0,do0)) (fun j2 K5 hk6 m=>?_) ?_
 ·rcases Io e m with ⟨e,m⟩|⟨e,m⟩
  rotate_left
  ·simp[e]
   exact hk6 _ _ ⟨false,a0,by simp[e],m⟩
  obtain ⟨x7,d8,e,m⟩:=Bo2 e m
  simp[e]
  refine Cf (r_mk_Deck_Next T (by simp[e]) e.2) ?_
  simp[e]
  exact hk6 _ _ ⟨(igt x7 0),d8,by simp[e],m⟩
 rintro fr9 h9 ⟨v3,v4,E,m⟩
 have e:=Aj e E
 rcases Io e m with ⟨e,m⟩|⟨e,m⟩
 ·apply wg 999
  obtain ⟨x10,d11,e,m⟩:=Bo2 e m
  simp[e]
  refine Cf (r_mk_Deck_Next T (by simp[e]) e.2) ?_
  obtain ⟨x12,e,m⟩:=Bo1 e m
  obtain ⟨x13,e,m⟩:=Bo1 e m
  simp[e]
  refine Cf (r_ref02_Var e.2) ?_
  cases m;simp[e]
 apply wg 2
 simp[e]
 refine Wj m 999 6 (fun j14 f h=>∃ (v15:Smk_Deck),(h=hset H o0 [sL sI v15.l,sI v15.atF]∧f.1 0=AV.gptr o0 0∧f.1 1=sL Ty.av a1∧f.1 3=sI a3∧f.1 6=AV.lptr 6 (f.gen 6) 0∧f.1 8=AV.lptr 8 (f.gen 8) 0∧f.box 6=some (Ty.av a2).cells∧f.box 8=some [sI 0,sI 0,sI 0,AV.slice .full [],AV.slice .full []])∧j14 v15=some (r0,do0)) (fun j14 K16 hk17 m=>?_) ?_
 rotate_left
 ·rintro fr18 h18 ⟨v15,E,m⟩
  have e:=Aj e E
  simp[e]
  rcases Io e m with ⟨e,m⟩|⟨e,m⟩
  ·apply wg 1
   simp[e]
   refine Wj m 999 999 (fun j19 f h=>∃ (v20:Smk_Deck),(h=hset H o0 [sL sI v20.l,sI v20.atF]∧f.1 0=AV.gptr o0 0∧f.1 8=AV.lptr 8 (f.gen 8) 0∧f.box 8=some [sI 0,sI 0,sI 0,AV.slice .full [],AV.slice .full []])∧j19 v20=some (r0,do0)) (fun j19 K21 hk22 m=>?_) ?_
   rotate_left
   ·rintro fr23 h23 ⟨v20,E,m⟩
    have e:=Aj e E
    obtain ⟨x24,d25,e,m⟩:=Bo2 e m
    simp[e]
    refine Cf (r_mk_Deck_Next T (by simp[e]) e.2) ?_
    obtain ⟨x26,e,m⟩:=Bo1 e m
    simp[e]
    refine Cf (r_mk_Num e.2) ?_
    cases m;simp[e]
   rcases Io e m with ⟨e,m⟩|⟨e,m⟩
   rotate_left
   ·simp[e]
    exact hk22 _ _ ⟨v15,by simp[e],m⟩
   obtain ⟨x27,d28,e,m⟩:=Bo2 e m
   simp[e]
   refine Cf (r_mk_Deck_Next T (by simp[e]) e.2) ?_
   rcases Io e m with ⟨e,m⟩|⟨e,m⟩
   ·obtain ⟨x29,d30,e,m⟩:=Bo2 e m
    simp[e]
    refine Cf (ih (by simp[e]) e.2) ?_
    obtain ⟨x31,e,m⟩:=Bo1 e m
    simp[e]
    refine Cf (r_ref02_N e.2) ?_
    cases m;simp[e]
   rcases Io e m with ⟨e,m⟩|⟨e,m⟩
   ·obtain ⟨x32,e,m⟩:=Bo1 e m
    simp[e]
    refine Cs (r_ref05_Plus e.2) ?_
    obtain ⟨x33,d34,e,m⟩:=Bo2 e m
    simp[e]
    refine Cs (ih (by simp[e]) e.2) ?_
    obtain ⟨x35,d36,e,m⟩:=Bo2 e m
    simp[e]
    refine Cs (ih (by simp[e]) e.2) ?_
    obtain ⟨x37,e,m⟩:=Bo1 e m
    simp[e]
    refine Cs (r_mk_App e.2) ?_
    cases m;simp[e]
   rcases Io e m with ⟨e,m⟩|⟨e,m⟩
   rotate_left
   ·simp[e]
    exact hk22 _ _ ⟨d28,by simp[e],m⟩
   obtain ⟨x38,e,m⟩:=Bo1 e m
   simp[e]
   refine Cs (r_ref05_Sub e.2) ?_
   obtain ⟨x39,d40,e,m⟩:=Bo2 e m
   simp[e]
   refine Cs (ih (by simp[e]) e.2) ?_
   obtain ⟨x41,d42,e,m⟩:=Bo2 e m
   simp[e]
   refine Cs (ih (by simp[e]) e.2) ?_
   obtain ⟨x43,e,m⟩:=Bo1 e m
   simp[e]
   refine Cs (r_mk_App e.2) ?_
   cases m;simp[e]
  apply wg 3
  simp[e]
  rcases Io e m with ⟨e,m⟩|⟨e,m⟩
  rotate_left
  ·apply wg 999
   rcases Io e m with ⟨e,m⟩|⟨e,m⟩
   ·obtain ⟨x44,e,m⟩:=Bo1 e m
    obtain ⟨x45,d46,e,m⟩:=Bo2 e m
    simp[e]
    refine Cs (ih (by simp[e]) e.2) ?_
    obtain ⟨x47,e,m⟩:=Bo1 e m
    obtain ⟨x48,d49,e,m⟩:=Bo2 e m
    simp[e]
    refine Cs (ih (by simp[e]) e.2) ?_
    obtain ⟨x50,e,m⟩:=Bo1 e m
    simp[e]
    refine Cs (r_ref02_N e.2) ?_
    cases m;simp[e]
   rcases Io e m with ⟨e,m⟩|⟨e,m⟩
   rotate_left
   ·obtain ⟨x51,e,m⟩:=Bo1 e m
    simp[e]
    refine Cf (r_ref02_N e.2) ?_
    cases m;simp[e]
   obtain ⟨x52,e,m⟩:=Bo1 e m
   obtain ⟨x53,e,m⟩:=Bo1 e m
   simp[e]
   refine Cs (r_mk_longer e.2) ?_
   obtain ⟨x54,e,m⟩:=Bo1 e m
   obtain ⟨x55,d56,e,m⟩:=Bo2 e m
   simp[e]
   refine Cs (ih (by simp[e]) e.2) ?_
   obtain ⟨x57,e,m⟩:=Bo1 e m
   simp[e]
   refine Cs (r_ref02_T e.2) ?_
   cases m;simp[e]
  apply wg 2
  simp[e]
  refine Wj m 999 999 (fun j58 f h=>∃ (v59:Bool) (v60:Smk_Deck),(h=hset H o0 [sL sI v60.l,sI v60.atF]∧f.1 0=AV.gptr o0 0∧f.1 1=sL Ty.av a1∧f.1 3=sI a3∧f.1 6=AV.lptr 6 (f.gen 6) 0∧f.1 8=AV.lptr 8 (f.gen 8) 0∧f.1 276=sB v59∧f.box 6=some (Ty.av a2).cells∧f.box 8=some [sI 0,sI 0,sI 0,AV.slice .full [],AV.slice .full []])∧j58 v59 v60=some (r0,do0)) (fun j58 K61 hk62 m=>?_) ?_
  ·rcases Io e m with ⟨e,m⟩|⟨e,m⟩
   rotate_left
   ·simp[e]
    exact hk62 _ _ ⟨false,v15,by simp[e],m⟩
   obtain ⟨x63,d64,e,m⟩:=Bo2 e m
   simp[e]
   refine Cf (r_mk_Deck_Next T (by simp[e]) e.2) ?_
   simp[e]
   exact hk62 _ _ ⟨(ieq x63 0),d64,by simp[e],m⟩
  rintro fr65 h65 ⟨v59,v60,E,m⟩
  have e:=Aj e E
  rcases Io e m with ⟨e,m⟩|⟨e,m⟩
  rotate_left
  ·obtain ⟨x66,e,m⟩:=Bo1 e m
   simp[e]
   refine Cf (r_ref02_N e.2) ?_
   cases m;simp[e]
  obtain ⟨x67,e,m⟩:=Bo1 e m
  simp[e]
  refine Cs (r_ref01_Nat e.2) ?_
  obtain ⟨x68,d69,e,m⟩:=Bo2 e m
  simp[e]
  refine Cs (ih (by simp[e]) e.2) ?_
  obtain ⟨x70,d71,e,m⟩:=Bo2 e m
  simp[e]
  refine Cs (ih (by simp[e]) e.2) ?_
  obtain ⟨x72,e,m⟩:=Bo1 e m
  simp[e]
  refine Cs (r_ref02_N e.2) ?_
  cases m;simp[e]
 rcases Io e m with ⟨e,m⟩|⟨e,m⟩
 rotate_left
 ·simp[e]
  exact hk17 _ _ ⟨v4,by simp[e],m⟩
 obtain ⟨x73,d74,e,m⟩:=Bo2 e m
 simp[e]
 refine Cf (r_mk_Deck_Next T (by simp[e]) e.2) ?_
 rcases Io e m with ⟨e,m⟩|⟨e,m⟩
 ·obtain ⟨x75,d76,e,m⟩:=Bo2 e m
  simp[e]
  refine Cf (r_mk_Type T (by simp[e]) e.2) ?_
  obtain ⟨x77,e,m⟩:=Bo1 e m
  simp[e]
  refine Cs (r_mk_longer e.2) ?_
  obtain ⟨x78,d79,e,m⟩:=Bo2 e m
  simp[e]
  refine Cs (ih (by simp[e]) e.2) ?_
  obtain ⟨x80,e,m⟩:=Bo1 e m
  simp[e]
  refine Cs (r_ref02_T e.2) ?_
  obtain ⟨x81,d82,e,m⟩:=Bo2 e m
  simp[e]
  refine Cs (ih (by simp[e]) e.2) ?_
  obtain ⟨x83,e,m⟩:=Bo1 e m
  simp[e]
  refine Cs (r_ref02_N e.2) ?_
  cases m;simp[e]
 rcases Io e m with ⟨e,m⟩|⟨e,m⟩
 ·obtain ⟨x84,d85,e,m⟩:=Bo2 e m
  simp[e]
  refine Cf (r_mk_Type T (by simp[e]) e.2) ?_
  obtain ⟨x86,d87,e,m⟩:=Bo2 e m
  simp[e]
  refine Cs (ih (by simp[e]) e.2) ?_
  obtain ⟨x88,d89,e,m⟩:=Bo2 e m
  simp[e]
  refine Cs (ih (by simp[e]) e.2) ?_
  obtain ⟨x90,e,m⟩:=Bo1 e m
  simp[e]
  refine Cs (r_ref02_N e.2) ?_
  obtain ⟨x91,e,m⟩:=Bo1 e m
  simp[e]
  refine Cs (r_ref02_N e.2) ?_
  cases m;simp[e]
 rcases Io e m with ⟨e,m⟩|⟨e,m⟩
 ·obtain ⟨x92,e,m⟩:=Bo1 e m
  simp[e]
  refine Cs (r_ref01_Nat e.2) ?_
  obtain ⟨x93,e,m⟩:=Bo1 e m
  simp[e]
  refine Cs (r_ref01_Nat e.2) ?_
  obtain ⟨x94,e,m⟩:=Bo1 e m
  simp[e]
  refine Cs (r_mk_longer e.2) ?_
  obtain ⟨x95,d96,e,m⟩:=Bo2 e m
  simp[e]
  refine Cs (ih (by simp[e]) e.2) ?_
  obtain ⟨x97,e,m⟩:=Bo1 e m
  simp[e]
  refine Cs (r_ref02_T e.2) ?_
  obtain ⟨x98,e,m⟩:=Bo1 e m
  simp[e]
  refine Cs (r_ref02_T e.2) ?_
  obtain ⟨x99,d100,e,m⟩:=Bo2 e m
  simp[e]
  refine Cs (ih (by simp[e]) e.2) ?_
  obtain ⟨x101,d102,e,m⟩:=Bo2 e m
  simp[e]
  refine Cs (r_mk_Deck_Next T (by simp[e]) e.2) ?_
  obtain ⟨x103,e,m⟩:=Bo1 e m
  simp[e]
  refine Cs (r_mk_Num e.2) ?_
  obtain ⟨x104,e,m⟩:=Bo1 e m
  simp[e]
  refine Cs (r_ref02_T e.2) ?_
  cases m;simp[e]
 rcases Io e m with ⟨e,m⟩|⟨e,m⟩
 ·obtain ⟨x105,e,m⟩:=Bo1 e m
  simp[e]
  refine Cs (r_ref01_Nat e.2) ?_
  obtain ⟨x106,e,m⟩:=Bo1 e m
  simp[e]
  refine Cs (r_ref01_List e.2) ?_
  obtain ⟨x107,e,m⟩:=Bo1 e m
  simp[e]
  refine Cs (r_ref01_Nat e.2) ?_
  obtain ⟨x108,e,m⟩:=Bo1 e m
  simp[e]
  refine Cs (r_ref01_List e.2) ?_
  obtain ⟨x109,e,m⟩:=Bo1 e m
  simp[e]
  refine Cs (r_mk_longer e.2) ?_
  obtain ⟨x110,d111,e,m⟩:=Bo2 e m
  simp[e]
  refine Cs (ih (by simp[e]) e.2) ?_
  obtain ⟨x112,e,m⟩:=Bo1 e m
  simp[e]
  refine Cs (r_ref02_T e.2) ?_
  obtain ⟨x113,e,m⟩:=Bo1 e m
  simp[e]
  refine Cs (r_ref02_T e.2) ?_
  obtain ⟨x114,e,m⟩:=Bo1 e m
  simp[e]
  refine Cs (r_ref02_T e.2) ?_
  obtain ⟨x115,d116,e,m⟩:=Bo2 e m
  simp[e]
  refine Cs (ih (by simp[e]) e.2) ?_
  obtain ⟨x117,e,m⟩:=Bo1 e m
  simp[e]
  refine Cs (r_ref01_List e.2) ?_
  obtain ⟨x118,d119,e,m⟩:=Bo2 e m
  simp[e]
  refine Cs (ih (by simp[e]) e.2) ?_
  obtain ⟨x120,e,m⟩:=Bo1 e m
  simp[e]
  refine Cs (r_ref02_T e.2) ?_
  cases m;simp[e]
 rcases Io e m with ⟨e,m⟩|⟨e,m⟩
 ·obtain ⟨x121,d122,e,m⟩:=Bo2 e m
  simp[e]
  refine Cf (r_mk_Type T (by simp[e]) e.2) ?_
  obtain ⟨x123,d124,e,m⟩:=Bo2 e m
  simp[e]
  refine Cs (ih (by simp[e]) e.2) ?_
  obtain ⟨x125,d126,e,m⟩:=Bo2 e m
  simp[e]
  refine Cs (ih (by simp[e]) e.2) ?_
  obtain ⟨x127,e,m⟩:=Bo1 e m
  simp[e]
  refine Cs (r_ref02_N e.2) ?_
  obtain ⟨x128,e,m⟩:=Bo1 e m
  simp[e]
  refine Cs (r_ref02_N e.2) ?_
  cases m;simp[e]
 rcases Io e m with ⟨e,m⟩|⟨e,m⟩
 rotate_left
 ·simp[e]
  exact hk17 _ _ ⟨d74,by simp[e],m⟩
 simp[e]
 refine Wr e m 0 (fun j129 s130 f h=>h=hset H o0 [sL sI d74.l,sI d74.atF]∧f.1 0=AV.gptr o0 0∧f.1 1=sL Ty.av a1∧f.1 3=sI a3∧f.1 6=AV.lptr 6 (f.gen 6) 0∧f.1 8=AV.lptr 8 (f.gen 8) 0∧f.1 176=sI (llen a1)∧f.1 177=sI j129∧f.box 6=some (Ty.av a2).cells∧f.box 8=some [sI 0,sI 0,sI 0,AV.slice .full [],AV.slice .full []]) (by simp[e]) (fun s130 fr131 h131 K132 E m=>?_) (fun j129 x133 s130 fr131 h131 K132 n134 c135 E e m z136 hK137=>?_)
 ·have e:=Aj e E
  apply wg 999
  dsimp only[sumK_inl]at m
  simp[e]
  exact hk17 _ _ ⟨d74,by simp[e],m⟩
 have e:=Aj e E
 apply wg 11
 obtain ⟨x138,e,m⟩:=Bo1 e m
 simp[e]
 refine Wj m 999 999 (fun j139 f h=>∃ (v140:Bool),(h=hset H o0 [sL sI d74.l,sI d74.atF]∧f.1 0=AV.gptr o0 0∧f.1 1=sL Ty.av a1∧f.1 3=sI a3∧f.1 6=AV.lptr 6 (f.gen 6) 0∧f.1 8=AV.lptr 8 (f.gen 8) 0∧f.1 15=sI j129∧f.1 16=AV.lptr 16 (f.gen 16) 0∧f.1 176=sI (llen a1)∧f.1 177=sI j129∧f.1 198=sB v140∧f.box 6=some (Ty.av a2).cells∧f.box 8=some [sI 0,sI 0,sI 0,AV.slice .full [],AV.slice .full []]∧f.box 16=some (Ty.av x138).cells)∧j139 v140=some c135) (fun j139 K141 hk142 m=>?_) ?_
 ·rcases Io e m with ⟨e,m⟩|⟨e,m⟩
  rotate_left
  ·simp[e]
   exact hk142 _ _ ⟨false,by simp[e],m⟩
  obtain ⟨x143,e,m⟩:=Bo1 e m
  obtain ⟨x144,e,m⟩:=Bo1 e m
  simp[e]
  refine Cs (r_ref01_Same e.2) ?_
  simp[e]
  exact hk142 _ _ ⟨x144,by simp[e],m⟩
 rintro fr145 h145 ⟨v140,E,m⟩
 have e:=Aj e E
 rcases Io e m with ⟨e,m⟩|⟨e,m⟩
 rotate_left
 ·simp[e]
  cases m;exact hK137 _ _ _ (by simp[e]) z136
 obtain ⟨x146,e,m⟩:=Bo1 e m
 simp[e]
 refine Cs (r_ref02_Var e.2) ?_
 obtain ⟨x147,e,m⟩:=Bo1 e m
 obtain ⟨x148,d149,e,m⟩:=Bo2 e m
 simp[e]
 refine Cs (ih (by simp[e]) e.2) ?_
 obtain ⟨x150,e,m⟩:=Bo1 e m
 simp[e]
 refine Cs (r_ref02_N e.2) ?_
 cases m;cases z136;simp[e]
theorem r_mk_Term (T : Tabs) {H : Heap} {a0 : Smk_Deck} {a1 : (List Ty)} {a2 : Ty} {a3 : Int} {r0 : Tm} {do0 : Smk_Deck} {o0 : Nat} (ho0 : H[o0]? = some [sL sI a0.l, sI a0.atF]) {n : Nat} (hm : mk_Term n a0 a1 a2 a3 = some (r0, do0)) : ACall Tryz.prog T 16 [AV.gptr o0 0, sL Ty.av a1, Ty.av a2, sI a3] H (Tm.av r0) (hset H o0 [sL sI do0.l, sI do0.atF]) := (rg_mk_Term T n) ho0 hm


theorem rg_mk_Pure (T : Tabs) : ∀ (n : Nat), (∀ {H : Heap} {a0 : Smk_Deck} {a1 : (List Ty)} {a2 : Int} {r0 : Fm} {do0 : Smk_Deck} {o0 : Nat} (ho0 : H[o0]? = some [sL sI a0.l, sI a0.atF]) (hm : mk_Pure n a0 a1 a2 = some (r0, do0)), ACall Tryz.prog T 10 [AV.gptr o0 0, sL Ty.av a1, sI a2] H (Fm.av r0) (hset H o0 [sL sI do0.l, sI do0.atF])) := by
  intro n
  induction n with
  | zero =>
    skip
    all_goals (intro _ _;intros;rename_i hm;cases hm)
  | succ n ih =>
 intro H a0 a1 a2 r0 do0 o0 ho0 hm
 rw [mk_Pure] at hm
 have lo0:=inb_of_get ho0
 refine ACallP.at1 ho0 ?_
 have e:=lo0
 refine wi mixed Tryz.func10 [] [] 2 ?_
 simp[e]
 refine Wj hm 2 999 (fun j1 f h=>∃ (v2:Smk_Deck),(h=hset H o0 [sL sI v2.l,sI v2.atF]∧f.1 0=AV.gptr o0 0∧f.1 1=sL Ty.av a1∧f.1 6=AV.lptr 6 (f.gen 6) 0∧f.box 6=some [sI 0,sI 0,AV.slice .full [],AV.slice .full [],AV.slice .full []])∧j1 v2=some (r0,do0)) (fun j1 K3 hk4 m=>?_) ?_
 rotate_left
 ·rintro fr5 h5 ⟨v2,E,m⟩
  have e:=Aj e E
  obtain ⟨x6,e,m⟩:=Bo1 e m
  simp[e]
  refine Cf (r_ref01_Nat e.2) ?_
  obtain ⟨x7,d8,e,m⟩:=Bo2 e m
  simp[e]
  refine Cs (r_mk_Term T (by simp[e]) e.2) ?_
  obtain ⟨x9,d10,e,m⟩:=Bo2 e m
  simp[e]
  refine Cs (r_mk_Term T (by simp[e]) e.2) ?_
  obtain ⟨x11,e,m⟩:=Bo1 e m
  simp[e]
  refine Cs (r_ref07_Eq e.2) ?_
  cases m;simp[e]
 simp[e]
 rcases Io e m with ⟨e,m⟩|⟨e,m⟩
 rotate_left
 ·apply wg 999
  simp[e]
  exact hk4 _ _ ⟨a0,by simp[e],m⟩
 apply wg 6
 obtain ⟨x12,d13,e,m⟩:=Bo2 e m
 simp[e]
 refine Cf (r_mk_Deck_Next T (by simp[e]) e.2) ?_
 simp[e]
 rcases Io e m with ⟨e,m⟩|⟨e,m⟩
 ·apply wg 999
  obtain ⟨x14,d15,e,m⟩:=Bo2 e m
  simp[e]
  refine Cf (ih (by simp[e]) e.2) ?_
  obtain ⟨x16,d17,e,m⟩:=Bo2 e m
  simp[e]
  refine Cf (ih (by simp[e]) e.2) ?_
  obtain ⟨x18,e,m⟩:=Bo1 e m
  simp[e]
  refine Cf (r_ref07_Two e.2) ?_
  cases m;simp[e]
 apply wg 1
 simp[e]
 refine wj 999 0 (fun f h=>h=hset H o0 [sL sI d13.l,sI d13.atF]∧f.1 0=AV.gptr o0 0∧f.1 1=sL Ty.av a1∧f.1 2=sI a2∧f.1 6=AV.lptr 6 (f.gen 6) 0∧f.1 13=sI x12∧f.1 27=sB (sel (ieq x12 1) true (ieq x12 2))∧f.box 6=some [sI 0,sI 0,AV.slice .full [],AV.slice .full [],AV.slice .full []]) (fun K19 hk20=>?_) ?_
 ·rcases Pb (ieq x12 1) e with e|e
  ·simp[e]
   exact hk20 _ _ (by simp[e])
  simp[e]
  exact hk20 _ _ (by simp[e])
 rintro fr21 h21 E
 have e:=Aj e E
 rcases Io e m with ⟨e,m⟩|⟨e,m⟩
 ·apply wg 999
  obtain ⟨x22,d23,e,m⟩:=Bo2 e m
  simp[e]
  refine Cf (ih (by simp[e]) e.2) ?_
  obtain ⟨x24,d25,e,m⟩:=Bo2 e m
  simp[e]
  refine Cf (ih (by simp[e]) e.2) ?_
  obtain ⟨x26,e,m⟩:=Bo1 e m
  simp[e]
  refine Cf (r_ref07_Two e.2) ?_
  cases m;simp[e]
 apply wg 1
 simp[e]
 refine wj 999 999 (fun f h=>h=hset H o0 [sL sI d13.l,sI d13.atF]∧f.1 0=AV.gptr o0 0∧f.1 1=sL Ty.av a1∧f.1 2=sI a2∧f.1 6=AV.lptr 6 (f.gen 6) 0∧f.1 13=sI x12∧f.1 41=sB (sel (ieq x12 3) true (ieq x12 4))∧f.box 6=some [sI 0,sI 0,AV.slice .full [],AV.slice .full [],AV.slice .full []]) (fun K27 hk28=>?_) ?_
 ·rcases Pb (ieq x12 3) e with e|e
  ·simp[e]
   exact hk28 _ _ (by simp[e])
  simp[e]
  exact hk28 _ _ (by simp[e])
 rintro fr29 h29 E
 have e:=Aj e E
 rcases Io e m with ⟨e,m⟩|⟨e,m⟩
 ·obtain ⟨x30,d31,e,m⟩:=Bo2 e m
  simp[e]
  refine Cf (r_mk_Type T (by simp[e]) e.2) ?_
  obtain ⟨x32,e,m⟩:=Bo1 e m
  simp[e]
  refine Cs (r_mk_longer e.2) ?_
  obtain ⟨x33,d34,e,m⟩:=Bo2 e m
  simp[e]
  refine Cs (ih (by simp[e]) e.2) ?_
  obtain ⟨x35,e,m⟩:=Bo1 e m
  simp[e]
  refine Cs (r_ref07_Q e.2) ?_
  cases m;simp[e]
 rcases Io e m with ⟨e,m⟩|⟨e,m⟩
 rotate_left
 ·simp[e]
  exact hk4 _ _ ⟨d13,by simp[e],m⟩
 obtain ⟨x36,d37,e,m⟩:=Bo2 e m
 simp[e]
 refine Cf (r_mk_Type T (by simp[e]) e.2) ?_
 obtain ⟨x38,e,m⟩:=Bo1 e m
 simp[e]
 refine Cs (r_mk_longer e.2) ?_
 obtain ⟨x39,d40,e,m⟩:=Bo2 e m
 simp[e]
 refine Cs (ih (by simp[e]) e.2) ?_
 obtain ⟨x41,e,m⟩:=Bo1 e m
 simp[e]
 refine Cs (r_ref07_Q e.2) ?_
 cases m;simp[e]
theorem r_mk_Pure (T : Tabs) {H : Heap} {a0 : Smk_Deck} {a1 : (List Ty)} {a2 : Int} {r0 : Fm} {do0 : Smk_Deck} {o0 : Nat} (ho0 : H[o0]? = some [sL sI a0.l, sI a0.atF]) {n : Nat} (hm : mk_Pure n a0 a1 a2 = some (r0, do0)) : ACall Tryz.prog T 10 [AV.gptr o0 0, sL Ty.av a1, sI a2] H (Fm.av r0) (hset H o0 [sL sI do0.l, sI do0.atF]) := (rg_mk_Pure T n) ho0 hm


theorem rg_mk_Formula (T : Tabs) : ∀ (n : Nat), (∀ {H : Heap} {a0 : Smk_Deck} {a1 : (List Ty)} {a2 : Int} {r0 : Fm} {do0 : Smk_Deck} {o0 : Nat} (ho0 : H[o0]? = some [sL sI a0.l, sI a0.atF]) (hm : mk_Formula n a0 a1 a2 = some (r0, do0)), ACall Tryz.prog T 11 [AV.gptr o0 0, sL Ty.av a1, sI a2] H (Fm.av r0) (hset H o0 [sL sI do0.l, sI do0.atF])) := by
  intro n
  induction n with
  | zero =>
    skip
    all_goals (intro _ _;intros;rename_i hm;cases hm)
  | succ n ih =>
 intro H a0 a1 a2 r0 do0 o0 ho0 hm
 rw [mk_Formula] at hm
 have lo0:=inb_of_get ho0
 refine ACallP.at1 ho0 ?_
 have e:=lo0
 refine wi mixed Tryz.func11 [] [] 2 ?_
 simp[e]
 refine Wj hm 2 999 (fun j1 f h=>∃ (v2:Smk_Deck),(h=hset H o0 [sL sI v2.l,sI v2.atF]∧f.1 0=AV.gptr o0 0∧f.1 1=sL Ty.av a1∧f.1 6=AV.lptr 6 (f.gen 6) 0∧f.box 6=some [sI 0,sI 0,AV.slice .full [],AV.slice .full [],AV.slice .full []])∧j1 v2=some (r0,do0)) (fun j1 K3 hk4 m=>?_) ?_
 rotate_left
 ·rintro fr5 h5 ⟨v2,E,m⟩
  have e:=Aj e E
  obtain ⟨x6,e,m⟩:=Bo1 e m
  simp[e]
  refine Cf (r_ref01_Nat e.2) ?_
  obtain ⟨x7,d8,e,m⟩:=Bo2 e m
  simp[e]
  refine Cs (r_mk_Term T (by simp[e]) e.2) ?_
  obtain ⟨x9,d10,e,m⟩:=Bo2 e m
  simp[e]
  refine Cs (r_mk_Term T (by simp[e]) e.2) ?_
  obtain ⟨x11,e,m⟩:=Bo1 e m
  simp[e]
  refine Cs (r_ref07_Eq e.2) ?_
  cases m;simp[e]
 simp[e]
 rcases Io e m with ⟨e,m⟩|⟨e,m⟩
 rotate_left
 ·apply wg 999
  simp[e]
  exact hk4 _ _ ⟨a0,by simp[e],m⟩
 apply wg 6
 obtain ⟨x12,d13,e,m⟩:=Bo2 e m
 simp[e]
 refine Cf (r_mk_Deck_Next T (by simp[e]) e.2) ?_
 simp[e]
 rcases Io e m with ⟨e,m⟩|⟨e,m⟩
 ·apply wg 999
  obtain ⟨x14,d15,e,m⟩:=Bo2 e m
  simp[e]
  refine Cf (ih (by simp[e]) e.2) ?_
  obtain ⟨x16,d17,e,m⟩:=Bo2 e m
  simp[e]
  refine Cf (ih (by simp[e]) e.2) ?_
  obtain ⟨x18,e,m⟩:=Bo1 e m
  simp[e]
  refine Cf (r_ref07_Two e.2) ?_
  cases m;simp[e]
 apply wg 1
 simp[e]
 refine wj 999 0 (fun f h=>h=hset H o0 [sL sI d13.l,sI d13.atF]∧f.1 0=AV.gptr o0 0∧f.1 1=sL Ty.av a1∧f.1 2=sI a2∧f.1 6=AV.lptr 6 (f.gen 6) 0∧f.1 14=sI x12∧f.1 28=sB (sel (ieq x12 1) true (ieq x12 2))∧f.box 6=some [sI 0,sI 0,AV.slice .full [],AV.slice .full [],AV.slice .full []]) (fun K19 hk20=>?_) ?_
 ·rcases Pb (ieq x12 1) e with e|e
  ·simp[e]
   exact hk20 _ _ (by simp[e])
  simp[e]
  exact hk20 _ _ (by simp[e])
 rintro fr21 h21 E
 have e:=Aj e E
 rcases Io e m with ⟨e,m⟩|⟨e,m⟩
 ·apply wg 999
  obtain ⟨x22,d23,e,m⟩:=Bo2 e m
  simp[e]
  refine Cf (ih (by simp[e]) e.2) ?_
  obtain ⟨x24,d25,e,m⟩:=Bo2 e m
  simp[e]
  refine Cf (ih (by simp[e]) e.2) ?_
  obtain ⟨x26,e,m⟩:=Bo1 e m
  simp[e]
  refine Cf (r_ref07_Two e.2) ?_
  cases m;simp[e]
 apply wg 1
 simp[e]
 refine wj 999 999 (fun f h=>h=hset H o0 [sL sI d13.l,sI d13.atF]∧f.1 0=AV.gptr o0 0∧f.1 1=sL Ty.av a1∧f.1 2=sI a2∧f.1 6=AV.lptr 6 (f.gen 6) 0∧f.1 14=sI x12∧f.1 42=sB (sel (ieq x12 3) true (ieq x12 4))∧f.box 6=some [sI 0,sI 0,AV.slice .full [],AV.slice .full [],AV.slice .full []]) (fun K27 hk28=>?_) ?_
 ·rcases Pb (ieq x12 3) e with e|e
  ·simp[e]
   exact hk28 _ _ (by simp[e])
  simp[e]
  exact hk28 _ _ (by simp[e])
 rintro fr29 h29 E
 have e:=Aj e E
 rcases Io e m with ⟨e,m⟩|⟨e,m⟩
 ·obtain ⟨x30,d31,e,m⟩:=Bo2 e m
  simp[e]
  refine Cf (r_mk_Type T (by simp[e]) e.2) ?_
  obtain ⟨x32,e,m⟩:=Bo1 e m
  simp[e]
  refine Cs (r_mk_longer e.2) ?_
  obtain ⟨x33,d34,e,m⟩:=Bo2 e m
  simp[e]
  refine Cs (ih (by simp[e]) e.2) ?_
  obtain ⟨x35,e,m⟩:=Bo1 e m
  simp[e]
  refine Cs (r_ref07_Q e.2) ?_
  cases m;simp[e]
 rcases Io e m with ⟨e,m⟩|⟨e,m⟩
 ·obtain ⟨x36,d37,e,m⟩:=Bo2 e m
  simp[e]
  refine Cf (r_mk_Type T (by simp[e]) e.2) ?_
  obtain ⟨x38,e,m⟩:=Bo1 e m
  simp[e]
  refine Cs (r_mk_longer e.2) ?_
  obtain ⟨x39,d40,e,m⟩:=Bo2 e m
  simp[e]
  refine Cs (ih (by simp[e]) e.2) ?_
  obtain ⟨x41,e,m⟩:=Bo1 e m
  simp[e]
  refine Cs (r_ref07_Q e.2) ?_
  cases m;simp[e]
 rcases Io e m with ⟨e,m⟩|⟨e,m⟩
 rotate_left
 ·simp[e]
  exact hk4 _ _ ⟨d13,by simp[e],m⟩
 obtain ⟨x42,d43,e,m⟩:=Bo2 e m
 simp[e]
 refine Cf (r_mk_Type T (by simp[e]) e.2) ?_
 obtain ⟨x44,d45,e,m⟩:=Bo2 e m
 simp[e]
 refine Cs (r_mk_Deck_Next T (by simp[e]) e.2) ?_
 obtain ⟨x46,e,m⟩:=Bo1 e m
 simp[e]
 refine Cs (r_mk_longer e.2) ?_
 obtain ⟨x47,d48,e,m⟩:=Bo2 e m
 simp[e]
 refine Cs (ih (by simp[e]) e.2) ?_
 obtain ⟨x49,e,m⟩:=Bo1 e m
 simp[e]
 refine Cs (r_ref07_Q e.2) ?_
 cases m;simp[e]
theorem r_mk_Formula (T : Tabs) {H : Heap} {a0 : Smk_Deck} {a1 : (List Ty)} {a2 : Int} {r0 : Fm} {do0 : Smk_Deck} {o0 : Nat} (ho0 : H[o0]? = some [sL sI a0.l, sI a0.atF]) {n : Nat} (hm : mk_Formula n a0 a1 a2 = some (r0, do0)) : ACall Tryz.prog T 11 [AV.gptr o0 0, sL Ty.av a1, sI a2] H (Fm.av r0) (hset H o0 [sL sI do0.l, sI do0.atF]) := (rg_mk_Formula T n) ho0 hm

theorem r_ref01_Zero : C1 Tryz.prog 97 ref01_Zero sB Ty.av := by
 intro T H a0 r hm
 rw [ref01_Zero] at hm
 have e:=trivial
 refine wi mixed Tryz.func97 [] [] 2 ?_
 simp[e]
 refine wj 999 999 (fun f h=>h=H∧f.1 2=sB (sel (ieq a0.kind 0) (ieq (llen a0.args) 0) false)) (fun K1 hk2=>?_) ?_
 rotate_left
 ·rintro fr3 h3 E
  have e:=Aj e E
  cases hm;simp[e]
 rcases Pb (ieq a0.kind 0) e with e|e
 ·simp[e]
  exact hk2 _ _ (by simp[e])
 simp[e]
 exact hk2 _ _ (by simp[e])

theorem r_ref02_args : C1 Tryz.prog 96 ref02_args sI sI := by
 intro T H a0 r hm
 rw [ref02_args] at hm
 have e:=trivial
 refine wi mixed Tryz.func96 [] [] 6 ?_
 simp[e]
 refine wj 999 0 (fun f h=>h=H∧f.1 3=sI a0∧f.1 4=sB (sel (ieq a0 1) true (sel (ieq a0 4) true (sel (ieq a0 7) true (ieq a0 13))))) (fun K1 hk2=>?_) ?_
 ·rcases Pb (ieq a0 1) e with e|e
  ·simp[e]
   exact hk2 _ _ (by simp[e])
  rcases Pb (ieq a0 4) e with e|e
  ·simp[e]
   exact hk2 _ _ (by simp[e])
  rcases Pb (ieq a0 7) e with e|e
  ·simp[e]
   exact hk2 _ _ (by simp[e])
  simp[e]
  exact hk2 _ _ (by simp[e])
 rintro fr3 h3 E
 have e:=Aj e E
 rcases Io e hm with ⟨e,m⟩|⟨e,m⟩
 ·apply wg 999
  cases m;simp[e]
 apply wg 1
 simp[e]
 refine wj 999 0 (fun f h=>h=H∧f.1 3=sI a0∧f.1 9=sB (sel (ieq a0 2) true (sel (ieq a0 5) true (sel (ieq a0 11) true (ieq a0 12))))) (fun K4 hk5=>?_) ?_
 ·rcases Pb (ieq a0 2) e with e|e
  ·simp[e]
   exact hk5 _ _ (by simp[e])
  rcases Pb (ieq a0 5) e with e|e
  ·simp[e]
   exact hk5 _ _ (by simp[e])
  rcases Pb (ieq a0 11) e with e|e
  ·simp[e]
   exact hk5 _ _ (by simp[e])
  simp[e]
  exact hk5 _ _ (by simp[e])
 rintro fr6 h6 E
 have e:=Aj e E
 rcases Io e m with ⟨e,m⟩|⟨e,m⟩
 ·apply wg 999
  cases m;simp[e]
 apply wg 1
 simp[e]
 refine wj 999 0 (fun f h=>h=H∧f.1 3=sI a0∧f.1 14=sB (sel (ieq a0 3) true (sel (ieq a0 8) true (ieq a0 10)))) (fun K7 hk8=>?_) ?_
 ·rcases Pb (ieq a0 3) e with e|e
  ·simp[e]
   exact hk8 _ _ (by simp[e])
  rcases Pb (ieq a0 8) e with e|e
  ·simp[e]
   exact hk8 _ _ (by simp[e])
  simp[e]
  exact hk8 _ _ (by simp[e])
 rintro fr9 h9 E
 have e:=Aj e E
 rcases Io e m with ⟨e,m⟩|⟨e,m⟩
 ·apply wg 999
  cases m;simp[e]
 apply wg 1
 simp[e]
 refine wj 999 999 (fun f h=>h=H∧f.1 18=sB (sel (ieq a0 6) true (ieq a0 9))) (fun K10 hk11=>?_) ?_
 rotate_left
 ·rintro fr12 h12 E
  have e:=Aj e E
  rcases Io e m with ⟨e,m⟩|⟨e,m⟩
  ·cases m;simp[e]
  cases m;simp[e]
 rcases Pb (ieq a0 6) e with e|e
 ·simp[e]
  exact hk11 _ _ (by simp[e])
 simp[e]
 exact hk11 _ _ (by simp[e])

end Go.Proofs.YtanjokijgbgcpaaGreatDoor
