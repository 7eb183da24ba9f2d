/-
  The walk through TypesDoes, with bent as a call of which only something is known.
-/
import Derived.Test.YtnbbnjmjpnncfaaBent
import Derived.Test.YtnbbnjmjpnncfaaTdM
set_option maxRecDepth 20000
set_option maxHeartbeats 4000000
set_option linter.unusedSimpArgs false
set_option linter.unusedVariables false
namespace Go.Proofs.Ytnbbnjmjpnncfaa
open Go Go.Abs Go.Mdl
theorem FitT.wider {W : Nat} : ∀ {b : Nat} {t : Ty}, FitT W b t → FitT (W + 1) b t
  | 0, _, h => h
  | b + 1, t, h => ⟨Nat.le_succ_of_le h.1, fun x hx => FitT.wider (h.2 x hx)⟩
theorem r_law01_TypesDoesR (T : Tabs) {wf : Smk_Deck → Prop} (hN : NextOk wf) {W b : Nat} (hW : W + 1 < 1000) (hW1 : 1 ≤ W) {a0 : (List Int)} {a1 : Ty} {a2 : (List Ty)} {K : Smk_Deck → Ty → Ty → Option Bool} {r0 : Bool}
  (hK : ∀ d x y r, K d x y = some r → wf d ∧ FitT W b x ∧ ∀ t, FitT (W + 1) (b + 1) t → tdRest a1 a2 x y t = some r) (hm : law01_TypesDoesR a0 a1 a2 K = some r0) : ACallP Try.prog T 5 [sL sI a0, Ty.av a1, sL Ty.av a2] [] (fun x _ => x = sB r0) := by
 rw [law01_TypesDoesR] at hm
 have e:=trivial
 refine wi mixed Try.func5 [62] [] 5 ?_
 obtain ⟨x1,e,m⟩:=Bo1 e hm
 simp[e]
 refine Cf (r_law01_sane e.2) ?_
 simp[e]
 rcases Io e m with ⟨e,m⟩|⟨e,m⟩
 rotate_left
 ·apply wg 999
  cases m;simp[e]
 apply wg 3
 simp[e]
 refine Wj m 999 999 (fun j2 f h=>∃ (v3:Bool),(h=([]:Heap)∧f.1 0=sL sI a0∧f.1 2=sL Ty.av a2∧f.1 4=AV.lptr 4 (f.gen 4) 0∧f.1 51=sB v3∧f.box 4=some (Ty.av a1).cells)∧j2 v3=some r0) (fun j2 K4 hk5 m=>?_) ?_
 ·obtain ⟨x6,e,m⟩:=Bo1 e m
  simp[e]
  refine Cf (r_mk_Few e.2) ?_
  rcases Io e m with ⟨e,m⟩|⟨e,m⟩
  rotate_left
  ·simp[e]
   exact hk5 _ _ ⟨true,by simp[e],m⟩
  obtain ⟨x7,e,m⟩:=Bo1 e m
  simp[e]
  refine Cf (r_law01_few e.2) ?_
  rcases Io e m with ⟨e,m⟩|⟨e,m⟩
  rotate_left
  ·simp[e]
   exact hk5 _ _ ⟨true,by simp[e],m⟩
  obtain ⟨x8,e,m⟩:=Bo1 e m
  simp[e]
  refine Cf (r_law01_few e.2) ?_
  simp[e]
  exact hk5 _ _ ⟨(bnot x8),by simp[e],m⟩
 rintro fr9 h9 ⟨v3,E,m⟩
 have e:=Aj e E
 rcases Io e m with ⟨e,m⟩|⟨e,m⟩
 ·cases m;simp[e]
 obtain ⟨x10,e,m⟩:=Bo1 e m
 simp[e]
 refine Cf (r_mk_New T e.2) ?_
 obtain ⟨x11,d12,e,m⟩:=Bo2 e m
 simp[e]
 refine Cf (r_mk_Type T (by simp[e]) e.2) ?_
 obtain ⟨x13,d14,e,m⟩:=Bo2 e m
 simp[e]
 refine Cf (r_mk_Type T (by simp[e]) e.2) ?_
 obtain ⟨hwf,hfit,m⟩:=hK _ _ _ _ m
 simp[e]
 refine CallAtS.rel (bent_C hN hW hW1 x11 hfit (o:=0) (d:=d14) (by simp[e,dk]) hwf) ⟨_,_,x11,d14,hwf,FitT.mono (Nat.le_succ _) (FitT.wider hfit),rfl,rfl⟩ (by rfl) ?_
 rintro _ _ ⟨x15,d16,hwf',hft,rfl,rfl⟩
 refine ⟨by simp[QK],?_⟩
 have m:=m x15 hft
 rw [tdRest] at m
 simp[e,dk]
 obtain ⟨L17,hL18,m⟩:=joinB_some m
 refine Wr e m 0 (fun j19 s20 f h=>h=hset [[]] 0 [sL sI d16.l,sI d16.atF]∧f.1 2=sL Ty.av a2∧f.1 8=AV.lptr 8 (f.gen 8) 0∧f.1 9=AV.lptr 9 (f.gen 9) 0∧f.1 63=sT .full Ty.av L17∧f.1 64=sI (llen L17)∧f.1 65=sI j19∧f.box 8=some (Ty.av x11).cells∧f.box 9=some (Ty.av x13).cells) (by (repeat' apply And.intro)<;>first|rfl|(rw[hL18];rfl)|simp[e,hL18,llen]) (fun s20 fr21 h21 K22 E m=>?_) (fun j19 x23 s20 fr21 h21 K22 n24 c25 E e m z26 hK27=>?_)
 ·have e:=Aj e E
  apply wg 999
  dsimp only[sumK_inl]at m
  cases m;simp[e]
 have e:=Aj e E
 apply wg 26
 obtain ⟨x28,x29,e,m⟩:=Bo2 e m
 simp[e]
 refine Cf (r_types_Size e.2) ?_
 obtain ⟨x30,x31,e,m⟩:=Bo2 e m
 simp[e]
 refine Cf (r_ref01_Size e.2) ?_
 obtain ⟨x32,x33,e,m⟩:=Bo2 e m
 simp[e]
 refine Cf (r_types_Level e.2) ?_
 obtain ⟨x34,x35,e,m⟩:=Bo2 e m
 simp[e]
 refine Cf (r_ref01_Level e.2) ?_
 obtain ⟨x36,x37,e,m⟩:=Bo2 e m
 simp[e]
 refine Cf (r_types_Data T e.2) ?_
 obtain ⟨x38,x39,e,m⟩:=Bo2 e m
 simp[e]
 refine Cf (r_ref01_Data e.2) ?_
 obtain ⟨x40,x41,x42,e,m⟩:=Bo3 e m
 simp[e]
 refine Cf (r_types_Result e.2) ?_
 obtain ⟨x43,x44,x45,e,m⟩:=Bo3 e m
 simp[e]
 refine Cf (r_ref01_Result e.2) ?_
 simp[e]
 refine Wj m 999 999 (fun j46 f h=>∃ (v47:Bool),(h=hset [[]] 0 [sL sI d16.l,sI d16.atF]∧f.1 2=sL Ty.av a2∧f.1 8=AV.lptr 8 (f.gen 8) 0∧f.1 9=AV.lptr 9 (f.gen 9) 0∧f.1 11=AV.lptr 11 (f.gen 11) 0∧f.1 63=sT .full Ty.av L17∧f.1 64=sI (llen L17)∧f.1 65=sI j19∧f.1 171=sB v47∧f.box 8=some (Ty.av x11).cells∧f.box 9=some (Ty.av x13).cells∧f.box 11=some (Ty.av x23).cells)∧j46 v47=some c25) (fun j46 K48 hk49 m=>?_) ?_
 ·obtain ⟨x50,e,m⟩:=Bo1 e m
  simp[e]
  refine Cs (r_types_Check e.2) ?_
  obtain ⟨x51,e,m⟩:=Bo1 e m
  simp[e]
  refine Cs (r_ref01_Check e.2) ?_
  rcases Io e m with ⟨e,m⟩|⟨e,m⟩
  ·simp[e]
   exact hk49 _ _ ⟨true,by simp[e],m⟩
  rcases Io e m with ⟨e,m⟩|⟨e,m⟩
  ·simp[e]
   exact hk49 _ _ ⟨true,by simp[e],m⟩
  rcases Io e m with ⟨e,m⟩|⟨e,m⟩
  ·simp[e]
   exact hk49 _ _ ⟨true,by simp[e],m⟩
  rcases Io e m with ⟨e,m⟩|⟨e,m⟩
  ·simp[e]
   exact hk49 _ _ ⟨true,by simp[e],m⟩
  rcases Io e m with ⟨e,m⟩|⟨e,m⟩
  ·simp[e]
   exact hk49 _ _ ⟨true,by simp[e],m⟩
  rcases Io e m with ⟨e,m⟩|⟨e,m⟩
  ·simp[e]
   exact hk49 _ _ ⟨true,by simp[e],m⟩
  rcases Io e m with ⟨e,m⟩|⟨e,m⟩
  ·simp[e]
   exact hk49 _ _ ⟨true,by simp[e],m⟩
  rcases Io e m with ⟨e,m⟩|⟨e,m⟩
  ·simp[e]
   exact hk49 _ _ ⟨true,by simp[e],m⟩
  obtain ⟨x52,e,m⟩:=Bo1 e m
  simp[e]
  refine Cs (r_ref01_SameAll e.2) ?_
  rcases Io e m with ⟨e,m⟩|⟨e,m⟩
  rotate_left
  ·simp[e]
   exact hk49 _ _ ⟨true,by simp[e],m⟩
  obtain ⟨x53,e,m⟩:=Bo1 e m
  simp[e]
  refine Cs (r_ref01_Same e.2) ?_
  rcases Io e m with ⟨e,m⟩|⟨e,m⟩
  rotate_left
  ·simp[e]
   exact hk49 _ _ ⟨true,by simp[e],m⟩
  obtain ⟨x54,e,m⟩:=Bo1 e m
  simp[e]
  refine Cs (r_types_Same e.2) ?_
  obtain ⟨x55,e,m⟩:=Bo1 e m
  simp[e]
  refine Cs (r_ref01_Same e.2) ?_
  simp[e]
  exact hk49 _ _ ⟨(bneB x54 x55),by simp[e],m⟩
 rintro fr56 h56 ⟨v47,E,m⟩
 have e:=Aj e E
 rcases Io e m with ⟨e,m⟩|⟨e,m⟩
 ·cases m;cases z26;simp[e]
 simp[e]
 obtain ⟨L57,hL58,m⟩:=joinB_some m
 refine Wr e m 0 (fun j59 s60 f h=>h=hset [[]] 0 [sL sI d16.l,sI d16.atF]∧f.1 2=sL Ty.av a2∧f.1 8=AV.lptr 8 (f.gen 8) 0∧f.1 9=AV.lptr 9 (f.gen 9) 0∧f.1 11=AV.lptr 11 (f.gen 11) 0∧f.1 63=sT .full Ty.av L17∧f.1 64=sI (llen L17)∧f.1 65=sI j19∧f.1 179=sT .full (sL Ty.av) L57∧f.1 180=sI (llen L57)∧f.1 181=sI j59∧f.box 8=some (Ty.av x11).cells∧f.box 9=some (Ty.av x13).cells∧f.box 11=some (Ty.av x23).cells) (by (repeat' apply And.intro)<;>first|rfl|(rw[hL58];rfl)|simp[e,hL58,llen]) (fun s60 fr61 h61 K62 E m=>?_) (fun j59 x63 s60 fr61 h61 K62 n64 c65 E e m z66 hK67=>?_)
 ·have e:=Aj e E
  apply wg 999
  dsimp only[sumK_inl]at m
  simp[e]
  cases m;exact hK27 _ _ _ (by simp[e]) z26
 have e:=Aj e E
 apply wg 13
 obtain ⟨x68,x69,e,m⟩:=Bo2 e m
 simp[e]
 refine Cf (r_types_Function e.2) ?_
 obtain ⟨x70,x71,e,m⟩:=Bo2 e m
 simp[e]
 refine Cf (r_ref01_Function e.2) ?_
 simp[e]
 refine Wj m 999 999 (fun j72 f h=>∃ (v73:Bool),(h=hset [[]] 0 [sL sI d16.l,sI d16.atF]∧f.1 2=sL Ty.av a2∧f.1 8=AV.lptr 8 (f.gen 8) 0∧f.1 9=AV.lptr 9 (f.gen 9) 0∧f.1 11=AV.lptr 11 (f.gen 11) 0∧f.1 63=sT .full Ty.av L17∧f.1 64=sI (llen L17)∧f.1 65=sI j19∧f.1 179=sT .full (sL Ty.av) L57∧f.1 180=sI (llen L57)∧f.1 181=sI j59∧f.1 212=sB v73∧f.box 8=some (Ty.av x11).cells∧f.box 9=some (Ty.av x13).cells∧f.box 11=some (Ty.av x23).cells)∧j72 v73=some c65) (fun j72 K74 hk75 m=>?_) ?_
 rotate_left
 ·rintro fr76 h76 ⟨v73,E,m⟩
  have e:=Aj e E
  rcases Io e m with ⟨e,m⟩|⟨e,m⟩
  ·cases m;cases z66;cases z26;simp[e]
  simp[e]
  cases m;exact hK67 _ _ _ (by simp[e]) z66
 rcases Io e m with ⟨e,m⟩|⟨e,m⟩
 ·simp[e]
  exact hk75 _ _ ⟨true,by simp[e],m⟩
 obtain ⟨x77,e,m⟩:=Bo1 e m
 simp[e]
 refine Cf (r_ref01_Same e.2) ?_
 rcases Io e m with ⟨e,m⟩|⟨e,m⟩
 rotate_left
 ·simp[e]
  exact hk75 _ _ ⟨true,by simp[e],m⟩
 obtain ⟨x78,e,m⟩:=Bo1 e m
 simp[e]
 refine Cf (r_types_Context e.2) ?_
 obtain ⟨x79,e,m⟩:=Bo1 e m
 simp[e]
 refine Cf (r_ref01_Context e.2) ?_
 simp[e]
 exact hk75 _ _ ⟨(ine x78 x79),by simp[e],m⟩

end Go.Proofs.Ytnbbnjmjpnncfaa
