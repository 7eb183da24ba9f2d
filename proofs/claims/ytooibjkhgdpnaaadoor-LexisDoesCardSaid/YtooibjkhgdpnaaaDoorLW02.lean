/- The program's functions do what the models say. -/
import Derived.Test.YtooibjkhgdpnaaaDoorLW01
import Derived.Test.YtooibjkhgdpnaaaDoorLM
set_option maxRecDepth 20000
set_option maxHeartbeats 4000000
set_option linter.unusedSimpArgs false
set_option linter.unusedVariables false
namespace Go.Proofs.YtooibjkhgdpnaaaDoor
open Go Go.Abs Go.Mdl

theorem r_mk_Mod : C2 Tryd.prog 22 mk_Mod sI sI sI := by
 intro T H a0 a1 r hm
 rw [mk_Mod] at hm
 have e:=trivial
 refine wi mixed Tryd.func22 [] [] 999 ?_
 obtain ⟨e,m⟩:=Ck e hm
 obtain ⟨e,m⟩:=Ck e m
 cases m;simp[e]


theorem r_mk_Deck_Next (T : Tabs) {H : Heap} {a0 : Smk_Deck} {a1 : Int} {r0 : Int} {do0 : Smk_Deck} {o0 : Nat} (ho0 : H[o0]? = some [sL sI a0.l, sI a0.atF]) (hm : mk_Deck_Next a0 a1 = some (r0, do0)) : ACall Tryd.prog T 11 [AV.gptr o0 0, sI a1] H (sI r0) (hset H o0 [sL sI do0.l, sI do0.atF]) := by
 rw [mk_Deck_Next] at hm
 have lo0:=inb_of_get ho0
 refine ACallP.at1 ho0 ?_
 have e:=lo0
 refine wi mixed Tryd.func11 [] [(1,true,[]),(3,true,[])] 3 ?_
 simp[e]
 refine wj 999 999 (fun f h=>h=hset H o0 [sL sI a0.l,sI a0.atF]∧f.1 0=AV.gptr o0 0∧f.1 1=sI a1∧f.1 19=sB (sel (ilt a1 1) true (ige a0.atF (llen a0.l)))) (fun K1 hk2=>?_) ?_
 ·rcases Pb (ilt a1 1) e with e|e
  ·simp[e]
   exact hk2 _ _ (by simp[e])
  simp[e]
  exact hk2 _ _ (by simp[e])
 rintro fr3 h3 E
 have e:=Aj e E
 rcases Io e hm with ⟨e,m⟩|⟨e,m⟩
 ·cases m;simp[e]
 obtain ⟨x4,e,m⟩:=Bo1 e m
 obtain ⟨x5,e,m⟩:=Bo1 e m
 simp[e]
 refine Cf (r_mk_Mod e.2) ?_
 cases m;simp[e]


theorem r_law14_LexisNames (T : Tabs) (hT : LexT T) {a0 : ByteArray} {a1 : (List Int)} {r0 : Bool} (hm : law14_LexisNames a0 a1 = some r0) : ACallP Tryd.prog T 3 [sS a0, sL sI a1] [] (fun x _ => x = sB r0) := by
 rw [law14_LexisNames] at hm
 have e:=hT
 refine wi mixed Tryd.func3 [] [] 5 ?_
 obtain ⟨x1,e,m⟩:=Bo1 e hm
 simp[e]
 refine Cf (r_law14_sane T hT e.2) ?_
 simp[e]
 rcases Io e m with ⟨e,m⟩|⟨e,m⟩
 rotate_left
 ·apply wg 999
  cases m;simp[e]
 apply wg 3
 simp[e]
 refine Wj m 999 999 (fun j2 f h=>∃ (v3:Bool),(h=([]:Heap)∧f.1 0=sS a0∧f.1 1=sL sI a1∧f.1 22=sB v3)∧j2 v3=some r0) (fun j2 K4 hk5 m=>?_) ?_
 ·obtain ⟨x6,e,m⟩:=Bo1 e m
  simp[e]
  refine Cf (r_mk_Few e.2) ?_
  rcases Io e m with ⟨e,m⟩|⟨e,m⟩
  rotate_left
  ·simp[e]
   exact hk5 _ _ ⟨true,by simp[e],m⟩
  simp[e]
  exact hk5 _ _ ⟨(igt (slen a0) 200),by simp[e],m⟩
 rintro fr7 h7 ⟨v3,E,m⟩
 have e:=Aj e E
 rcases Io e m with ⟨e,m⟩|⟨e,m⟩
 ·cases m;simp[e]
 obtain ⟨x8,e,m⟩:=Bo1 e m
 simp[e]
 refine Cf (r_mk_New T e.2) ?_
 obtain ⟨x9,d10,e,m⟩:=Bo2 e m
 simp[e]
 refine Cf (r_mk_Deck_Next T (by simp[e]) e.2) ?_
 simp[e]
 refine Wn m 999 (fun s11 f h=>h=hset [[]] 0 [sL sI s11.2.2.l,sI s11.2.2.atF]∧f.1 0=sS a0∧f.1 5=AV.gptr 0 0∧f.1 6=sS s11.1∧f.1 7=sI s11.2.1) (by simp[e]) (fun s11 fr12 h12 K13 n14 c15 E m z16 hK17=>?_)
 obtain ⟨v18,v19,v20⟩:=s11
 have e:=Aj e E
 dsimp only[un3_mk]at m
 rcases Io e m with ⟨e,m⟩|⟨e,m⟩
 ·obtain ⟨x21,d22,e,m⟩:=Bo2 e m
  simp[e]
  refine Cf (r_mk_Deck_Next T (by simp[e]) e.2) ?_
  obtain ⟨e,m⟩:=Ck e m
  simp[e]
  cases m;exact hK17 _ _ _ (by simp[e]) z16
 cases m
 have m:=Qb z16
 dsimp only[un3_mk]at m
 obtain ⟨e,m⟩:=Ck e m
 obtain ⟨e,m⟩:=Ck e m
 simp[e]
 obtain ⟨L23,hL24,m⟩:=joinB_some m
 refine Wr e m 0 (fun j25 s26 f h=>h=hset [[]] 0 [sL sI v20.l,sI v20.atF]∧f.1 6=sS v18∧f.1 45=sT .full sS L23∧f.1 46=sI (llen L23)∧f.1 47=sI j25) (by (repeat' apply And.intro)<;>first|rfl|(rw[hL24];rfl)|simp[e,hL24,llen]) (fun s26 fr27 h27 K28 E m=>?_) (fun j25 x29 s26 fr27 h27 K28 n30 c31 E e m z32 hK33=>?_)
 ·have e:=Aj e E
  apply wg 5
  dsimp only[sumK_inl]at m
  simp[e]
  refine Wj m 999 999 (fun j34 f h=>∃ (v35:Bool),(h=hset [[]] 0 [sL sI v20.l,sI v20.atF]∧f.1 4=sB v35)∧j34 v35=some r0) (fun j34 K36 hk37 m=>?_) ?_
  rotate_left
  ·rintro fr38 h38 ⟨v35,E,m⟩
   have e:=Aj e E
   cases m;simp[e]
  obtain ⟨x39,e,m⟩:=Bo1 e m
  simp[e]
  refine Cf (r_lexis_Name T hT e.2) ?_
  rcases Io e m with ⟨e,m⟩|⟨e,m⟩
  rotate_left
  ·simp[e]
   exact hk37 _ _ ⟨(beqB x39 false),by simp[e],m⟩
  simp[e]
  exact hk37 _ _ ⟨(beqB x39 (ile (slen v18) 16)),by simp[e],m⟩
 have e:=Aj e E
 apply wg 11
 obtain ⟨x40,x41,e,m⟩:=Bo2 e m
 simp[e]
 refine Cf (r_lexis_Tokens T hT e.2) ?_
 simp[e]
 refine Wj m 999 999 (fun j42 f h=>∃ (v43:Bool),(h=hset [[]] 0 [sL sI v20.l,sI v20.atF]∧f.1 6=sS v18∧f.1 9=sS x29∧f.1 12=sB v43∧f.1 45=sT .full sS L23∧f.1 46=sI (llen L23)∧f.1 47=sI j25)∧j42 v43=some c31) (fun j42 K44 hk45 m=>?_) ?_
 rotate_left
 ·rintro fr46 h46 ⟨v43,E,m⟩
  have e:=Aj e E
  obtain ⟨x47,e,m⟩:=Bo1 e m
  simp[e]
  refine Cf (r_lexis_Name T hT e.2) ?_
  rcases Io e m with ⟨e,m⟩|⟨e,m⟩
  ·cases m;cases z32;simp[e]
  simp[e]
  cases m;exact hK33 _ _ _ (by simp[e]) z32
 rcases Io e m with ⟨e,m⟩|⟨e,m⟩
 rotate_left
 ·simp[e]
  exact hk45 _ _ ⟨false,by simp[e],m⟩
 rcases Io e m with ⟨e,m⟩|⟨e,m⟩
 rotate_left
 ·simp[e]
  exact hk45 _ _ ⟨false,by simp[e],m⟩
 obtain ⟨x48,e,m⟩:=Bo1 e m
 rcases Io e m with ⟨e,m⟩|⟨e,m⟩
 rotate_left
 ·simp[e]
  exact hk45 _ _ ⟨false,by simp[e],m⟩
 simp[e]
 exact hk45 _ _ ⟨(seq x48.text x29),by simp[e],m⟩

theorem r_ref14_letter : C1 Tryd.prog 33 ref14_letter sB (fun n => AV.sc (Value.int .u8 n)) := by
 intro T H a0 r hm
 rw [ref14_letter] at hm
 have e:=trivial
 refine wi mixed Tryd.func33 [] [] 2 ?_
 simp[e]
 refine wj 999 999 (fun f h=>h=H∧f.1 2=sB (sel (ige a0 97) (ile a0 122) false)) (fun K1 hk2=>?_) ?_
 rotate_left
 ·rintro fr3 h3 E
  have e:=Aj e E
  cases hm;simp[e]
 rcases Pb (ige a0 97) e with e|e
 ·simp[e]
  exact hk2 _ _ (by simp[e])
 simp[e]
 exact hk2 _ _ (by simp[e])

theorem r_ref14_Name : C1 Tryd.prog 19 ref14_Name sB sS := by
 intro T H a0 r hm
 rw [ref14_Name] at hm
 have e:=trivial
 refine wi mixed Tryd.func19 [] [] 3 ?_
 simp[e]
 refine wj 999 999 (fun f h=>h=H∧f.1 0=sS a0∧f.1 11=sB (sel (ilt (slen a0) 1) true (igt (slen a0) 16))) (fun K1 hk2=>?_) ?_
 ·rcases Pb (ilt (slen a0) 1) e with e|e
  ·simp[e]
   exact hk2 _ _ (by simp[e])
  simp[e]
  exact hk2 _ _ (by simp[e])
 rintro fr3 h3 E
 have e:=Aj e E
 rcases Io e hm with ⟨e,m⟩|⟨e,m⟩
 ·cases m;simp[e]
 simp[e]
 refine Wn m 999 (fun s4 f h=>h=H∧f.1 0=sS a0∧f.1 3=sI s4) (by simp[e]) (fun s4 fr5 h5 K6 n7 c8 E m z9 hK10=>?_)
 have e:=Aj e E
 rcases Io e m with ⟨e,m⟩|⟨e,m⟩
 rotate_left
 ·cases m
  have m:=Qb z9
  try dsimp only at m
  cases m;simp[e]
 obtain ⟨x11,e,m⟩:=Bo1 e m
 obtain ⟨x12,e,m⟩:=Bo1 e m
 simp[e]
 refine Cf (r_ref14_letter e.2) ?_
 rcases Io e m with ⟨e,m⟩|⟨e,m⟩
 rotate_left
 ·cases m;cases z9;simp[e]
 simp[e]
 cases m;exact hK10 _ _ _ (by simp[e]) z9


theorem rg_ref14_Decimal : ∀ (n : Nat), C1 Tryd.prog 44 (ref14_Decimal n) sS sI := by
  intro n
  induction n with
  | zero =>
    skip
    all_goals (intro _ _;intros;rename_i hm;cases hm)
  | succ n ih =>
 intro T H a0 r hm
 rw [ref14_Decimal] at hm
 have e:=trivial
 refine wi mixed Tryd.func44 [] [] 999 ?_
 rcases Io e hm with ⟨e,m⟩|⟨e,m⟩
 ·cases m;simp[e]
 obtain ⟨e,m⟩:=Ck e m
 obtain ⟨x1,e,m⟩:=Bo1 e m
 simp[e]
 refine Cs (ih e.2) ?_
 obtain ⟨e,m⟩:=Ck e m
 obtain ⟨e,m⟩:=Ck e m
 cases m;simp[e]
theorem r_ref14_Decimal {n : Nat} : C1 Tryd.prog 44 (ref14_Decimal n) sS sI := (rg_ref14_Decimal n)

theorem r_ref14_text : C1 Tryd.prog 36 ref14_text (t2 sS sB) Tkn.av := by
 intro T H a0 r hm
 rw [ref14_text] at hm
 have e:=trivial
 refine wi mixed Tryd.func36 [] [] 8 ?_
 simp[e]
 rcases Io e hm with ⟨e,m⟩|⟨e,m⟩
 ·apply wg 1
  simp[e]
  refine wj 999 999 (fun f h=>h=H∧f.1 2=sS (ByteArray.mk #[40])∧f.1 3=sB (sel (ieq a0.num 0) (seq a0.text (ByteArray.mk #[])) false)) (fun K1 hk2=>?_) ?_
  rotate_left
  ·rintro fr3 h3 E
   have e:=Aj e E
   cases m;simp[e]
  rcases Pb (ieq a0.num 0) e with e|e
  ·simp[e]
   exact hk2 _ _ (by simp[e])
  simp[e]
  exact hk2 _ _ (by simp[e])
 apply wg 3
 simp[e]
 rcases Io e m with ⟨e,m⟩|⟨e,m⟩
 ·apply wg 1
  simp[e]
  refine wj 999 999 (fun f h=>h=H∧f.1 2=sS (ByteArray.mk #[41])∧f.1 3=sB (sel (ieq a0.num 0) (seq a0.text (ByteArray.mk #[])) false)) (fun K4 hk5=>?_) ?_
  rotate_left
  ·rintro fr6 h6 E
   have e:=Aj e E
   cases m;simp[e]
  rcases Pb (ieq a0.num 0) e with e|e
  ·simp[e]
   exact hk5 _ _ (by simp[e])
  simp[e]
  exact hk5 _ _ (by simp[e])
 apply wg 4
 rcases Io e m with ⟨e,m⟩|⟨e,m⟩
 ·simp[e]
  refine Wj m 999 999 (fun j7 f h=>∃ (v8:Bool),(h=H∧f.1 2=sS a0.text∧f.1 3=sB v8)∧j7 v8=some r) (fun j7 K9 hk10 m=>?_) ?_
  rotate_left
  ·rintro fr11 h11 ⟨v8,E,m⟩
   have e:=Aj e E
   cases m;simp[e]
  rcases Io e m with ⟨e,m⟩|⟨e,m⟩
  rotate_left
  ·simp[e]
   exact hk10 _ _ ⟨false,by simp[e],m⟩
  obtain ⟨x12,e,m⟩:=Bo1 e m
  simp[e]
  refine Cs (r_ref14_Name e.2) ?_
  simp[e]
  exact hk10 _ _ ⟨x12,by simp[e],m⟩
 simp[e]
 refine wj 999 0 (fun f h=>∃ (g1_15:Nat),h=H∧f.1 1=AV.lptr 1 g1_15 0∧f.1 38=sB (sel (ieq a0.kind 4) true (ieq a0.kind 5))∧f.gen 1=g1_15∧f.box 1=some [sI a0.kind,sI a0.num,sI a0.atF,sS a0.text]) (fun K13 hk14=>?_) ?_
 ·rcases Pb (ieq a0.kind 4) e with e|e
  ·simp[e]
   exact hk14 _ _ ⟨1,by simp[e]⟩
  simp[e]
  exact hk14 _ _ ⟨1,by simp[e]⟩
 rintro fr15 h15 ⟨g1_15,E⟩
 have e:=Aj e E
 rcases Io e m with ⟨e,m⟩|⟨e,m⟩
 rotate_left
 ·apply wg 999
  cases m;simp[e]
 apply wg 2
 simp[e]
 refine wj 999 0 (fun f h=>∃ (g1_18:Nat),h=H∧f.1 1=AV.lptr 1 g1_18 0∧f.1 53=sB (sel (ilt a0.num 0) true (sel (igt a0.num 999999) true (sne a0.text (ByteArray.mk #[]))))∧f.gen 1=g1_18∧f.box 1=some [sI a0.kind,sI a0.num,sI a0.atF,sS a0.text]) (fun K16 hk17=>?_) ?_
 ·rcases Pb (ilt a0.num 0) e with e|e
  ·simp[e]
   exact hk17 _ _ ⟨g1_15,by simp[e]⟩
  rcases Pb (igt a0.num 999999) e with e|e
  ·simp[e]
   exact hk17 _ _ ⟨g1_15,by simp[e]⟩
  simp[e]
  exact hk17 _ _ ⟨g1_15,by simp[e]⟩
 rintro fr18 h18 ⟨g1_18,E⟩
 have e:=Aj e E
 rcases Io e m with ⟨e,m⟩|⟨e,m⟩
 ·apply wg 999
  cases m;simp[e]
 apply wg 5
 simp[e]
 rcases Io e m with ⟨e,m⟩|⟨e,m⟩
 rotate_left
 ·apply wg 999
  obtain ⟨x19,e,m⟩:=Bo1 e m
  simp[e]
  refine Cf (r_ref14_Decimal e.2) ?_
  cases m;simp[e]
 apply wg 999
 obtain ⟨x20,e,m⟩:=Bo1 e m
 simp[e]
 refine Cf (r_ref14_Decimal e.2) ?_
 obtain ⟨e,m⟩:=Ck e m
 cases m;simp[e]

theorem r_ref14_Text : C1 Tryd.prog 20 ref14_Text (t2 sS sI) (sL Tkn.av) := by
 intro T H a0 r hm
 rw [ref14_Text] at hm
 have e:=trivial
 refine wi mixed Tryd.func20 [] [] 999 ?_
 rcases Io e hm with ⟨e,m⟩|⟨e,m⟩
 ·cases m;simp[e]
 simp[e]
 refine Wr e m 0 (fun j1 s2 f h=>∃ (tg0_3:Tag),(h=H∧f.1 0=sL Tkn.av a0∧f.1 4=sT tg0_3 (fun n => AV.sc (Value.int .u8 n)) s2∧f.1 12=sL Tkn.av a0∧f.1 13=sI (llen a0)∧f.1 14=sI j1)∧Ow f [47] tg0_3 s2) (by exact ⟨.full,by simp[e],OwnT.full⟩) (fun s2 fr3 h3 K4 E m=>?_) (fun j1 x5 s2 fr3 h3 K4 n6 c7 E e m z8 hK9=>?_)
 ·obtain ⟨tg0_3,E,o0_3⟩:=E
  have e:=Aj e E
  apply wg 999
  dsimp only[sumK_inl]at m
  cases m;simp[e]
 obtain ⟨tg0_3,E,o0_3⟩:=E
 have e:=Aj e E
 apply wg 14
 obtain ⟨x10,x11,e,m⟩:=Bo2 e m
 simp[e]
 refine Cf (r_ref14_text e.2) ?_
 simp[e]
 rcases Io e m with ⟨e,m⟩|⟨e,m⟩
 rotate_left
 ·apply wg 999
  cases m;cases z8;simp[e]
 apply wg 2
 simp[e]
 refine Wj m 0 999 (fun j12 f h=>∃ (v13:(List Int)) (tg0_16:Tag),(h=H∧f.1 0=sL Tkn.av a0∧f.1 4=sT tg0_16 (fun n => AV.sc (Value.int .u8 n)) v13∧f.1 7=sS x10∧f.1 12=sL Tkn.av a0∧f.1 13=sI (llen a0)∧f.1 14=sI j1)∧Ow f [44,47] tg0_16 v13∧j12 v13=some c7) (fun j12 K14 hk15 m=>?_) ?_
 rotate_left
 ·rintro fr16 h16 ⟨v13,tg0_16,E,o0_16,m⟩
  have e:=Aj e E
  obtain ⟨e,m⟩:=Ck e m
  simp[e]
  refine arun_appendS ?_
  refine AppAtS.own v13 x10 o0_16 ap28 (by first|rfl|simp) e.2 (by first|rfl|simp) (by first|rfl|simp) ?_
  simp[e]
  cases m;exact hK9 _ _ _ ⟨(.loc 47 (fr16.tgen 47 + 1)),by simp[e],(On 47)⟩ z8
 refine Wj m 999 999 (fun j17 f h=>∃ (v18:Bool) (tg0_22:Tag),(h=H∧f.1 0=sL Tkn.av a0∧f.1 4=sT tg0_22 (fun n => AV.sc (Value.int .u8 n)) s2∧f.1 7=sS x10∧f.1 12=sL Tkn.av a0∧f.1 13=sI (llen a0)∧f.1 14=sI j1∧f.1 41=sB v18)∧Ow f [47] tg0_22 s2∧j17 v18=some c7) (fun j17 K19 hk20 m=>?_) ?_
 ·rcases Io e m with ⟨e,m⟩|⟨e,m⟩
  rotate_left
  ·simp[e]
   exact hk20 _ _ ⟨false,tg0_3,by simp[e],o0_3,m⟩
  obtain ⟨x21,e,m⟩:=Bo1 e m
  rcases Io e m with ⟨e,m⟩|⟨e,m⟩
  rotate_left
  ·simp[e]
   exact hk20 _ _ ⟨false,tg0_3,by simp[e],o0_3,m⟩
  simp[e]
  exact hk20 _ _ ⟨(ine x5.kind 2),tg0_3,by simp[e],o0_3,m⟩
 rintro fr22 h22 ⟨v18,tg0_22,E,o0_22,m⟩
 have e:=Aj e E
 rcases Io e m with ⟨e,m⟩|⟨e,m⟩
 rotate_left
 ·simp[e]
  exact hk15 _ _ ⟨s2,tg0_22,by simp[e],(Om o0_22),m⟩
 obtain ⟨e,m⟩:=Ck e m
 simp[e]
 refine Ao (f:=(fun n => AV.sc (Value.int .u8 n))) s2 [32] o0_22 ap28 e.2 ?_
 simp[e]
 exact hk15 _ _ ⟨(lapp s2 [32]),(.loc 44 (fr22.tgen 44 + 1)),by simp[e],(On 44),m⟩


theorem r_law14_text (T : Tabs) {H : Heap} {a0 : Smk_Deck} {r0 : ByteArray} {do0 : Smk_Deck} {o0 : Nat} (ho0 : H[o0]? = some [sL sI a0.l, sI a0.atF]) (hm : law14_text a0 = some (r0, do0)) : ACall Tryd.prog T 14 [AV.gptr o0 0] H (sS r0) (hset H o0 [sL sI do0.l, sI do0.atF]) := by
 rw [law14_text] at hm
 have lo0:=inb_of_get ho0
 refine ACallP.at1 ho0 ?_
 have e:=lo0
 refine wi mixed Tryd.func14 [] [] 999 ?_
 obtain ⟨x1,d2,e,m⟩:=Bo2 e hm
 simp[e]
 refine Cf (r_mk_Deck_Next T (by simp[e]) e.2) ?_
 simp[e]
 refine Wn m 3 (fun s3 f h=>∃ (tg0_4:Tag),(h=hset H o0 [sL sI s3.2.2.l,sI s3.2.2.atF]∧f.1 0=AV.gptr o0 0∧f.1 3=sT tg0_4 Tkn.av s3.1∧f.1 4=sI s3.2.1)∧Ow f [40] tg0_4 s3.1) (by exact ⟨.full,by simp[e],OwnT.full⟩) (fun s3 fr4 h4 K5 n6 c7 E m z8 hK9=>?_)
 obtain ⟨v10,v11,v12⟩:=s3
 obtain ⟨tg0_4,E,o0_4⟩:=E
 have e:=Aj e E
 dsimp only[un3_mk]at m
 simp[e]
 rcases Io e m with ⟨e,m⟩|⟨e,m⟩
 rotate_left
 ·apply wg 999
  cases m
  have m:=Qb z8
  dsimp only[un3_mk]at m
  obtain ⟨x13,x14,e,m⟩:=Bo2 e m
  simp[e]
  refine Cf (r_ref14_Text e.2) ?_
  cases m;simp[e]
 apply wg 6
 obtain ⟨x15,d16,e,m⟩:=Bo2 e m
 simp[e]
 refine Cf (r_mk_Deck_Next T (by simp[e]) e.2) ?_
 simp[e]
 refine Wj m 5 999 (fun j17 f h=>∃ (v18:Int) (v19:ByteArray) (v20:Smk_Deck) (tg0_23:Tag) (g5_23:Nat),(h=hset H o0 [sL sI v20.l,sI v20.atF]∧f.1 0=AV.gptr o0 0∧f.1 3=sT tg0_23 Tkn.av v10∧f.1 4=sI v11∧f.1 5=AV.lptr 5 g5_23 0∧f.gen 5=g5_23∧f.box 5=some [sI (iadd .i64 1 x15),sI v18,sI 0,sS v19])∧Ow f [40] tg0_23 v10∧j17 v18 v19 v20=some c7) (fun j17 K21 hk22 m=>?_) ?_
 rotate_left
 ·rintro fr23 h23 ⟨v18,v19,v20,tg0_23,g5_23,E,o0_23,m⟩
  have e:=Aj e E
  obtain ⟨e,m⟩:=Ck e m
  simp[e]
  refine Ao (f:=Tkn.av) v10 [(Tkn.mk (iadd .i64 1 x15) v18 0 v19)] o0_23 ap30 e.2 ?_
  simp[e]
  cases m;exact hK9 _ _ _ ⟨(.loc 40 (fr23.tgen 40 + 1)),by simp[e],(On 40)⟩ z8
 simp[e]
 rcases Io e m with ⟨e,m⟩|⟨e,m⟩
 ·apply wg 999
  obtain ⟨x24,d25,e,m⟩:=Bo2 e m
  simp[e]
  refine Cf (r_mk_Deck_Next T (by simp[e]) e.2) ?_
  obtain ⟨L26,hL27,m⟩:=joinB_some m
  have e:=Aj e (show [sS (ByteArray.mk #[115,117,99,99]),sS (ByteArray.mk #[108,97,109]),sS (ByteArray.mk #[110,97,116]),sS (ByteArray.mk #[120]),sS (ByteArray.mk #[112,97,105,114]),sS (ByteArray.mk #[101,113]),sS (ByteArray.mk #[97,98,99,100,101,102,103,104,105,106,107,108,109,110,111,112])]=List.map sS L26 by rw[hL27];rfl)
  obtain ⟨x28,e,m⟩:=Bo1 e m
  simp[e]
  exact hk22 _ _ ⟨0,x28,d25,tg0_4,(fr4.gen 5 + 1),by simp[e],o0_4,m⟩
 apply wg 1
 simp[e]
 refine wj 999 999 (fun f h=>∃ (tg0_31:Tag) (g5_31:Nat),(h=hset H o0 [sL sI d16.l,sI d16.atF]∧f.1 0=AV.gptr o0 0∧f.1 3=sT tg0_31 Tkn.av v10∧f.1 4=sI v11∧f.1 5=AV.lptr 5 g5_31 0∧f.1 28=sB (sel (ieq (iadd .i64 1 x15) 4) true (ieq (iadd .i64 1 x15) 5))∧f.gen 5=g5_31∧f.box 5=some [sI (iadd .i64 1 x15),sI 0,sI 0,sS ByteArray.empty])∧Ow f [40] tg0_31 v10) (fun K29 hk30=>?_) ?_
 ·rcases Pb (ieq (iadd .i64 1 x15) 4) e with e|e
  ·simp[e]
   exact hk30 _ _ ⟨tg0_4,(fr4.gen 5 + 1),by simp[e],o0_4⟩
  simp[e]
  exact hk30 _ _ ⟨tg0_4,(fr4.gen 5 + 1),by simp[e],o0_4⟩
 rintro fr31 h31 ⟨tg0_31,g5_31,E,o0_31⟩
 have e:=Aj e E
 rcases Io e m with ⟨e,m⟩|⟨e,m⟩
 rotate_left
 ·simp[e]
  exact hk22 _ _ ⟨0,ByteArray.empty,d16,tg0_31,g5_31,by simp[e],o0_31,m⟩
 obtain ⟨x32,d33,e,m⟩:=Bo2 e m
 simp[e]
 refine Cf (r_mk_Deck_Next T (by simp[e]) e.2) ?_
 obtain ⟨L34,hL35,m⟩:=joinB_some m
 have e:=Aj e (show [sI 0,sI 1,sI 7,sI 12,sI 305,sI 999999]=List.map sI L34 by rw[hL35];rfl)
 obtain ⟨x36,e,m⟩:=Bo1 e m
 simp[e]
 exact hk22 _ _ ⟨x36,ByteArray.empty,d33,tg0_31,g5_31,by simp[e],o0_31,m⟩


theorem r_slices_EqualFunc_api_Token_api_Token_api_Token_api_Token (T : Tabs) {S : Type} {st : S → Heap} {k : Nat} {a0 : (List Tkn)} {a1 : (List Tkn)} {a2 : (S → Tkn → Tkn → Option (Bool × S))} {sv0 : S} {r0 : Bool} {sv1 : S} {g2 : Nat} {cap2 : List AV} (hF : Fam st k) (hw2 : Does56 T g2 cap2 st a2) (hm : slices_EqualFunc_api_Token_api_Token_api_Token_api_Token a0 a1 a2 sv0 = some (r0, sv1)) : ACall Tryd.prog T 27 [sL Tkn.av a0, sL Tkn.av a1, AV.func (.func g2) [] cap2] (st sv0) (sB r0) (st sv1) := by
 rw [slices_EqualFunc_api_Token_api_Token_api_Token_api_Token] at hm
 have e:=hF.len
 refine wi mixed Tryd.func27 [] [] 999 ?_
 rcases Io e hm with ⟨e,m⟩|⟨e,m⟩
 ·cases m;simp[e]
 simp[e]
 refine Wr e m 999 (fun j1 s2 f h=>h=st s2∧f.1 1=sL Tkn.av a1∧f.1 2=AV.func (.func g2) [] cap2∧f.1 15=sL Tkn.av a0∧f.1 16=sI (llen a0)∧f.1 17=sI j1) (by simp[e]) (fun s2 fr3 h3 K4 E m=>?_) (fun j1 x5 s2 fr3 h3 K4 n6 c7 E e m z8 hK9=>?_)
 ·have e:=Aj e E
  dsimp only[sumK_inl]at m
  cases m;simp[e]
 have e:=Aj e E
 obtain ⟨x10,e,m⟩:=Bo1 e m
 obtain ⟨x11,x12,e,m⟩:=Bo2 e m
 simp[e]
 refine CallAt.clo (by rfl) (Does56.at0 hw2 e.2) ?_
 rcases Io e m with ⟨e,m⟩|⟨e,m⟩
 rotate_left
 ·cases m;cases z8;simp[e]
 simp[e]
 cases m;exact hK9 _ _ _ (by simp[e]) z8

theorem r_lexis_Same_1 : C2 Tryd.prog 28 lexis_Same_1 sB Tkn.av Tkn.av := by
 intro T H a0 a1 r hm
 rw [lexis_Same_1] at hm
 have e:=trivial
 refine wi mixed Tryd.func28 [] [] 999 ?_
 cases hm;simp[e]

theorem r_lexis_Same : C2 Tryd.prog 15 lexis_Same sB (sL Tkn.av) (sL Tkn.av) := by
 intro T H a0 a1 r hm
 rw [lexis_Same] at hm
 have e:=trivial
 refine wi mixed Tryd.func15 [] [] 999 ?_
 obtain ⟨x1,s2,e,m⟩:=Bo2 e hm
 simp[e]
 refine Cf (r_slices_EqualFunc_api_Token_api_Token_api_Token_api_Token T (st:=fun _:Unit => H) (Fam.const _) (fun X _ _ _ _ _ h => by obtain ⟨h3,rfl⟩:=pureW_some h; exact r_lexis_Same_1 h3) e.2) ?_
 cases m;simp[e]

end Go.Proofs.YtooibjkhgdpnaaaDoor
