/- The program's functions do what the models say. -/
import Derived.Test.YtooibjkhgdpnaaaDoorLW03
import Derived.Test.YtooibjkhgdpnaaaDoorLM
import Derived.Test.YtooibjkhgdpnaaaDoorThaw
set_option maxRecDepth 20000
set_option maxHeartbeats 4000000
set_option linter.unusedSimpArgs false
set_option linter.unusedVariables false
namespace Go.Proofs.YtooibjkhgdpnaaaDoor
open Go Go.Abs Go.Mdl

theorem r_law14_same : C2 Tryd.prog 18 law14_same sB (sL Tkn.av) (sL Tkn.av) := by
 intro T H a0 a1 r hm
 rw [law14_same] at hm
 have e:=trivial
 refine wi mixed Tryd.func18 [] [] 999 ?_
 rcases Io e hm with ⟨e,m⟩|⟨e,m⟩
 ·cases m;simp[e]
 simp[e]
 refine Wr e m 999 (fun j1 s2 f h=>h=H∧f.1 0=sL Tkn.av a0∧f.1 1=sL Tkn.av a1∧f.1 12=sI (llen a0)∧f.1 13=sI j1) (by simp[e]) (fun s2 fr3 h3 K4 E m=>?_) (fun j1 x5 s2 fr3 h3 K4 n6 c7 E e m z8 hK9=>?_)
 ·have e:=Aj e E
  dsimp only[sumK_inl]at m
  cases m;simp[e]
 have e:=Aj e E
 obtain ⟨x10,e,m⟩:=Bo1 e m
 rcases Io e m with ⟨e,m⟩|⟨e,m⟩
 rotate_left
 ·cases m;cases z8;simp[e]
 simp[e]
 cases m;exact hK9 _ _ _ (by simp[e]) z8

theorem r_ref14_Same : C2 Tryd.prog 21 ref14_Same sB (sL Tkn.av) (sL Tkn.av) := by
 intro T H a0 a1 r hm
 rw [ref14_Same] at hm
 have e:=trivial
 refine wi mixed Tryd.func21 [] [] 999 ?_
 rcases Io e hm with ⟨e,m⟩|⟨e,m⟩
 ·cases m;simp[e]
 simp[e]
 refine Wr e m 0 (fun j1 s2 f h=>h=H∧f.1 0=sL Tkn.av a0∧f.1 1=sL Tkn.av a1∧f.1 12=sI (llen a0)∧f.1 13=sI j1) (by simp[e]) (fun s2 fr3 h3 K4 E m=>?_) (fun j1 x5 s2 fr3 h3 K4 n6 c7 E e m z8 hK9=>?_)
 ·have e:=Aj e E
  apply wg 999
  dsimp only[sumK_inl]at m
  cases m;simp[e]
 have e:=Aj e E
 apply wg 9
 simp[e]
 refine Wj m 999 999 (fun j10 f h=>∃ (v11:Bool),(h=H∧f.1 0=sL Tkn.av a0∧f.1 1=sL Tkn.av a1∧f.1 12=sI (llen a0)∧f.1 13=sI j1∧f.1 52=sB v11)∧j10 v11=some c7) (fun j10 K12 hk13 m=>?_) ?_
 rotate_left
 ·rintro fr14 h14 ⟨v11,E,m⟩
  have e:=Aj e E
  rcases Io e m with ⟨e,m⟩|⟨e,m⟩
  ·cases m;cases z8;simp[e]
  simp[e]
  cases m;exact hK9 _ _ _ (by simp[e]) z8
 obtain ⟨x15,e,m⟩:=Bo1 e m
 rcases Io e m with ⟨e,m⟩|⟨e,m⟩
 ·simp[e]
  exact hk13 _ _ ⟨true,by simp[e],m⟩
 rcases Io e m with ⟨e,m⟩|⟨e,m⟩
 ·simp[e]
  exact hk13 _ _ ⟨true,by simp[e],m⟩
 simp[e]
 exact hk13 _ _ ⟨(sne x5.text x15.text),by simp[e],m⟩


@[simp] theorem hset_c (x y : List AV) (l : Heap) : hset (x :: l) 0 y = y :: l := rfl
abbrev u8A (n : Int) : AV := AV.sc (.int .u8 n)
theorem law14_bytes_facts {s : ByteArray} {l : List Int} (h : law14_bytes s = some l) : s.size ≤ growLim ∧ (s.size : Int) = llen l ∧ byteAVs s = l.map u8A ∧ 0 < l.length := by
 unfold law14_bytes at h
 split at h
 ·cases h
 ·rename_i h0
  obtain rfl := Option.some.inj h
  have hs : s.size = s.data.toList.length := by rw [Array.length_toList]; rfl
  refine ⟨by simp only [growLim]; omega, by unfold llen; rw [List.length_map, ← hs], by unfold byteAVs; rw [List.map_map]; rfl, by rw [List.length_map, ← hs]; omega⟩
theorem setCells_mid (A B : List AV) (x y : AV) : setCells (A ++ x :: B) A.length [y] = A ++ y :: B := by
 simp [setCells]
theorem okObj_cons (x : AV) (l : List AV) : okObj (x :: l) = x.isOne := rfl
theorem storeA_set {P : Program} {t k o off : Nat} {bl : Bool} {v : AV} {K : Fr → Heap → Prop} {fr : Fr} {H H' : Heap} {cs cs' : List AV} (hl : layOf P t = some (bl, k)) (ho : H[o]? = some cs) (hok : okObj cs = true) (hv : v.cells.length = k)
  (hfit : off + k ≤ cs.length) (hnt : notTuple v = true) (hset : setCells cs off v.norm.cells = cs') (hH : H.set o cs' = H') (hk : K fr H') : storeA P t (.gptr o off) v K fr H := by
 unfold storeA
 rw [hl]
 simp only [ho]
 subst hset; subst hH
 exact ⟨hok, hv, hfit, hnt, hk⟩
theorem set_split {α : Type} {l : List α} {i : Nat} (h : i < l.length) : ∃ A x B, l = A ++ x :: B ∧ A.length = i ∧ ∀ y, l.set i y = A ++ y :: B := by
 refine ⟨l.take i, l[i], l.drop (i + 1), by simp, by rw [List.length_take]; omega, fun y => ?_⟩
 rw [List.set_eq_take_append_cons_drop, if_pos h]
theorem law14_setB_facts {l r : List Int} {i c : Int} (h : law14_setB l i c = some r) (k : Nat) : 0 ≤ i ∧ i < llen l ∧ okObj (l.map u8A ++ junk k) = true ∧ i.toNat + 1 ≤ (l.map u8A ++ junk k).length ∧ setCells (l.map u8A ++ junk k) i.toNat [u8A c] = r.map u8A ++ junk k := by
 unfold law14_setB at h
 split at h
 ·rename_i hi
  obtain rfl := Option.some.inj h
  obtain ⟨A, x, B, hl, hA, hs⟩ := set_split hi.2
  refine ⟨hi.1, by unfold llen; omega, ?_, by simp; omega, ?_⟩
  ·cases l with
   | nil => simp at hi
   | cons y l => rfl
  ·rw [hs c, hl]
   have := setCells_mid (A.map u8A) (B.map u8A ++ junk k) (u8A x) (u8A c)
   rw [List.length_map, hA] at this
   simpa using this
 ·cases h
theorem law14_setT_facts {l r : List Tkn} {i c : Int} (h : law14_setT l i c = some r) (off k : Nat) : 0 ≤ i ∧ i < llen l ∧ okObj (junk off ++ ((l.map Tkn.av).flatMap AV.cells ++ junk k)) = true ∧ (off + i.toNat * 4 + 1) + 1 ≤ (junk off ++ ((l.map Tkn.av).flatMap AV.cells ++ junk k)).length ∧
  setCells (junk off ++ ((l.map Tkn.av).flatMap AV.cells ++ junk k)) (off + i.toNat * 4 + 1) [sI c] = junk off ++ ((r.map Tkn.av).flatMap AV.cells ++ junk k) := by
 unfold law14_setT at h
 split at h
 ·rename_i hi
  split at h
  ·rename_i x hx
   obtain rfl := Option.some.inj h
   have hlt := (List.getElem?_eq_some_iff.1 hx).1
   obtain ⟨A, y, B, hl, hA, hs⟩ := set_split hlt
   have hxy : x = y := by
    have : l[i.toNat]? = some y := by rw [hl, List.getElem?_append_right (by omega), hA]; simp
    rw [hx] at this; exact Option.some.inj this
   subst hxy
   have hfl : ∀ A : List Tkn, ((A.map Tkn.av).flatMap AV.cells).length = A.length * 4 := by
    intro A
    induction A with
    | nil => rfl
    | cons z A ih => simp only [List.map_cons, List.flatMap_cons, List.length_append, ih, List.length_cons]; rw [Tkn.av_eq]; simp [AV.cells]; omega
   have hjl : ∀ n, (junk n).length = n := fun n => by simp [junk]
   refine ⟨hi, by unfold llen; omega, ?_, ?_, ?_⟩
   ·cases off with
    | zero =>
     cases l with
     | nil => simp at hlt
     | cons z l => simp only [List.map_cons, List.flatMap_cons]; rw [Tkn.av_eq]; rfl
    | succ n => rfl
   ·simp only [List.length_append, hjl, hfl]; omega
   ·rw [hs, hl]
    have := setCells_mid (junk off ++ (A.map Tkn.av).flatMap AV.cells ++ [sI x.kind]) ([sI x.atF, sS x.text] ++ (B.map Tkn.av).flatMap AV.cells ++ junk k) (sI x.num) (sI c)
    rw [List.length_append, List.length_append, hjl, hfl, hA] at this
    simp only [List.map_append, List.map_cons, List.flatMap_append, List.flatMap_cons]
    rw [Tkn.av_eq x, Tkn.av_eq (Tkn.mk x.kind c x.atF x.text)]
    simpa [AV.cells] using this
  ·cases h
 ·cases h

theorem flat_u8 (l : List Int) : (l.map u8A).flatMap AV.cells = l.map u8A := by
 induction l with
 | nil => rfl
 | cons x l ih => simp only [List.map_cons, List.flatMap_cons, ih]; rfl
theorem setB_ok {l r : List Int} {i c : Int} (k : Nat) (h : law14_setB l i c = some r) : r.length = l.length ∧ okObj (r.map u8A ++ junk k) = true := by
 unfold law14_setB at h
 split at h
 ·rename_i hi
  obtain rfl := Option.some.inj h
  refine ⟨by simp, ?_⟩
  have : (l.set i.toNat c) ≠ [] := by simp; rintro rfl; simp at hi
  cases hq : l.set i.toNat c with
  | nil => exact absurd hq this
  | cons y q => rfl
 ·cases h
theorem setT_ok {l r : List Tkn} {i c : Int} (off k : Nat) (h : law14_setT l i c = some r) : r.length = l.length ∧ okObj (junk off ++ (r.map Tkn.av).flatMap AV.cells ++ junk k) = true := by
 unfold law14_setT at h
 split at h
 ·split at h
  ·rename_i x hx
   obtain rfl := Option.some.inj h
   refine ⟨by simp, ?_⟩
   cases off with
   | succ n => rfl
   | zero =>
    have : l ≠ [] := by rintro rfl; simp at hx
    cases hq : l.set i.toNat (Tkn.mk x.kind c x.atF x.text) with
    | nil => simp at hq; exact absurd hq this
    | cons y q => simp only [List.map_cons, List.flatMap_cons]; rw [Tkn.av_eq]; rfl
  ·cases h
 ·cases h

open Go.Mdl in
theorem Tokens_fresh (T : Tabs) {H : Heap} {a0 : ByteArray} {l : List Tkn} {e : Int} (hm : ref14_Tokens a0 = some (l, e)) (hl : l ≠ []) :
    ACallP Tryd.prog T 17 [sS a0] H fun r H' => ∃ off cap k, l.length ≤ cap ∧ r = AV.tuple [AV.gsl H.length off l.length cap, sI e] ∧ H' = H ++ [junk off ++ (l.map Tkn.av).flatMap AV.cells ++ junk k] := by
 have h0 : ACall Tryd.prog (fun _ => none) 17 [sS a0] [] (.tuple [.slice .frz (l.map Tkn.av), sI e]) [] := r_ref14_Tokens (T := fun _ => none) (H := []) hm
 refine (ACall.fresh (T := T) (H := H) h0 (by simp [flatB]) ?_ ?_ rfl).mono ?_
 ·intro c hc
  obtain ⟨x, hx, hc⟩ := List.mem_flatMap.1 hc
  obtain ⟨y, _, rfl⟩ := List.mem_map.1 hx
  rw [Tkn.av_eq] at hc
  simp only [AV.cells, List.mem_cons, List.not_mem_nil, or_false] at hc
  rcases hc with rfl | rfl | rfl | rfl <;> rfl
 ·intro x hx
  obtain ⟨y, _, rfl⟩ := List.mem_map.1 hx
  rw [Tkn.av_eq]
  simp [AV.cells]
 ·rintro r H' (⟨h1, _⟩ | ⟨_, off, cap, k, h2, rfl, rfl⟩)
  ·exact absurd (List.map_eq_nil_iff.1 h1) hl
  ·refine ⟨off, cap, k, by simpa using h2, by simp, rfl⟩

theorem r_law14_LexisDoes (T : Tabs) (hT : LexT T) {a0 : (List Int)} {a1 : ByteArray} {a2 : (List Tkn)} {r0 : Bool} (hm : law14_LexisDoes a0 a1 a2 = some r0) : ACallP Tryd.prog T 6 [sL sI a0, sS a1, sL Tkn.av a2] [] (fun x _ => x = sB r0) := by
 rw [law14_LexisDoes] at hm
 have e:=hT
 refine wi mixed Tryd.func6 [] [] 5 ?_
 obtain ⟨x1,e,m⟩:=Bo1 e hm
 simp[e]
 refine Cf (r_law14_sane T hT e.2) ?_
 simp[e]
 rcases Io e m with ⟨e,m⟩|⟨e,m⟩
 rotate_left
 ·apply wg 999
  cases m;simp[e]
 apply wg 3
 simp[e]
 refine Wj m 999 17 (fun j2 f h=>∃ (v3:Bool),(h=([]:Heap)∧f.1 0=sL sI a0∧f.1 1=sS a1∧f.1 2=sL Tkn.av a2∧f.1 38=sB v3)∧j2 v3=some r0) (fun j2 K4 hk5 m=>?_) ?_
 ·obtain ⟨x6,e,m⟩:=Bo1 e m
  simp[e]
  refine Cf (r_mk_Few e.2) ?_
  rcases Io e m with ⟨e,m⟩|⟨e,m⟩
  rotate_left
  ·simp[e]
   exact hk5 _ _ ⟨true,by simp[e],m⟩
  rcases Io e m with ⟨e,m⟩|⟨e,m⟩
  ·simp[e]
   exact hk5 _ _ ⟨true,by simp[e],m⟩
  simp[e]
  exact hk5 _ _ ⟨(igt (llen a2) 3000),by simp[e],m⟩
 rintro fr7 h7 ⟨v3,E,m⟩
 have e:=Aj e E
 rcases Io e m with ⟨e,m⟩|⟨e,m⟩
 ·cases m;simp[e]
 obtain ⟨x8,e,m⟩:=Bo1 e m
 simp[e]
 refine Cf (r_mk_New T e.2) ?_
 obtain ⟨x9,d10,e,m⟩:=Bo2 e m
 simp[e]
 refine Cf (r_law14_text T (by simp[e]) e.2) ?_
 obtain ⟨x11,e,m⟩:=Bo1 e m
 simp[e]
 obtain ⟨hB1,hB2,hB3,hB4⟩:=law14_bytes_facts e.2
 refine ⟨hB1,fun cap k hcap=>?_⟩
 have e:=Aj e hB2
 have e:=Aj e hB3
 obtain ⟨x13,d14,e,m⟩:=Bo2 e m
 simp[e]
 refine Cf (r_mk_Deck_Next T (by simp[e]) e.2) ?_
 obtain ⟨x15,d16,e,m⟩:=Bo2 e m
 simp[e]
 refine Cf (r_mk_Deck_Next T (by simp[e]) e.2) ?_
 obtain ⟨L16,hL17,m⟩:=joinB_some m
 have e:=Aj e (show [sI 32,sI 10,sI 40,sI 41,sI 48,sI 57,sI 97,sI 120,sI 65,sI 0]=List.map sI L16 by rw[hL17];rfl)
 obtain ⟨x18,e,m⟩:=Bo1 e m
 obtain ⟨x19,e,m⟩:=Bo1 e m
 obtain ⟨hS1,hS2,hS3,hS4,hS5⟩:=law14_setB_facts e.2 k
 have e:=Aj e hS1
 have e:=Aj e hS2
 simp[e,-storeA_gptr]
 refine storeA_set (cs':=x19.map u8A ++ junk k) lay5 rfl hS3 rfl hS4 rfl hS5 rfl ?_
 simp[e]
 obtain ⟨x20,x21,e,m⟩:=Bo2 e m
 have hne : x20 ≠ [] := by
  rintro rfl
  obtain ⟨_,_,e1,m1⟩:=Bo2 e m
  obtain ⟨_,_,e1,m1⟩:=Bo2 e1 m1
  obtain ⟨_,e1,m1⟩:=Bo1 e1 m1
  simp [law14_setT] at e1
 refine CallAt.fnP (Tokens_fresh T e.2 hne) (fun r H' hp=>?_)
 obtain ⟨off2,cap2,k2,hc2,rfl,rfl⟩:=hp
 have hl0 : (0:Int) < llen x20 := by
  have := List.length_pos_iff.2 hne
  unfold llen
  omega
 have e:=Aj e (show ((x20.length:Nat):Int)=llen x20 from rfl)
 have e:=Aj e (show igt (llen x20) 0=true by simp[igt];exact hl0)
 simp[e]
 obtain ⟨x22,d23,e,m⟩:=Bo2 e m
 refine Cf (r_mk_Deck_Next T (by simp[e]) e.2) ?_
 obtain ⟨x24,d25,e,m⟩:=Bo2 e m
 simp[e]
 refine Cf (r_mk_Deck_Next T (by simp[e]) e.2) ?_
 obtain ⟨x26,e,m⟩:=Bo1 e m
 obtain ⟨hT1,hT2,hT3,hT4,hT5⟩:=law14_setT_facts e.2 off2 k2
 have e:=Aj e hT1
 have e:=Aj e hT2
 simp[e,-storeA_gptr]
 refine storeA_set (cs':=junk off2 ++ ((x26.map Tkn.av).flatMap AV.cells ++ junk k2)) lay3 rfl hT3 rfl hT4 rfl hT5 rfl ?_
 simp[e]
 obtain ⟨hr1,hr2⟩:=setT_ok off2 k2 (show law14_setT x20 x22 x24=some x26 by simp[e])
 obtain ⟨hs1,hs2⟩:=setB_ok k (show law14_setB x11 x13 (conv .u8 x18)=some x19 by simp[e])
 refine wkillE 0 (d:=10) (o:=2) (off:=off2) (len:=x20.length) (cap:=cap2) (A:=junk off2) (C:=junk k2) (L:=x26.map Tkn.av) (sz:=4) (by simp) (by simp[junk]) (by simp[hr1]) (by intro y hy; obtain ⟨z,_,rfl⟩:=List.mem_map.1 hy; rw[Tkn.av_eq]; rfl) (by simp[e]) hr2 rfl ?_
 refine wkillE 999 (d:=9) (o:=1) (off:=0) (len:=x9.size) (cap:=cap) (A:=[]) (C:=junk k) (L:=x19.map u8A) (sz:=1) (by simp[flat_u8]) rfl (by simp[hs1];have:=hB2;unfold llen at this;omega) (by intro y hy; obtain ⟨z,_,rfl⟩:=List.mem_map.1 hy; rfl) (by simp[e]) (by simpa[flat_u8] using hs2) rfl ?_
 obtain ⟨e,m⟩:=Ck e m
 simp[e]
 obtain ⟨L27,hL28,m⟩:=joinB_some m
 refine Wr e m 0 (fun j29 s30 f h=>h=[[sL sI d25.l,sI d25.atF],[],[]]∧f.1 2=sL Tkn.av a2∧f.1 10=sL Tkn.av x26∧f.1 81=sT .full sS L27∧f.1 82=sI (llen L27)∧f.1 83=sI j29) (by (repeat' apply And.intro)<;>first|rfl|(rw[hL28];rfl)|(simp[hL28,llen];done)|(simp[e,hL28];done)) (fun s30 fr31 h31 K32 E m=>?_) (fun j29 x33 s30 fr31 h31 K32 n34 c35 E e m z36 hK37=>?_)
 ·have e:=Aj e E
  apply wg 999
  dsimp only[sumK_inl]at m
  cases m;simp[e]
 have e:=Aj e E
 apply wg 14
 obtain ⟨x38,x39,e,m⟩:=Bo2 e m
 simp[e]
 refine Cf (r_lexis_Tokens T hT e.2) ?_
 obtain ⟨x40,x41,e,m⟩:=Bo2 e m
 simp[e]
 refine Cf (r_ref14_Tokens e.2) ?_
 simp[e]
 refine Wj m 999 999 (fun j42 f h=>∃ (v43:Bool),(h=[[sL sI d25.l,sI d25.atF],[],[]]∧f.1 2=sL Tkn.av a2∧f.1 10=sL Tkn.av x26∧f.1 16=sL Tkn.av x40∧f.1 81=sT .full sS L27∧f.1 82=sI (llen L27)∧f.1 83=sI j29∧f.1 112=sB v43)∧j42 v43=some c35) (fun j42 K44 hk45 m=>?_) ?_
 ·rcases Io e m with ⟨e,m⟩|⟨e,m⟩
  ·simp[e]
   exact hk45 _ _ ⟨true,by simp[e],m⟩
  obtain ⟨x46,e,m⟩:=Bo1 e m
  simp[e]
  refine Cf (r_law14_same e.2) ?_
  rcases Io e m with ⟨e,m⟩|⟨e,m⟩
  rotate_left
  ·simp[e]
   exact hk45 _ _ ⟨true,by simp[e],m⟩
  obtain ⟨x47,e,m⟩:=Bo1 e m
  simp[e]
  refine Cf (r_lexis_Name T hT e.2) ?_
  obtain ⟨x48,e,m⟩:=Bo1 e m
  simp[e]
  refine Cf (r_ref14_Name e.2) ?_
  simp[e]
  exact hk45 _ _ ⟨(bneB x47 x48),by simp[e],m⟩
 rintro fr49 h49 ⟨v43,E,m⟩
 have e:=Aj e E
 rcases Io e m with ⟨e,m⟩|⟨e,m⟩
 ·cases m;cases z36;simp[e]
 simp[e]
 obtain ⟨L50,hL51,m⟩:=joinB_some m
 refine Wr e m 0 (fun j52 s53 f h=>h=[[sL sI d25.l,sI d25.atF],[],[]]∧f.1 2=sL Tkn.av a2∧f.1 10=sL Tkn.av x26∧f.1 16=sL Tkn.av x40∧f.1 81=sT .full sS L27∧f.1 82=sI (llen L27)∧f.1 83=sI j29∧f.1 116=sT .full (sL Tkn.av) L50∧f.1 117=sI (llen L50)∧f.1 118=sI j52) (by (repeat' apply And.intro)<;>first|rfl|(rw[hL51];rfl)|simp[e,hL51,llen]) (fun s53 fr54 h54 K55 E m=>?_) (fun j52 x56 s53 fr54 h54 K55 n57 c58 E e m z59 hK60=>?_)
 ·have e:=Aj e E
  apply wg 999
  dsimp only[sumK_inl]at m
  simp[e]
  cases m;exact hK37 _ _ _ (by simp[e]) z36
 have e:=Aj e E
 apply wg 13
 obtain ⟨x61,x62,e,m⟩:=Bo2 e m
 simp[e]
 refine Cf (r_lexis_Text T hT e.2) ?_
 obtain ⟨x63,x64,e,m⟩:=Bo2 e m
 simp[e]
 refine Cf (r_ref14_Text e.2) ?_
 simp[e]
 refine Wj m 999 999 (fun j65 f h=>∃ (v66:Bool),(h=[[sL sI d25.l,sI d25.atF],[],[]]∧f.1 2=sL Tkn.av a2∧f.1 10=sL Tkn.av x26∧f.1 16=sL Tkn.av x40∧f.1 81=sT .full sS L27∧f.1 82=sI (llen L27)∧f.1 83=sI j29∧f.1 116=sT .full (sL Tkn.av) L50∧f.1 117=sI (llen L50)∧f.1 118=sI j52∧f.1 148=sB v66)∧j65 v66=some c58) (fun j65 K67 hk68 m=>?_) ?_
 rotate_left
 ·rintro fr69 h69 ⟨v66,E,m⟩
  have e:=Aj e E
  rcases Io e m with ⟨e,m⟩|⟨e,m⟩
  ·cases m;cases z59;cases z36;simp[e]
  simp[e]
  cases m;exact hK60 _ _ _ (by simp[e]) z59
 rcases Io e m with ⟨e,m⟩|⟨e,m⟩
 ·simp[e]
  exact hk68 _ _ ⟨true,by simp[e],m⟩
 rcases Io e m with ⟨e,m⟩|⟨e,m⟩
 ·simp[e]
  exact hk68 _ _ ⟨true,by simp[e],m⟩
 obtain ⟨x70,e,m⟩:=Bo1 e m
 simp[e]
 refine Cf (r_lexis_Same e.2) ?_
 obtain ⟨x71,e,m⟩:=Bo1 e m
 simp[e]
 refine Cf (r_ref14_Same e.2) ?_
 simp[e]
 exact hk68 _ _ ⟨(bneB x70 x71),by simp[e],m⟩


end Go.Proofs.YtooibjkhgdpnaaaDoor
