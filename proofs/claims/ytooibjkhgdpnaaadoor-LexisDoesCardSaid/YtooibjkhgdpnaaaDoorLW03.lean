/- The program's functions do what the models say. -/
import Derived.Test.YtooibjkhgdpnaaaDoorLW02
import Derived.Test.YtooibjkhgdpnaaaDoorLM
set_option maxRecDepth 20000
set_option maxHeartbeats 4000000
set_option linter.unusedSimpArgs false
set_option linter.unusedVariables false
namespace Go.Proofs.YtooibjkhgdpnaaaDoor
open Go Go.Abs Go.Mdl


theorem r_law14_LexisJoins (T : Tabs) (hT : LexT T) {a0 : (List Int)} {a1 : ByteArray} {a2 : ByteArray} {r0 : Bool} (hm : law14_LexisJoins a0 a1 a2 = some r0) : ACallP Tryd.prog T 4 [sL sI a0, sS a1, sS a2] [] (fun x _ => x = sB r0) := by
 rw [law14_LexisJoins] at hm
 have e:=hT
 refine wi mixed Tryd.func4 [] [] 5 ?_
 obtain ⟨x1,e,m⟩:=Bo1 e hm
 simp[e]
 refine Cf (r_law14_sane T hT e.2) ?_
 simp[e]
 rcases Io e m with ⟨e,m⟩|⟨e,m⟩
 rotate_left
 ·apply wg 999
  cases m;simp[e]
 apply wg 3
 simp[e]
 refine Wj m 999 999 (fun j2 f h=>∃ (v3:Bool),(h=([]:Heap)∧f.1 0=sL sI a0∧f.1 1=sS a1∧f.1 2=sS a2∧f.1 29=sB v3)∧j2 v3=some r0) (fun j2 K4 hk5 m=>?_) ?_
 ·obtain ⟨x6,e,m⟩:=Bo1 e m
  simp[e]
  refine Cf (r_mk_Few e.2) ?_
  rcases Io e m with ⟨e,m⟩|⟨e,m⟩
  rotate_left
  ·simp[e]
   exact hk5 _ _ ⟨true,by simp[e],m⟩
  simp[e]
  exact hk5 _ _ ⟨(igt (iadd .i64 (slen a1) (slen a2)) 4000),by simp[e],m⟩
 rintro fr7 h7 ⟨v3,E,m⟩
 have e:=Aj e E
 rcases Io e m with ⟨e,m⟩|⟨e,m⟩
 ·cases m;simp[e]
 obtain ⟨x8,e,m⟩:=Bo1 e m
 simp[e]
 refine Cf (r_mk_New T e.2) ?_
 obtain ⟨x9,d10,e,m⟩:=Bo2 e m
 simp[e]
 refine Cf (r_law14_text T (by simp[e]) e.2) ?_
 simp[e]
 obtain ⟨L11,hL12,m⟩:=joinB_some m
 refine Wr e m 0 (fun j13 s14 f h=>h=hset [[]] 0 [sL sI d10.l,sI d10.atF]∧f.1 44=sT .full (fun p => AV.agg [sS p.1,sS p.2]) L11∧f.1 45=sI (llen L11)∧f.1 46=sI j13) (by (repeat' apply And.intro)<;>first|rfl|(rw[hL12];rfl)|simp[e,hL12,llen]) (fun s14 fr15 h15 K16 E m=>?_) (fun j13 x17 s14 fr15 h15 K16 n18 c19 E e m z20 hK21=>?_)
 ·have e:=Aj e E
  apply wg 999
  dsimp only[sumK_inl]at m
  cases m;simp[e]
 have e:=Aj e E
 apply wg 5
 simp[e]
 refine Wj m 10 999 (fun j22 f h=>(h=hset [[]] 0 [sL sI d10.l,sI d10.atF]∧f.1 44=sT .full (fun p => AV.agg [sS p.1,sS p.2]) L11∧f.1 45=sI (llen L11)∧f.1 46=sI j13)∧j22=some c19) (fun j22 K23 hk24 m=>?_) ?_
 rotate_left
 ·rintro fr25 h25 ⟨E,m⟩
  have e:=Aj e E
  simp[e]
  cases m;exact hK21 _ _ _ (by simp[e]) z20
 obtain ⟨x26,x27,e,m⟩:=Bo2 e m
 simp[e]
 refine Cf (r_lexis_Tokens T hT e.2) ?_
 obtain ⟨x28,x29,e,m⟩:=Bo2 e m
 simp[e]
 refine Cf (r_lexis_Tokens T hT e.2) ?_
 obtain ⟨e,m⟩:=Ck e m
 obtain ⟨e,m⟩:=Ck e m
 obtain ⟨x30,x31,e,m⟩:=Bo2 e m
 simp[e]
 refine Cf (r_lexis_Tokens T hT e.2) ?_
 simp[e]
 refine wj 999 0 (fun f h=>h=hset [[]] 0 [sL sI d10.l,sI d10.atF]∧f.1 11=sL Tkn.av x26∧f.1 12=sI x27∧f.1 13=sL Tkn.av x28∧f.1 14=sI x29∧f.1 15=sL Tkn.av x30∧f.1 16=sI x31∧f.1 44=sT .full (fun p => AV.agg [sS p.1,sS p.2]) L11∧f.1 45=sI (llen L11)∧f.1 46=sI j13∧f.1 77=sB (sel (ieq x27 15) true (ieq x29 15))) (fun K32 hk33=>?_) ?_
 ·rcases Pb (ieq x27 15) e with e|e
  ·simp[e]
   exact hk33 _ _ (by simp[e])
  simp[e]
  exact hk33 _ _ (by simp[e])
 rintro fr34 h34 E
 have e:=Aj e E
 rcases Io e m with ⟨e,m⟩|⟨e,m⟩
 ·apply wg 2
  simp[e]
  refine wj 999 999 (fun f h=>h=hset [[]] 0 [sL sI d10.l,sI d10.atF]∧f.1 44=sT .full (fun p => AV.agg [sS p.1,sS p.2]) L11∧f.1 45=sI (llen L11)∧f.1 46=sI j13∧f.1 83=sB (sel (ine x31 15) (ine x31 3) false)) (fun K35 hk36=>?_) ?_
  ·rcases Pb (ine x31 15) e with e|e
   ·simp[e]
    exact hk36 _ _ (by simp[e])
   simp[e]
   exact hk36 _ _ (by simp[e])
  rintro fr37 h37 E
  have e:=Aj e E
  rcases Io e m with ⟨e,m⟩|⟨e,m⟩
  ·cases m;cases z20;simp[e]
  simp[e]
  exact hk24 _ _ ⟨by simp[e],m⟩
 apply wg 3
 simp[e]
 refine wj 999 0 (fun f h=>h=hset [[]] 0 [sL sI d10.l,sI d10.atF]∧f.1 11=sL Tkn.av x26∧f.1 13=sL Tkn.av x28∧f.1 15=sL Tkn.av x30∧f.1 16=sI x31∧f.1 44=sT .full (fun p => AV.agg [sS p.1,sS p.2]) L11∧f.1 45=sI (llen L11)∧f.1 46=sI j13∧f.1 93=sB (sel (ieq x31 3) true (sel (ine x27 0) true (ine x29 0)))) (fun K38 hk39=>?_) ?_
 ·rcases Pb (ieq x31 3) e with e|e
  ·simp[e]
   exact hk39 _ _ (by simp[e])
  rcases Pb (ine x27 0) e with e|e
  ·simp[e]
   exact hk39 _ _ (by simp[e])
  simp[e]
  exact hk39 _ _ (by simp[e])
 rintro fr40 h40 E
 have e:=Aj e E
 rcases Io e m with ⟨e,m⟩|⟨e,m⟩
 ·apply wg 999
  simp[e]
  exact hk24 _ _ ⟨by simp[e],m⟩
 apply wg 2
 simp[e]
 refine Wj m 999 999 (fun j41 f h=>∃ (v42:Bool),(h=hset [[]] 0 [sL sI d10.l,sI d10.atF]∧f.1 44=sT .full (fun p => AV.agg [sS p.1,sS p.2]) L11∧f.1 45=sI (llen L11)∧f.1 46=sI j13∧f.1 104=sB v42)∧j41 v42=some c19) (fun j41 K43 hk44 m=>?_) ?_
 rotate_left
 ·rintro fr45 h45 ⟨v42,E,m⟩
  have e:=Aj e E
  rcases Io e m with ⟨e,m⟩|⟨e,m⟩
  ·cases m;cases z20;simp[e]
  simp[e]
  exact hk24 _ _ ⟨by simp[e],m⟩
 rcases Io e m with ⟨e,m⟩|⟨e,m⟩
 ·simp[e]
  exact hk44 _ _ ⟨true,by simp[e],m⟩
 obtain ⟨e,m⟩:=Ck e m
 simp[e]
 refine Ao (f:=Tkn.av) [] x26 (OwnT.full (D:=[])) ap30 e.2 ?_
 obtain ⟨e,m⟩:=Ck e m
 simp[e]
 refine Ao (f:=Tkn.av) (lapp [] x26) x28 (OwnT.new (D:=[99]) (d:=99) (by decide)) ap30 e.2 ?_
 obtain ⟨x46,e,m⟩:=Bo1 e m
 simp[e]
 refine Cf (r_lexis_Same e.2) ?_
 simp[e]
 exact hk44 _ _ ⟨(bnot x46),by simp[e],m⟩

theorem enters41 : entersB Tryd.prog 41 = true := by kernel_rfl
theorem r_strconv_Itoa (T : Tabs) (hT : LexT T) {H : Heap} {a0 : Int} {r0 : ByteArray} (hm : strconv_Itoa a0 = some r0) : ACall Tryd.prog T 41 [AV.sc (.int .i64 a0)] H (AV.sc (.string r0)) H := by
  unfold strconv_Itoa at hm
  split at hm
  case isFalse => cases hm
  rename_i hs
  obtain rfl := Option.some.inj hm
  refine ACall.ofCalls enters41 fun G F w vs hg ha => ?_
  obtain ⟨v1, rfl, h1⟩ := prepL1 ha
  cases h1
  refine ⟨_, .sc rfl, (Go.Proofs.Cells.strconv_Itoa Tryd.laysM171 a0 hs.1 hs.2 w (hT G F H w hg).2).mono fun e w' ⟨h1, k, os, h2⟩ => ⟨h1, ?_⟩⟩
  subst h2
  exact below_grow _ _ _



theorem r_lexis_text (T : Tabs) (hT : LexT T) {H : Heap} {a0 : Tkn} {r0 : ByteArray} {r1 : Bool} (hm : lexis_text a0 = some (r0, r1)) : ACall Tryd.prog T 29 [Tkn.av a0] H (AV.tuple [sS r0, sB r1]) H := by
 rw [lexis_text] at hm
 have e:=hT
 refine wi mixed Tryd.func29 [] [] 4 ?_
 obtain ⟨x1,e,m⟩:=Bo1 e hm
 simp[e]
 refine Cf (r_strconv_Itoa T hT e.2) ?_
 simp[e]
 refine Wj m 999 0 (fun j2 f h=>∃ (v3:ByteArray) (g1_6:Nat),(h=H∧f.1 1=AV.lptr 1 g1_6 0∧f.1 4=sS v3∧f.gen 1=g1_6∧f.box 1=some [sI a0.kind,sI a0.num,sI a0.atF,sS a0.text])∧j2 v3=some (r0,r1)) (fun j2 K4 hk5 m=>?_) ?_
 ·rcases Io e m with ⟨e,m⟩|⟨e,m⟩
  rotate_left
  ·simp[e]
   exact hk5 _ _ ⟨x1,1,by simp[e],m⟩
  obtain ⟨e,m⟩:=Ck e m
  simp[e]
  exact hk5 _ _ ⟨((ByteArray.mk #[120]) ++ x1),1,by simp[e],m⟩
 rintro fr6 h6 ⟨v3,g1_6,E,m⟩
 have e:=Aj e E
 refine Wj m 999 6 (fun j7 f h=>∃ (v8:Bool) (g1_12:Nat),(h=H∧f.1 1=AV.lptr 1 g1_12 0∧f.1 4=sS v3∧f.1 5=sB v8∧f.gen 1=g1_12∧f.box 1=some [sI a0.kind,sI a0.num,sI a0.atF,sS a0.text])∧j7 v8=some (r0,r1)) (fun j7 K9 hk10 m=>?_) ?_
 ·rcases Io e m with ⟨e,m⟩|⟨e,m⟩
  rotate_left
  ·simp[e]
   exact hk10 _ _ ⟨false,g1_6,by simp[e],m⟩
  obtain ⟨x11,e,m⟩:=Bo1 e m
  simp[e]
  refine Cf (r_strconv_Itoa T hT e.2) ?_
  simp[e]
  exact hk10 _ _ ⟨(ile (slen x11) 6),g1_6,by simp[e],m⟩
 rintro fr12 h12 ⟨v8,g1_12,E,m⟩
 have e:=Aj e E
 simp[e]
 rcases Io e m with ⟨e,m⟩|⟨e,m⟩
 ·apply wg 1
  simp[e]
  refine wj 999 999 (fun f h=>h=H∧f.1 2=sS (ByteArray.mk #[40])∧f.1 3=sB (sel (ieq a0.num 0) (seq a0.text (ByteArray.mk #[])) false)) (fun K13 hk14=>?_) ?_
  rotate_left
  ·rintro fr15 h15 E
   have e:=Aj e E
   cases m;simp[e]
  rcases Pb (ieq a0.num 0) e with e|e
  ·simp[e]
   exact hk14 _ _ (by simp[e])
  simp[e]
  exact hk14 _ _ (by simp[e])
 apply wg 3
 simp[e]
 rcases Io e m with ⟨e,m⟩|⟨e,m⟩
 ·apply wg 1
  simp[e]
  refine wj 999 999 (fun f h=>h=H∧f.1 2=sS (ByteArray.mk #[41])∧f.1 3=sB (sel (ieq a0.num 0) (seq a0.text (ByteArray.mk #[])) false)) (fun K16 hk17=>?_) ?_
  rotate_left
  ·rintro fr18 h18 E
   have e:=Aj e E
   cases m;simp[e]
  rcases Pb (ieq a0.num 0) e with e|e
  ·simp[e]
   exact hk17 _ _ (by simp[e])
  simp[e]
  exact hk17 _ _ (by simp[e])
 apply wg 4
 rcases Io e m with ⟨e,m⟩|⟨e,m⟩
 ·simp[e]
  refine Wj m 999 999 (fun j19 f h=>∃ (v20:Bool),(h=H∧f.1 2=sS a0.text∧f.1 3=sB v20)∧j19 v20=some (r0,r1)) (fun j19 K21 hk22 m=>?_) ?_
  rotate_left
  ·rintro fr23 h23 ⟨v20,E,m⟩
   have e:=Aj e E
   cases m;simp[e]
  rcases Io e m with ⟨e,m⟩|⟨e,m⟩
  rotate_left
  ·simp[e]
   exact hk22 _ _ ⟨false,by simp[e],m⟩
  obtain ⟨x24,e,m⟩:=Bo1 e m
  simp[e]
  refine Cs (r_lexis_Name T hT e.2) ?_
  simp[e]
  exact hk22 _ _ ⟨x24,by simp[e],m⟩
 simp[e]
 refine wj 999 0 (fun f h=>∃ (g1_27:Nat),h=H∧f.1 1=AV.lptr 1 g1_27 0∧f.1 4=sS v3∧f.1 5=sB v8∧f.1 58=sB (sel (ieq a0.kind 4) true (ieq a0.kind 5))∧f.gen 1=g1_27∧f.box 1=some [sI a0.kind,sI a0.num,sI a0.atF,sS a0.text]) (fun K25 hk26=>?_) ?_
 ·rcases Pb (ieq a0.kind 4) e with e|e
  ·simp[e]
   exact hk26 _ _ ⟨g1_12,by simp[e]⟩
  simp[e]
  exact hk26 _ _ ⟨g1_12,by simp[e]⟩
 rintro fr27 h27 ⟨g1_27,E⟩
 have e:=Aj e E
 rcases Io e m with ⟨e,m⟩|⟨e,m⟩
 rotate_left
 ·apply wg 999
  cases m;simp[e]
 apply wg 1
 simp[e]
 refine wj 999 999 (fun f h=>h=H∧f.1 2=sS v3∧f.1 3=sB (sel v8 (seq a0.text (ByteArray.mk #[])) false)) (fun K28 hk29=>?_) ?_
 rotate_left
 ·rintro fr30 h30 E
  have e:=Aj e E
  cases m;simp[e]
 rcases Pb v8 e with e|e
 ·simp[e]
  exact hk29 _ _ (by simp[e])
 simp[e]
 exact hk29 _ _ (by simp[e])

section
open Go.Proofs Go.RowKit Go.Lib
def tokV (t : Tkn) : Value := .agg #[.int .i64 t.kind, .int .i64 t.num, .int .i64 t.atF, .string t.text]

theorem text_calls {t : Tkn} {s : ByteArray} {ok : Bool} (hm : lexis_text t = some (s, ok)) (w : World) (hu : Utf8Tabs 0 1 w) (hp : PowCells 4 w) :
    Calls Tryd.prog 29 #[tokV t] w fun e w' => e = .returned (.tuple #[.string s, .bool ok]) ∧ Below w.heap.size w w' := by
  have h := (r_lexis_text lexTab lexT_tab (H := []) hm).calls (v := .tuple #[.string s, .bool ok]) (fun F G x h => by
    cases h with
    | tuple h => cases h with | cons h1 h => cases h with | cons h2 h => cases h; cases h1; cases h2; rfl) (gw_start lexTab w lexTab_ne (lexTab_rep hu hp)) (vs := [tokV t]) (by
    rw [Tkn.av_eq]
    exact .cons (.agg (vs := [_, _, _, _]) (.cons (.sc rfl) (.cons (.sc rfl) (.cons (.sc rfl) (.cons (.sc rfl) .nil)))) (by simp [AV.isOne])) .nil)
  exact h

/-- A builder stays one where all blocks stand. -/
theorem builder_below {T e : TypeId} {B b : Nat} {bs : List Value} {w w' : World} (h : Lib.IsBuilderF T e B b bs w) (hb : Below w.heap.size w w') : Lib.IsBuilderF T e B b bs w' := by
  have key : ∀ p, Lib.BuilderAtF T e B b p bs w → Lib.BuilderAtF T e B b p bs w' := by
    rintro p ⟨h1, v, h2, h3, h4⟩
    have lt : ∀ {k : Nat} {o : Obj}, w.heap[k]? = some o → w'.heap[k]? = some o := fun {k o} hk => (hb.block k (Array.getElem?_eq_some_iff.1 hk).1).trans hk
    refine ⟨h1, v, lt h2, ⟨h3.1, ?_⟩, h4⟩
    rcases h3.2 with h5 | ⟨g, cap, cur, fz, h5, h6, h7, h8⟩
    · exact .inl h5
    · exact .inr ⟨g, cap, cur, fz, h5, h6, lt h7, h8⟩
  exact h.elim (fun h => .inl (key _ h)) (fun h => .inr (key _ h))

set_option maxHeartbeats 8000000 in
set_option maxRecDepth 1000000 in
theorem text_walk (l : List Tkn) (base : Option Addr) (b o cap : Nat) (w : World) (hl : l.length ≤ 2048) (hlc : l.length ≤ cap) (hb : l ≠ [] → b < w.heap.size) (hbase : l ≠ [] → base = some ⟨b, o, none⟩)
    (hc : ∀ (i : Nat) (t : Tkn), l[i]? = some t → w.cell? ⟨b, o + i * 4, none⟩ = some (.int .i64 t.kind) ∧ w.cell? ⟨b, o + i * 4 + 1, none⟩ = some (.int .i64 t.num) ∧ w.cell? ⟨b, o + i * 4 + 2, none⟩ = some (.int .i64 t.atF) ∧ w.cell? ⟨b, o + i * 4 + 3, none⟩ = some (.string t.text))
    (hu : Utf8Tabs 0 1 w) (hp : PowCells 4 w) {r0 : ByteArray} {r1 : Int} (hm : ltext none l [] = some (r0, r1)) :
    Calls Tryd.prog 16 #[.slice base l.length cap] w fun e w' => e = .returned (.tuple #[.string r0, .int .i64 r1]) ∧ Below w.heap.size w w' := by
  have hn : ¬ (2048 : Int) < (l.length : Int) := by omega
  have h4 : 4 < w.heap.size := by
    have h1 := hp 0 (by decide)
    rcases Nat.lt_or_ge 4 w.heap.size with h' | h'
    · exact h'
    · unfold World.cell? at h1
      rw [Array.getElem?_eq_none h'] at h1
      cases h1
  go_enter Tryd.func16, Tryd.ntmps16
  go_wp2
  all_goals try (exfalso; omega)
  go_loopw [14] (fun s14 wr => ∃ (i : Nat) (acc : List UInt8), s14 = .int .i64 i ∧ i ≤ l.length ∧ Lib.IsBuilderF 59 5 w.heap.size w.heap.size (Lib.byteCells acc) wr ∧ Below w.heap.size w wr ∧ acc.length ≤ 1001 * i ∧ ltext (if i = 0 then none else l[i - 1]?) (l.drop i) acc = some (r0, r1))
    (fun s14 _ => l.length - (intOf s14).toNat)
  case atStart =>
    exact ⟨0, [], rfl, Nat.zero_le _, Lib.IsBuilderF.of (Lib.fresh_isBuilder 59 5 w), (Below.refl _ w).alloc (Nat.le_refl _) _, Nat.zero_le _, hm⟩
  case round =>
    obtain ⟨i, acc, rfl, hi, hI, hbw, hal, hlt⟩ := hrel
    have hsz := hbw.size
    by_cases hin : i < l.length
    · have hin' : (i : Int) < (l.length : Int) := by omega
      obtain ⟨t, ht⟩ : ∃ t, l[i]? = some t := ⟨_, List.getElem?_eq_getElem hin⟩
      obtain ⟨c0, c1, c2, c3⟩ := hc i t ht
      have hne : l ≠ [] := by rintro rfl; simp at hin
      have hbl : b < w.heap.size := hb hne
      obtain rfl := hbase hne
      rw [← hbw.cell hbl] at c0 c1 c2 c3
      have hA := hI.alloc (.cells #[.int .i64 t.kind, .int .i64 t.num, .int .i64 t.atF, .string t.text] 35)
      have hbA := hbw.alloc hsz (.cells #[.int .i64 t.kind, .int .i64 t.num, .int .i64 t.atF, .string t.text] 35)
      obtain ⟨s1, ok, hs1⟩ : ∃ s1 ok, lexis_text t = some (s1, ok) := by
        rw [List.drop_eq_getElem_cons hin, (List.getElem?_eq_some_iff.1 ht).2] at hlt
        unfold ltext at hlt
        cases hq : lexis_text t with
        | none => rw [hq] at hlt; cases hlt
        | some p => exact ⟨p.1, p.2, rfl⟩
      go_wp2_with (go_at_call 29; refine (text_calls hs1 _ (Utf8Tabs_below hu hbA) (fun k hk => (hbA.cell (p := ⟨4, k, none⟩) h4).trans (hp k hk))).mono ?_)
      try simp only [and_imp]
      intro e W1 he b1
      subst he
      have b1 : Below (wr.alloc (.cells #[.int .i64 t.kind, .int .i64 t.num, .int .i64 t.atF, .string t.text] 35)).heap.size (wr.alloc (.cells #[.int .i64 t.kind, .int .i64 t.num, .int .i64 t.atF, .string t.text] 35)) W1 := by
        first | exact b1 | (rw [show (wr.alloc (.cells #[.int .i64 t.kind, .int .i64 t.num, .int .i64 t.atF, .string t.text] 35)).heap.size = wr.heap.size + 1 by simp]; exact b1)
      have hB1 := builder_below hA b1
      have hbw1 := hbA.trans (b1.mono hbA.size)
      have d0 : W1.cell? ⟨wr.heap.size, 0, none⟩ = some (.int .i64 t.kind) := by
        rw [b1.cell (p := ⟨wr.heap.size, 0, none⟩) (by simp), World.cell?_alloc_new]
        rfl
      rw [List.drop_eq_getElem_cons hin, (List.getElem?_eq_some_iff.1 ht).2] at hlt
      unfold ltext at hlt
      rw [hs1] at hlt
      cases ok with
      | false =>
        go_wp2
        go_ret2
        obtain ⟨e1, e2⟩ := Prod.mk.inj (Option.some.inj hlt)
        rw [← e1, ← e2]
        exact ⟨rfl, hbw1⟩
      | true =>
        simp only at hlt
        split at hlt
        case isFalse => cases hlt
        rename_i hsz1
        have hfin : ∀ (g : List UInt8) (p : Value) (W : World), g = gapT (if i = 0 then none else l[i - 1]?) t → p = .pointer (some ⟨w.heap.size, 0, none⟩) → Lib.BuilderAtF 59 5 w.heap.size w.heap.size p (Lib.byteCells (acc ++ g) ++ Lib.strCells s1) W → Below w.heap.size w W →
            ∃ (i' : Nat) (acc' : List UInt8), Value.int .i64 ((i : Int) + 1) = .int .i64 i' ∧ i' ≤ l.length ∧ Lib.IsBuilderF 59 5 w.heap.size w.heap.size (Lib.byteCells acc') W ∧ Below w.heap.size w W ∧ acc'.length ≤ 1001 * i' ∧ ltext (if i' = 0 then none else l[i' - 1]?) (l.drop i') acc' = some (r0, r1) := by
          intro g p W hg hpp hB hW
          subst hpp
          have hgl : g.length ≤ 1 := by
            rw [hg]; unfold gapT
            split
            · simp
            · split <;> simp
          refine ⟨i + 1, acc ++ g ++ s1.data.toList, by simp, by omega, .inr ?_, hW, ?_, ?_⟩
          · rw [Lib.byteCells_append, ← Lib.strCells_eq]
            exact hB
          · have hs2 : s1.data.toList.length = s1.size := (Lib.size_eq s1).symm
            simp only [List.length_append, hs2]
            omega
          · rw [if_neg (by omega), Nat.add_sub_cancel, ht, hg]
            exact hlt
        by_cases hi0 : i = 0
        · subst hi0
          go_wp2_with (go_at_call 31; refine (Tryd.bwriteString w.heap.size w.heap.size _ s1 _ hB1 (by rw [Lib.byteCells_length]; omega) hbw1.size).mono ?_)
          rintro e W2 ⟨he, h2, b2, k2⟩
          subst he
          go_wp2
          go_roundw
          case rel => exact hfin [] _ W2 rfl rfl (by rw [List.append_nil]; exact h2) (hbw1.trans b2)
          case measure => simp [intOf]; omega
        · obtain ⟨q, hq⟩ : ∃ q, l[i - 1]? = some q := ⟨_, List.getElem?_eq_getElem (by omega)⟩
          obtain ⟨q0, _, _, _⟩ := hc (i - 1) q hq
          rw [← hbw1.cell hbl] at q0
          have hip : (0 : Int) < (i : Int) := by omega
          have him : (i : Int) - 1 = ((i - 1 : Nat) : Int) := by omega
          have gp : gapT (if i = 0 then none else l[i - 1]?) t = if q.kind ≠ 1 ∧ t.kind ≠ 2 then [32] else [] := by rw [if_neg hi0, hq]; rfl
          by_cases hk1 : q.kind = 1
          · have g0 : [] = gapT (if i = 0 then none else l[i - 1]?) t := by rw [gp, if_neg (fun hh => hh.1 hk1)]
            rw [hk1] at q0
            go_wp2_with (go_at_call 31; refine (Tryd.bwriteString w.heap.size w.heap.size _ s1 _ hB1 (by rw [Lib.byteCells_length]; omega) hbw1.size).mono ?_)
            all_goals try (go_at_call 31; refine (Tryd.bwriteString w.heap.size w.heap.size _ s1 _ hB1 (by rw [Lib.byteCells_length]; omega) hbw1.size).mono ?_)
            all_goals (rintro e W2 ⟨he, h2, b2, k2⟩; subst he)
            all_goals go_wp2
            all_goals go_roundw
            all_goals first | exact hfin [] _ W2 g0 rfl (by rw [List.append_nil]; exact h2) (hbw1.trans b2) | (simp [intOf]; omega)
          · by_cases hk2 : t.kind = 2
            · have g0 : [] = gapT (if i = 0 then none else l[i - 1]?) t := by rw [gp, if_neg (fun hh => hh.2 hk2)]
              go_wp2_with (go_at_call 31; refine (Tryd.bwriteString w.heap.size w.heap.size _ s1 _ hB1 (by rw [Lib.byteCells_length]; omega) hbw1.size).mono ?_)
              all_goals try (go_at_call 31; refine (Tryd.bwriteString w.heap.size w.heap.size _ s1 _ hB1 (by rw [Lib.byteCells_length]; omega) hbw1.size).mono ?_)
              all_goals (rintro e W2 ⟨he, h2, b2, k2⟩; subst he)
              all_goals go_wp2
              all_goals go_roundw
              all_goals first | exact hfin [] _ W2 g0 rfl (by rw [List.append_nil]; exact h2) (hbw1.trans b2) | (simp [intOf]; omega)
            · have g0 : [32] = gapT (if i = 0 then none else l[i - 1]?) t := by rw [gp, if_pos ⟨hk1, hk2⟩]
              have hb1 : (q.kind != 1) = true := by simp [hk1]
              have hb2 : (t.kind != 2) = true := by simp [hk2]
              go_wp2_with (go_at_call 30; refine (Tryd.bwriteByte w.heap.size w.heap.size _ 32 _ hB1 (by rw [Lib.byteCells_length]; omega) hbw1.size).mono ?_)
              rintro e W2 ⟨he, h2, b2, k2⟩
              subst he
              have hl2 : (Lib.byteCells acc ++ [Value.int .u8 32]).length + s1.size ≤ 140737488355328 := by
                rw [List.length_append, Lib.byteCells_length]; simp only [List.length_cons, List.length_nil]; omega
              have hbw2 := hbw1.trans b2
              go_wp2_with (go_at_call 31; refine (Tryd.bwriteString w.heap.size w.heap.size _ s1 _ (.inr h2) hl2 hbw2.size).mono ?_)
              rintro e W3 ⟨he, h3, b3, k3⟩
              subst he
              go_wp2
              go_roundw
              case rel => exact hfin [32] _ W3 g0 rfl (by rw [Lib.byteCells_append]; exact h3) (hbw2.trans b3)
              case measure => simp [intOf]; omega
    · have hin' : ¬ (i : Int) < (l.length : Int) := by omega
      go_wp2_with (go_at_call 32; refine (Tryd.Builder_String_any_k w.heap.size w.heap.size acc _ hI (by omega)).mono ?_)
      try simp only [and_imp]
      intro e W1 he h1 b1 k1
      subst he
      go_wp2
      go_ret2
      rw [List.drop_eq_nil_of_le (by omega)] at hlt
      obtain ⟨e1, e2⟩ := Prod.mk.inj (Option.some.inj hlt)
      rw [← e1, ← e2]
      exact ⟨rfl, hbw.trans b1⟩

set_option maxHeartbeats 4000000 in
set_option maxRecDepth 1000000 in
theorem text_walk0 (n cap : Nat) (base : Option Addr) (w : World) (hl : 2048 < n) :
    Calls Tryd.prog 16 #[.slice base n cap] w fun e w' => e = .returned (.tuple #[.string ⟨#[]⟩, .int .i64 3]) ∧ Below w.heap.size w w' := by
  have hl' : (2048 : Int) < (n : Int) := by omega
  go_enter Tryd.func16, Tryd.ntmps16
  go_wp2
  all_goals try (exfalso; omega)
  go_ret2
  exact ⟨rfl, Below.refl _ _⟩

theorem tok_cells {F : Imm} {G : Nat → Nat} {n : Nat} : ∀ {l : List Tkn} {vs : List Value}, PRepL F G n ((l.map Tkn.av).flatMap AV.cells) vs → ∀ (i : Nat) (t : Tkn), l[i]? = some t →
    vs[i * 4]? = some (.int .i64 t.kind) ∧ vs[i * 4 + 1]? = some (.int .i64 t.num) ∧ vs[i * 4 + 2]? = some (.int .i64 t.atF) ∧ vs[i * 4 + 3]? = some (.string t.text)
  | [], vs, h, i, t, hi => by simp at hi
  | x :: l, vs, h, i, t, hi => by
    rw [List.map_cons, List.flatMap_cons, Tkn.cells_av] at h
    cases h with | cons a1 h => cases h with | cons a2 h => cases h with | cons a3 h => cases h with | cons a4 h =>
    cases a1; cases a2; cases a3; cases a4
    cases i with
    | zero =>
      obtain rfl := Option.some.inj hi
      exact ⟨rfl, rfl, rfl, rfl⟩
    | succ i =>
      have := tok_cells h i t (by simpa using hi)
      rw [show (i + 1) * 4 = i * 4 + 1 + 1 + 1 + 1 by omega, show i * 4 + 1 + 1 + 1 + 1 + 1 = (i * 4 + 1) + 1 + 1 + 1 + 1 by omega, show i * 4 + 1 + 1 + 1 + 1 + 2 = (i * 4 + 2) + 1 + 1 + 1 + 1 by omega, show i * 4 + 1 + 1 + 1 + 1 + 3 = (i * 4 + 3) + 1 + 1 + 1 + 1 by omega]
      simpa using this

theorem enters16 : entersB Tryd.prog 16 = true := by kernel_rfl
theorem r_lexis_Text (T : Tabs) (hT : LexT T) {H : Heap} {a0 : List Tkn} {r0 : ByteArray} {r1 : Int} (hm : lexis_Text a0 = some (r0, r1)) :
    ACall Tryd.prog T 16 [AV.slice .frz (List.map Tkn.av a0)] H (AV.tuple [AV.sc (.string r0), AV.sc (.int .i64 r1)]) H := by
  refine ACall.ofCalls enters16 fun G F w vs hg ha => ?_
  obtain ⟨v1, rfl, h1⟩ := prepL1 ha
  refine ⟨_, .tuple (.cons (.sc rfl) (.cons (.sc rfl) .nil)), ?_⟩
  cases h1 with
  | @slice _ _ vs b o base cap sz h1 h2 h3 h4 h5 h6 h7 h8 =>
    rw [List.length_map] at h6 ⊢
    unfold lexis_Text at hm
    split at hm
    · rename_i hl
      obtain ⟨e1, e2⟩ := Prod.mk.inj (Option.some.inj hm)
      rw [← e1, ← e2]
      exact text_walk0 _ cap base w hl
    · rename_i hl
      have hcell : ∀ (i : Nat) (v : Value), vs[i]? = some v → w.cell? ⟨b, o + i, none⟩ = some v := fun i v hv => hg.imm b _ v (h2 i v hv)
      refine text_walk a0 base b o cap w (by omega) h6 (fun hne => ?_) (fun hne => h3 (by simpa using hne)) (fun i t ht => ?_) (hT G F H w hg).1 (hT G F H w hg).2 hm
      · obtain ⟨t, ht⟩ : ∃ t, a0[0]? = some t := ⟨_, List.getElem?_eq_getElem (List.length_pos_iff.2 hne)⟩
        have hc := hcell _ _ (tok_cells h1 0 t ht).1
        rcases Nat.lt_or_ge b w.heap.size with h' | h'
        · exact h'
        · unfold World.cell? at hc
          rw [Array.getElem?_eq_none h'] at hc
          cases hc
      · obtain ⟨c0, c1, c2, c3⟩ := tok_cells h1 i t ht
        exact ⟨hcell _ _ c0, hcell _ _ c1, hcell _ _ c2, hcell _ _ c3⟩
end



theorem r_law14_LexisPlaces (T : Tabs) (hT : LexT T) {a0 : (List Int)} {r0 : Bool} (hm : law14_LexisPlaces a0 = some r0) : ACallP Tryd.prog T 5 [sL sI a0] [] (fun x _ => x = sB r0) := by
 rw [law14_LexisPlaces] at hm
 have e:=hT
 refine wi mixed Tryd.func5 [] [] 5 ?_
 obtain ⟨x1,e,m⟩:=Bo1 e hm
 simp[e]
 refine Cf (r_law14_sane T hT e.2) ?_
 simp[e]
 rcases Io e m with ⟨e,m⟩|⟨e,m⟩
 rotate_left
 ·apply wg 999
  cases m;simp[e]
 apply wg 5
 obtain ⟨x2,e,m⟩:=Bo1 e m
 simp[e]
 refine Cf (r_mk_Few e.2) ?_
 simp[e]
 rcases Io e m with ⟨e,m⟩|⟨e,m⟩
 rotate_left
 ·apply wg 999
  cases m;simp[e]
 apply wg 7
 obtain ⟨x3,e,m⟩:=Bo1 e m
 simp[e]
 refine Cf (r_mk_New T e.2) ?_
 obtain ⟨x4,d5,e,m⟩:=Bo2 e m
 simp[e]
 refine Cf (r_law14_text T (by simp[e]) e.2) ?_
 obtain ⟨x6,x7,e,m⟩:=Bo2 e m
 simp[e]
 refine Cf (r_lexis_Tokens T hT e.2) ?_
 simp[e]
 refine Wj m 999 999 (fun j8 f h=>∃ (v9:Bool),(h=hset [[]] 0 [sL sI d5.l,sI d5.atF]∧f.1 3=sS x4∧f.1 4=sL Tkn.av x6∧f.1 37=sB v9)∧j8 v9=some r0) (fun j8 K10 hk11 m=>?_) ?_
 ·rcases Io e m with ⟨e,m⟩|⟨e,m⟩
  ·simp[e]
   exact hk11 _ _ ⟨true,by simp[e],m⟩
  rcases Io e m with ⟨e,m⟩|⟨e,m⟩
  ·simp[e]
   exact hk11 _ _ ⟨true,by simp[e],m⟩
  obtain ⟨x12,e,m⟩:=Bo1 e m
  simp[e]
  exact hk11 _ _ ⟨(ine x12.atF 0),by simp[e],m⟩
 rintro fr13 h13 ⟨v9,E,m⟩
 have e:=Aj e E
 rcases Io e m with ⟨e,m⟩|⟨e,m⟩
 ·cases m;simp[e]
 simp[e]
 refine Wr e m 0 (fun j14 s15 f h=>h=hset [[]] 0 [sL sI d5.l,sI d5.atF]∧f.1 3=sS x4∧f.1 4=sL Tkn.av x6∧f.1 38=sL Tkn.av x6∧f.1 39=sI (llen x6)∧f.1 40=sI j14) (by simp[e]) (fun s15 fr16 h16 K17 E m=>?_) (fun j14 x18 s15 fr16 h16 K17 n19 c20 E e m z21 hK22=>?_)
 ·have e:=Aj e E
  apply wg 999
  dsimp only[sumK_inl]at m
  cases m;simp[e]
 have e:=Aj e E
 apply wg 15
 obtain ⟨x23,x24,e,m⟩:=Bo2 e m
 simp[e]
 refine Cf (r_lexis_Text T hT e.2) ?_
 simp[e]
 refine Wj m 999 999 (fun j25 f h=>∃ (v26:Bool),(h=hset [[]] 0 [sL sI d5.l,sI d5.atF]∧f.1 3=sS x4∧f.1 4=sL Tkn.av x6∧f.1 38=sL Tkn.av x6∧f.1 39=sI (llen x6)∧f.1 40=sI j14∧f.1 96=sB v26)∧j25 v26=some c20) (fun j25 K27 hk28 m=>?_) ?_
 rotate_left
 ·rintro fr29 h29 ⟨v26,E,m⟩
  have e:=Aj e E
  rcases Io e m with ⟨e,m⟩|⟨e,m⟩
  ·cases m;cases z21;simp[e]
  simp[e]
  cases m;exact hK22 _ _ _ (by simp[e]) z21
 rcases Io e m with ⟨e,m⟩|⟨e,m⟩
 ·simp[e]
  exact hk28 _ _ ⟨true,by simp[e],m⟩
 rcases Io e m with ⟨e,m⟩|⟨e,m⟩
 ·simp[e]
  exact hk28 _ _ ⟨true,by simp[e],m⟩
 rcases Io e m with ⟨e,m⟩|⟨e,m⟩
 ·simp[e]
  exact hk28 _ _ ⟨true,by simp[e],m⟩
 obtain ⟨x30,e,m⟩:=Bo1 e m
 rcases Io e m with ⟨e,m⟩|⟨e,m⟩
 ·simp[e]
  exact hk28 _ _ ⟨true,by simp[e],m⟩
 rcases Io e m with ⟨e,m⟩|⟨e,m⟩
 rotate_left
 ·simp[e]
  exact hk28 _ _ ⟨false,by simp[e],m⟩
 obtain ⟨x31,e,m⟩:=Bo1 e m
 simp[e]
 exact hk28 _ _ ⟨(ile x18.atF x31.atF),by simp[e],m⟩



theorem r_ref14_digit : C1 Tryd.prog 34 ref14_digit sB (fun n => AV.sc (Value.int .u8 n)) := by
 intro T H a0 r hm
 rw [ref14_digit] at hm
 have e:=trivial
 refine wi mixed Tryd.func34 [] [] 2 ?_
 simp[e]
 refine wj 999 999 (fun f h=>h=H∧f.1 2=sB (sel (ige a0 48) (ile a0 57) false)) (fun K1 hk2=>?_) ?_
 rotate_left
 ·rintro fr3 h3 E
  have e:=Aj e E
  cases hm;simp[e]
 rcases Pb (ige a0 48) e with e|e
 ·simp[e]
  exact hk2 _ _ (by simp[e])
 simp[e]
 exact hk2 _ _ (by simp[e])

theorem r_ref14_number : C1 Tryd.prog 43 ref14_number (t2 sI sB) sS := by
 intro T H a0 r hm
 rw [ref14_number] at hm
 have e:=trivial
 refine wi mixed Tryd.func43 [] [] 3 ?_
 simp[e]
 refine Wj hm 999 999 (fun j1 f h=>∃ (v2:Bool),(h=H∧f.1 0=sS a0∧f.1 23=sB v2)∧j1 v2=some r) (fun j1 K3 hk4 m=>?_) ?_
 ·rcases Io e m with ⟨e,m⟩|⟨e,m⟩
  ·simp[e]
   exact hk4 _ _ ⟨true,by simp[e],m⟩
  rcases Io e m with ⟨e,m⟩|⟨e,m⟩
  ·simp[e]
   exact hk4 _ _ ⟨true,by simp[e],m⟩
  obtain ⟨x5,e,m⟩:=Bo1 e m
  rcases Io e m with ⟨e,m⟩|⟨e,m⟩
  rotate_left
  ·simp[e]
   exact hk4 _ _ ⟨false,by simp[e],m⟩
  simp[e]
  exact hk4 _ _ ⟨(igt (slen a0) 1),by simp[e],m⟩
 rintro fr6 h6 ⟨v2,E,m⟩
 have e:=Aj e E
 rcases Io e m with ⟨e,m⟩|⟨e,m⟩
 ·cases m;simp[e]
 simp[e]
 refine Wn m 999 (fun s7 f h=>h=H∧f.1 0=sS a0∧f.1 4=sI s7.1∧f.1 5=sI s7.2) (by simp[e]) (fun s7 fr8 h8 K9 n10 c11 E m z12 hK13=>?_)
 obtain ⟨v14,v15⟩:=s7
 have e:=Aj e E
 dsimp only[un2_mk]at m
 rcases Io e m with ⟨e,m⟩|⟨e,m⟩
 rotate_left
 ·cases m
  have m:=Qb z12
  dsimp only[un2_mk]at m
  cases m;simp[e]
 obtain ⟨x16,e,m⟩:=Bo1 e m
 obtain ⟨x17,e,m⟩:=Bo1 e m
 simp[e]
 refine Cf (r_ref14_digit e.2) ?_
 rcases Io e m with ⟨e,m⟩|⟨e,m⟩
 rotate_left
 ·cases m;cases z12;simp[e]
 simp[e]
 cases m;exact hK13 _ _ _ (by simp[e]) z12

theorem r_ref14_word : C2 Tryd.prog 35 ref14_word (t2 Tkn.av sB) sS sI := by
 intro T H a0 a1 r hm
 rw [ref14_word] at hm
 have e:=trivial
 refine wi mixed Tryd.func35 [] [] 7 ?_
 obtain ⟨x1,x2,e,m⟩:=Bo2 e hm
 simp[e]
 refine Cf (r_ref14_number e.2) ?_
 simp[e]
 rcases Io e m with ⟨e,m⟩|⟨e,m⟩
 ·apply wg 999
  cases m;simp[e]
 apply wg 2
 simp[e]
 refine Wj m 0 999 (fun j3 f h=>∃ (g4_6:Nat),(h=H∧f.1 0=sS a0∧f.1 1=sI a1∧f.1 4=AV.lptr 4 g4_6 0∧f.gen 4=g4_6∧f.box 4=some [sI 0,sI 0,sI 0,sS ByteArray.empty])∧j3=some r) (fun j3 K4 hk5 m=>?_) ?_
 rotate_left
 ·rintro fr6 h6 ⟨g4_6,E,m⟩
  have e:=Aj e E
  obtain ⟨x7,e,m⟩:=Bo1 e m
  simp[e]
  refine Cf (r_ref14_Name e.2) ?_
  cases m;simp[e]
 refine Wj m 999 999 (fun j8 f h=>∃ (v9:Bool) (g4_13:Nat),(h=H∧f.1 0=sS a0∧f.1 1=sI a1∧f.1 4=AV.lptr 4 g4_13 0∧f.1 26=sB v9∧f.gen 4=g4_13∧f.box 4=some [sI 0,sI 0,sI 0,sS ByteArray.empty])∧j8 v9=some r) (fun j8 K10 hk11 m=>?_) ?_
 ·obtain ⟨x12,e,m⟩:=Bo1 e m
  rcases Io e m with ⟨e,m⟩|⟨e,m⟩
  rotate_left
  ·simp[e]
   exact hk11 _ _ ⟨false,1,by simp[e],m⟩
  simp[e]
  exact hk11 _ _ ⟨(igt (slen a0) 1),1,by simp[e],m⟩
 rintro fr13 h13 ⟨v9,g4_13,E,m⟩
 have e:=Aj e E
 rcases Io e m with ⟨e,m⟩|⟨e,m⟩
 rotate_left
 ·simp[e]
  exact hk5 _ _ ⟨g4_13,by simp[e],m⟩
 obtain ⟨x14,e,m⟩:=Bo1 e m
 obtain ⟨x15,x16,e,m⟩:=Bo2 e m
 simp[e]
 refine Cf (r_ref14_number e.2) ?_
 rcases Io e m with ⟨e,m⟩|⟨e,m⟩
 ·cases m;simp[e]
 simp[e]
 exact hk5 _ _ ⟨g4_13,by simp[e],m⟩

theorem r_ref14_Tokens : C1 Tryd.prog 17 ref14_Tokens (t2 (sL Tkn.av) sI) sS := by
 intro T H a0 r hm
 rw [ref14_Tokens] at hm
 have e:=trivial
 refine wi mixed Tryd.func17 [] [] 999 ?_
 rcases Io e hm with ⟨e,m⟩|⟨e,m⟩
 ·cases m;simp[e]
 simp[e]
 refine Wn m 3 (fun s1 f h=>∃ (tg0_2:Tag),(h=H∧f.1 0=sS a0∧f.1 4=sT tg0_2 Tkn.av s1.1∧f.1 5=sI s1.2)∧Ow f [52,76,88] tg0_2 s1.1) (by exact ⟨.full,by simp[e],OwnT.full⟩) (fun s1 fr2 h2 K3 n4 c5 E m z6 hK7=>?_)
 obtain ⟨v8,v9⟩:=s1
 obtain ⟨tg0_2,E,o0_2⟩:=E
 have e:=Aj e E
 dsimp only[un2_mk]at m
 simp[e]
 rcases Io e m with ⟨e,m⟩|⟨e,m⟩
 rotate_left
 ·apply wg 999
  cases m
  have m:=Qb z6
  dsimp only[un2_mk]at m
  rcases Io e m with ⟨e,m⟩|⟨e,m⟩
  ·cases m;simp[e]
  cases m;simp[e]
 apply wg 4
 simp[e]
 refine Wj m 999 999 (fun j10 f h=>∃ (v11:Bool) (tg0_15:Tag),(h=H∧f.1 0=sS a0∧f.1 4=sT tg0_15 Tkn.av v8∧f.1 5=sI v9∧f.1 54=sB v11)∧Ow f [52,76,88] tg0_15 v8∧j10 v11=some c5) (fun j10 K12 hk13 m=>?_) ?_
 ·obtain ⟨x14,e,m⟩:=Bo1 e m
  rcases Io e m with ⟨e,m⟩|⟨e,m⟩
  ·simp[e]
   exact hk13 _ _ ⟨true,tg0_2,by simp[e],o0_2,m⟩
  simp[e]
  exact hk13 _ _ ⟨(ieq x14 10),tg0_2,by simp[e],o0_2,m⟩
 rintro fr15 h15 ⟨v11,tg0_15,E,o0_15,m⟩
 have e:=Aj e E
 rcases Io e m with ⟨e,m⟩|⟨e,m⟩
 ·simp[e]
  cases m;exact hK7 _ _ _ ⟨tg0_15,by simp[e],o0_15⟩ z6
 obtain ⟨x16,e,m⟩:=Bo1 e m
 rcases Io e m with ⟨e,m⟩|⟨e,m⟩
 ·obtain ⟨e,m⟩:=Ck e m
  simp[e]
  refine Ao (f:=Tkn.av) v8 [(Tkn.mk 1 0 v9 ByteArray.empty)] o0_15 ap30 e.2 ?_
  simp[e]
  cases m;exact hK7 _ _ _ ⟨(.loc 76 (fr15.tgen 76 + 1)),by simp[e],(On 76)⟩ z6
 rcases Io e m with ⟨e,m⟩|⟨e,m⟩
 ·obtain ⟨e,m⟩:=Ck e m
  simp[e]
  refine Ao (f:=Tkn.av) v8 [(Tkn.mk 2 0 v9 ByteArray.empty)] o0_15 ap30 e.2 ?_
  simp[e]
  cases m;exact hK7 _ _ _ ⟨(.loc 88 (fr15.tgen 88 + 1)),by simp[e],(On 88)⟩ z6
 simp[e]
 refine Wn m 1 (fun s17 f h=>∃ (tg0_18:Tag),(h=H∧f.1 0=sS a0∧f.1 4=sT tg0_18 Tkn.av v8∧f.1 5=sI v9∧f.1 6=sI s17)∧Ow f [52,76,88] tg0_18 v8) (by exact ⟨tg0_15,by simp[e],o0_15⟩) (fun s17 fr18 h18 K19 n20 c21 E m z22 hK23=>?_)
 obtain ⟨tg0_18,E,o0_18⟩:=E
 have e:=Aj e E
 simp[e]
 refine Wj m 999 999 (fun j24 f h=>∃ (v25:Bool) (tg0_31:Tag),(h=H∧f.1 0=sS a0∧f.1 4=sT tg0_31 Tkn.av v8∧f.1 5=sI v9∧f.1 6=sI s17∧f.1 32=sB v25)∧Ow f [52,76,88] tg0_31 v8∧j24 v25=some c21) (fun j24 K26 hk27 m=>?_) ?_
 ·rcases Io e m with ⟨e,m⟩|⟨e,m⟩
  rotate_left
  ·simp[e]
   exact hk27 _ _ ⟨false,tg0_18,by simp[e],o0_18,m⟩
  obtain ⟨x28,e,m⟩:=Bo1 e m
  obtain ⟨x29,e,m⟩:=Bo1 e m
  simp[e]
  refine Cf (r_ref14_letter e.2) ?_
  rcases Io e m with ⟨e,m⟩|⟨e,m⟩
  ·simp[e]
   exact hk27 _ _ ⟨true,tg0_18,by simp[e],o0_18,m⟩
  obtain ⟨x30,e,m⟩:=Bo1 e m
  simp[e]
  refine Cf (r_ref14_digit e.2) ?_
  simp[e]
  exact hk27 _ _ ⟨x30,tg0_18,by simp[e],o0_18,m⟩
 rintro fr31 h31 ⟨v25,tg0_31,E,o0_31,m⟩
 have e:=Aj e E
 rcases Io e m with ⟨e,m⟩|⟨e,m⟩
 ·simp[e]
  cases m;exact hK23 _ _ _ ⟨tg0_31,by simp[e],o0_31⟩ z22
 cases m
 have m:=Qb z22
 try dsimp only at m
 rcases Io e m with ⟨e,m⟩|⟨e,m⟩
 ·cases m;cases z6;simp[e]
 obtain ⟨x32,e,m⟩:=Bo1 e m
 obtain ⟨x33,x34,e,m⟩:=Bo2 e m
 simp[e]
 refine Cf (r_ref14_word e.2) ?_
 rcases Io e m with ⟨e,m⟩|⟨e,m⟩
 rotate_left
 ·cases m;cases z6;simp[e]
 obtain ⟨e,m⟩:=Ck e m
 simp[e]
 refine Ao (f:=Tkn.av) v8 [x33] o0_31 ap30 e.2 ?_
 simp[e]
 cases m;exact hK7 _ _ _ ⟨(.loc 52 (fr31.tgen 52 + 1)),by simp[e],(On 52)⟩ z6


end Go.Proofs.YtooibjkhgdpnaaaDoor
