/- The program's functions do what the models say. -/
import Derived.Test.YtooibjkhgdpnaaaDoorLE
import Derived.Test.YtooibjkhgdpnaaaDoorLM
set_option maxRecDepth 20000
set_option maxHeartbeats 4000000
set_option linter.unusedSimpArgs false
set_option linter.unusedVariables false
namespace Go.Proofs.YtooibjkhgdpnaaaDoor
open Go Go.Abs Go.Mdl


theorem r_lexis_letter (T : Tabs) {H : Heap} {a0 : Int} {r0 : Bool} (hm : lexis_letter a0 = some r0) : ACall Tryd.prog T 23 [AV.sc (.int .i32 a0)] H (sB r0) H := by
 rw [lexis_letter] at hm
 have e:=trivial
 refine wi mixed Tryd.func23 [] [] 2 ?_
 simp[e]
 refine wj 999 999 (fun f h=>h=H∧f.1 2=sB (sel (ige a0 97) (ile a0 122) false)) (fun K1 hk2=>?_) ?_
 rotate_left
 ·rintro fr3 h3 E
  have e:=Aj e E
  cases hm;simp[e]
 rcases Pb (ige a0 97) e with e|e
 ·simp[e]
  exact hk2 _ _ (by simp[e])
 simp[e]
 exact hk2 _ _ (by simp[e])


theorem r_lexis_digit (T : Tabs) {H : Heap} {a0 : Int} {r0 : Bool} (hm : lexis_digit a0 = some r0) : ACall Tryd.prog T 24 [AV.sc (.int .i32 a0)] H (sB r0) H := by
 rw [lexis_digit] at hm
 have e:=trivial
 refine wi mixed Tryd.func24 [] [] 2 ?_
 simp[e]
 refine wj 999 999 (fun f h=>h=H∧f.1 2=sB (sel (ige a0 48) (ile a0 57) false)) (fun K1 hk2=>?_) ?_
 rotate_left
 ·rintro fr3 h3 E
  have e:=Aj e E
  cases hm;simp[e]
 rcases Pb (ige a0 48) e with e|e
 ·simp[e]
  exact hk2 _ _ (by simp[e])
 simp[e]
 exact hk2 _ _ (by simp[e])

theorem enters26 : entersB Tryd.prog 26 = true := by kernel_rfl
theorem grows_letter (w : World) (p : Nat → Bool) (hp : ∀ x : Nat, x ≤ 1114111 → lexis_letter (x : Int) = some (p x)) : PredGrows Tryd.prog 23 #[] p w := by
  intro W x hx hb
  have h := (r_lexis_letter (fun _ => none) (H := []) (hp x hx)).calls (v := .bool (p x)) (fun F G x h => by cases h; rfl) (gw_empty W) (vs := [.int .i32 x]) (.cons (.sc rfl) .nil)
  simpa [encR] using h
theorem enters_letter : ∀ (args : Array Value) (w : World), (callFunc 23 args).run Tryd.prog w = .ok (.enter 23 args) w := enters_of Tryd.func23 (by kernel_rfl) rfl
theorem grows_digit (w : World) (p : Nat → Bool) (hp : ∀ x : Nat, x ≤ 1114111 → lexis_digit (x : Int) = some (p x)) : PredGrows Tryd.prog 24 #[] p w := by
  intro W x hx hb
  have h := (r_lexis_digit (fun _ => none) (H := []) (hp x hx)).calls (v := .bool (p x)) (fun F G x h => by cases h; rfl) (gw_empty W) (vs := [.int .i32 x]) (.cons (.sc rfl) .nil)
  simpa [encR] using h
theorem enters_digit : ∀ (args : Array Value) (w : World), (callFunc 24 args).run Tryd.prog w = .ok (.enter 24 args) w := enters_of Tryd.func24 (by kernel_rfl) rfl
theorem r_strings_TrimFunc_lexis_letter (T : Tabs) (hT : LexT T) {H : Heap} {a0 r0 : ByteArray} (hm : strings_TrimFunc_lexis_letter a0 = some r0) : ACall Tryd.prog T 26 [AV.sc (.string a0), AV.func (.func 23) [] []] H (AV.sc (.string r0)) H := by
  unfold strings_TrimFunc_lexis_letter at hm
  split at hm
  case isFalse => cases hm
  rename_i hs
  obtain rfl := Option.some.inj hm
  refine ACall.ofCalls enters26 fun G F w vs hg ha => ?_
  obtain ⟨v1, v2, rfl, h1, h2⟩ := prepL2 ha
  cases h1
  cases h2 with
  | func hf hc =>
    cases hf; cases hc
    refine ⟨_, .sc rfl, ?_⟩
    exact Tryd.strings_TrimFunc_grows 23 #[] enters_letter _ a0 w hs (hT G F H w hg).1 (grows_letter w _ fun x _ => by
      have e1 : ige (x : Int) 97 = decide (97 ≤ x) := by simp only [ige]; congr 1; simp only [eq_iff_iff]; omega
      have e2 : ile (x : Int) 122 = decide (x ≤ 122) := by simp only [ile]; congr 1; simp only [eq_iff_iff]; omega
      rw [lexis_letter, e1, e2]
      by_cases h1 : 97 ≤ x <;> by_cases h2 : x ≤ 122 <;> simp [sel, h1, h2])
theorem r_strings_TrimFunc_lexis_digit (T : Tabs) (hT : LexT T) {H : Heap} {a0 r0 : ByteArray} (hm : strings_TrimFunc_lexis_digit a0 = some r0) : ACall Tryd.prog T 26 [AV.sc (.string a0), AV.func (.func 24) [] []] H (AV.sc (.string r0)) H := by
  unfold strings_TrimFunc_lexis_digit at hm
  split at hm
  case isFalse => cases hm
  rename_i hs
  obtain rfl := Option.some.inj hm
  refine ACall.ofCalls enters26 fun G F w vs hg ha => ?_
  obtain ⟨v1, v2, rfl, h1, h2⟩ := prepL2 ha
  cases h1
  cases h2 with
  | func hf hc =>
    cases hf; cases hc
    refine ⟨_, .sc rfl, ?_⟩
    exact Tryd.strings_TrimFunc_grows 24 #[] enters_digit _ a0 w hs (hT G F H w hg).1 (grows_digit w _ fun x _ => by
      have e1 : ige (x : Int) 48 = decide (48 ≤ x) := by simp only [ige]; congr 1; simp only [eq_iff_iff]; omega
      have e2 : ile (x : Int) 57 = decide (x ≤ 57) := by simp only [ile]; congr 1; simp only [eq_iff_iff]; omega
      rw [lexis_digit, e1, e2]
      by_cases h1 : 48 ≤ x <;> by_cases h2 : x ≤ 57 <;> simp [sel, h1, h2])



theorem r_lexis_Name (T : Tabs) (hT : LexT T) {H : Heap} {a0 : ByteArray} {r0 : Bool} (hm : lexis_Name a0 = some r0) : ACall Tryd.prog T 13 [sS a0] H (sB r0) H := by
 rw [lexis_Name] at hm
 have e:=hT
 refine wi mixed Tryd.func13 [] [] 2 ?_
 simp[e]
 refine Wj hm 999 999 (fun j1 f h=>∃ (v2:Bool),(h=H∧f.1 2=sB v2)∧j1 v2=some r0) (fun j1 K3 hk4 m=>?_) ?_
 rotate_left
 ·rintro fr5 h5 ⟨v2,E,m⟩
  have e:=Aj e E
  cases m;simp[e]
 rcases Io e m with ⟨e,m⟩|⟨e,m⟩
 rotate_left
 ·simp[e]
  exact hk4 _ _ ⟨false,by simp[e],m⟩
 rcases Io e m with ⟨e,m⟩|⟨e,m⟩
 rotate_left
 ·simp[e]
  exact hk4 _ _ ⟨false,by simp[e],m⟩
 obtain ⟨x6,e,m⟩:=Bo1 e m
 simp[e]
 refine Cf (r_strings_TrimFunc_lexis_letter T hT e.2) ?_
 simp[e]
 exact hk4 _ _ ⟨(seq x6 (ByteArray.mk #[])),by simp[e],m⟩

theorem enters45 : entersB Tryd.prog 45 = true := by kernel_rfl
theorem r_strconv_Atoi (T : Tabs) {H : Heap} {a0 : ByteArray} {r0 : Int} (hm : strconv_Atoi a0 = some r0) : ACall Tryd.prog T 45 [AV.sc (.string a0)] H (AV.tuple [AV.sc (.int .i64 r0), AV.sc .nilIface]) H := by
  unfold strconv_Atoi at hm
  split at hm
  case isFalse => cases hm
  rename_i hs
  refine ACall.ofCalls enters45 fun G F w vs hg ha => ?_
  obtain ⟨v1, rfl, h1⟩ := prepL1 ha
  cases h1
  refine ⟨_, .tuple (.cons (.sc rfl) (.cons (.sc rfl) .nil)), (Tryd.strconv_Atoi a0 r0 hs hm w).mono fun e w' ⟨h1, t, h2⟩ => ⟨h1, ?_⟩⟩
  subst h2
  exact Lib.bytesWorld_below w _ _



theorem r_lexis_number (T : Tabs) (hT : LexT T) {H : Heap} {a0 : ByteArray} {r0 : Int} {r1 : Bool} (hm : lexis_number a0 = some (r0, r1)) : ACall Tryd.prog T 37 [sS a0] H (AV.tuple [sI r0, sB r1]) H := by
 rw [lexis_number] at hm
 have e:=hT
 refine wi mixed Tryd.func37 [] [] 3 ?_
 simp[e]
 refine Wj hm 999 999 (fun j1 f h=>∃ (v2:Bool),(h=H∧f.1 0=sS a0∧f.1 28=sB v2)∧j1 v2=some (r0,r1)) (fun j1 K3 hk4 m=>?_) ?_
 rotate_left
 ·rintro fr5 h5 ⟨v2,E,m⟩
  have e:=Aj e E
  rcases Io e m with ⟨e,m⟩|⟨e,m⟩
  ·cases m;simp[e]
  obtain ⟨x6,e,m⟩:=Bo1 e m
  simp[e]
  refine Cf (r_strconv_Atoi T e.2) ?_
  cases m;simp[e]
 rcases Io e m with ⟨e,m⟩|⟨e,m⟩
 ·simp[e]
  exact hk4 _ _ ⟨true,by simp[e],m⟩
 rcases Io e m with ⟨e,m⟩|⟨e,m⟩
 ·simp[e]
  exact hk4 _ _ ⟨true,by simp[e],m⟩
 obtain ⟨x7,e,m⟩:=Bo1 e m
 simp[e]
 refine Cf (r_strings_TrimFunc_lexis_digit T hT e.2) ?_
 rcases Io e m with ⟨e,m⟩|⟨e,m⟩
 ·simp[e]
  exact hk4 _ _ ⟨true,by simp[e],m⟩
 obtain ⟨x8,e,m⟩:=Bo1 e m
 rcases Io e m with ⟨e,m⟩|⟨e,m⟩
 rotate_left
 ·simp[e]
  exact hk4 _ _ ⟨false,by simp[e],m⟩
 simp[e]
 exact hk4 _ _ ⟨(igt (slen a0) 1),by simp[e],m⟩

theorem enters38 : entersB Tryd.prog 38 = true := by kernel_rfl
theorem r_strings_CutPrefix (T : Tabs) {H : Heap} {a0 a1 r0 : ByteArray} {r1 : Bool} (hm : strings_CutPrefix a0 a1 = some (r0, r1)) : ACall Tryd.prog T 38 [AV.sc (.string a0), AV.sc (.string a1)] H (AV.tuple [AV.sc (.string r0), AV.sc (.bool r1)]) H := by
  cases hm
  refine ACall.ofCalls enters38 fun G F w vs hg ha => ?_
  obtain ⟨v1, v2, rfl, h1, h2⟩ := prepL2 ha
  cases h1; cases h2
  exact ⟨_, .tuple (.cons (.sc rfl) (.cons (.sc rfl) .nil)), (Tryd.strings_CutPrefix _ _ w).mono fun e w' ⟨h1, h2⟩ => ⟨h1, h2 ▸ Go.RowKit.Below.refl _ _⟩⟩



theorem r_lexis_word (T : Tabs) (hT : LexT T) {H : Heap} {a0 : ByteArray} {r0 : Tkn} {r1 : Bool} (hm : lexis_word a0 = some (r0, r1)) : ACall Tryd.prog T 25 [sS a0] H (AV.tuple [Tkn.av r0, sB r1]) H := by
 rw [lexis_word] at hm
 have e:=hT
 refine wi mixed Tryd.func25 [] [] 999 ?_
 obtain ⟨x1,e,m⟩:=Bo1 e hm
 simp[e]
 refine Cf (r_lexis_Name T hT e.2) ?_
 rcases Io e m with ⟨e,m⟩|⟨e,m⟩
 ·cases m;simp[e]
 obtain ⟨x2,x3,e,m⟩:=Bo2 e m
 simp[e]
 refine Cf (r_lexis_number T hT e.2) ?_
 rcases Io e m with ⟨e,m⟩|⟨e,m⟩
 ·cases m;simp[e]
 obtain ⟨x4,x5,e,m⟩:=Bo2 e m
 simp[e]
 refine Cf (r_strings_CutPrefix T e.2) ?_
 rcases Io e m with ⟨e,m⟩|⟨e,m⟩
 rotate_left
 ·cases m;simp[e]
 obtain ⟨x6,x7,e,m⟩:=Bo2 e m
 simp[e]
 refine Cf (r_lexis_number T hT e.2) ?_
 cases m;simp[e]


theorem r_lexis_Tokens (T : Tabs) (hT : LexT T) {H : Heap} {a0 : ByteArray} {r0 : (List Tkn)} {r1 : Int} (hm : lexis_Tokens a0 = some (r0, r1)) : ACall Tryd.prog T 12 [sS a0] H (AV.tuple [sL Tkn.av r0, sI r1]) H := by
 rw [lexis_Tokens] at hm
 have e:=hT
 refine wi mixed Tryd.func12 [] [] 999 ?_
 rcases Io e hm with ⟨e,m⟩|⟨e,m⟩
 ·cases m;simp[e]
 simp[e]
 refine Wn m 3 (fun s1 f h=>∃ (tg0_2:Tag),(h=H∧f.1 0=sS a0∧f.1 4=sT tg0_2 Tkn.av s1.1∧f.1 5=sI s1.2)∧Ow f [36,46,85] tg0_2 s1.1) (by exact ⟨.full,by simp[e],OwnT.full⟩) (fun s1 fr2 h2 K3 n4 c5 E m z6 hK7=>?_)
 obtain ⟨v8,v9⟩:=s1
 obtain ⟨tg0_2,E,o0_2⟩:=E
 have e:=Aj e E
 dsimp only[un2_mk]at m
 simp[e]
 rcases Io e m with ⟨e,m⟩|⟨e,m⟩
 rotate_left
 ·apply wg 999
  cases m
  have m:=Qb z6
  dsimp only[un2_mk]at m
  rcases Io e m with ⟨e,m⟩|⟨e,m⟩
  ·cases m;simp[e]
  cases m;simp[e]
 apply wg 7
 obtain ⟨x10,e,m⟩:=Bo1 e m
 simp[e]
 refine wj 999 999 (fun f h=>∃ (tg0_13:Tag),(h=H∧f.1 0=sS a0∧f.1 4=sT tg0_13 Tkn.av v8∧f.1 5=sI v9∧f.1 6=AV.sc (.int .u8 x10)∧f.1 20=sB (sel (ieq x10 32) true (ieq x10 10)))∧Ow f [36,46,85] tg0_13 v8) (fun K11 hk12=>?_) ?_
 ·rcases Pb (ieq x10 32) e with e|e
  ·simp[e]
   exact hk12 _ _ ⟨tg0_2,by simp[e],o0_2⟩
  simp[e]
  exact hk12 _ _ ⟨tg0_2,by simp[e],o0_2⟩
 rintro fr13 h13 ⟨tg0_13,E,o0_13⟩
 have e:=Aj e E
 rcases Io e m with ⟨e,m⟩|⟨e,m⟩
 ·simp[e]
  cases m;exact hK7 _ _ _ ⟨tg0_13,by simp[e],o0_13⟩ z6
 rcases Io e m with ⟨e,m⟩|⟨e,m⟩
 ·obtain ⟨e,m⟩:=Ck e m
  simp[e]
  refine Ao (f:=Tkn.av) v8 [(Tkn.mk 1 0 v9 ByteArray.empty)] o0_13 ap30 e.2 ?_
  simp[e]
  cases m;exact hK7 _ _ _ ⟨(.loc 36 (fr13.tgen 36 + 1)),by simp[e],(On 36)⟩ z6
 rcases Io e m with ⟨e,m⟩|⟨e,m⟩
 ·obtain ⟨e,m⟩:=Ck e m
  simp[e]
  refine Ao (f:=Tkn.av) v8 [(Tkn.mk 2 0 v9 ByteArray.empty)] o0_13 ap30 e.2 ?_
  simp[e]
  cases m;exact hK7 _ _ _ ⟨(.loc 46 (fr13.tgen 46 + 1)),by simp[e],(On 46)⟩ z6
 simp[e]
 refine Wn m 1 (fun s14 f h=>∃ (tg0_15:Tag),(h=H∧f.1 0=sS a0∧f.1 4=sT tg0_15 Tkn.av v8∧f.1 5=sI v9∧f.1 7=sI s14)∧Ow f [36,46,85] tg0_15 v8) (by exact ⟨tg0_13,by simp[e],o0_13⟩) (fun s14 fr15 h15 K16 n17 c18 E m z19 hK20=>?_)
 obtain ⟨tg0_15,E,o0_15⟩:=E
 have e:=Aj e E
 simp[e]
 refine Wj m 999 999 (fun j21 f h=>∃ (v22:Bool) (tg0_28:Tag),(h=H∧f.1 0=sS a0∧f.1 4=sT tg0_28 Tkn.av v8∧f.1 5=sI v9∧f.1 7=sI s14∧f.1 67=sB v22)∧Ow f [36,46,85] tg0_28 v8∧j21 v22=some c18) (fun j21 K23 hk24 m=>?_) ?_
 ·rcases Io e m with ⟨e,m⟩|⟨e,m⟩
  rotate_left
  ·simp[e]
   exact hk24 _ _ ⟨false,tg0_15,by simp[e],o0_15,m⟩
  obtain ⟨x25,e,m⟩:=Bo1 e m
  obtain ⟨x26,e,m⟩:=Bo1 e m
  simp[e]
  refine Cf (r_lexis_letter T e.2) ?_
  rcases Io e m with ⟨e,m⟩|⟨e,m⟩
  ·simp[e]
   exact hk24 _ _ ⟨true,tg0_15,by simp[e],o0_15,m⟩
  obtain ⟨x27,e,m⟩:=Bo1 e m
  simp[e]
  refine Cf (r_lexis_digit T e.2) ?_
  simp[e]
  exact hk24 _ _ ⟨x27,tg0_15,by simp[e],o0_15,m⟩
 rintro fr28 h28 ⟨v22,tg0_28,E,o0_28,m⟩
 have e:=Aj e E
 rcases Io e m with ⟨e,m⟩|⟨e,m⟩
 ·simp[e]
  cases m;exact hK20 _ _ _ ⟨tg0_28,by simp[e],o0_28⟩ z19
 cases m
 have m:=Qb z19
 try dsimp only at m
 obtain ⟨x29,e,m⟩:=Bo1 e m
 obtain ⟨x30,x31,e,m⟩:=Bo2 e m
 simp[e]
 refine Cf (r_lexis_word T hT e.2) ?_
 rcases Io e m with ⟨e,m⟩|⟨e,m⟩
 rotate_left
 ·cases m;cases z6;simp[e]
 obtain ⟨e,m⟩:=Ck e m
 simp[e]
 refine Ao (f:=Tkn.av) v8 [(Tkn.mk x30.kind x30.num v9 x30.text)] o0_28 ap30 e.2 ?_
 simp[e]
 cases m;exact hK7 _ _ _ ⟨(.loc 85 (fr28.tgen 85 + 1)),by simp[e],(On 85)⟩ z6


theorem r_law14_sane (T : Tabs) (hT : LexT T) {H : Heap}  {r0 : Bool} (hm : law14_sane = some r0) : ACall Tryd.prog T 8 [] H (sB r0) H := by
 rw [law14_sane] at hm
 have e:=hT
 refine wi mixed Tryd.func8 [] [] 4 ?_
 obtain ⟨x1,x2,e,m⟩:=Bo2 e hm
 simp[e]
 refine Cf (r_lexis_Tokens T hT e.2) ?_
 simp[e]
 refine Wj m 999 999 (fun j3 f h=>∃ (v4:Bool),(h=H∧f.1 0=sB v4)∧j3 v4=some r0) (fun j3 K5 hk6 m=>?_) ?_
 rotate_left
 ·rintro fr7 h7 ⟨v4,E,m⟩
  have e:=Aj e E
  cases m;simp[e]
 rcases Io e m with ⟨e,m⟩|⟨e,m⟩
 rotate_left
 ·simp[e]
  exact hk6 _ _ ⟨false,by simp[e],m⟩
 rcases Io e m with ⟨e,m⟩|⟨e,m⟩
 rotate_left
 ·simp[e]
  exact hk6 _ _ ⟨false,by simp[e],m⟩
 obtain ⟨x8,e,m⟩:=Bo1 e m
 rcases Io e m with ⟨e,m⟩|⟨e,m⟩
 rotate_left
 ·simp[e]
  exact hk6 _ _ ⟨false,by simp[e],m⟩
 obtain ⟨x9,e,m⟩:=Bo1 e m
 rcases Io e m with ⟨e,m⟩|⟨e,m⟩
 rotate_left
 ·simp[e]
  exact hk6 _ _ ⟨false,by simp[e],m⟩
 simp[e]
 exact hk6 _ _ ⟨(ieq x9.atF 6),by simp[e],m⟩

theorem r_mk_Few : C1 Tryd.prog 9 mk_Few sB (sL sI) := by
 intro T H a0 r hm
 rw [mk_Few] at hm
 have e:=trivial
 refine wi mixed Tryd.func9 [] [] 999 ?_
 cases hm;simp[e]

theorem enters10 : entersB Tryd.prog 10 = true := by kernel_rfl
theorem r_mk_New (T : Tabs) {a0 : List Int} {r0 : Smk_Deck} (hm : mk_New a0 = some r0) : ACall Tryd.prog T 10 [AV.slice .frz (List.map (fun n => AV.sc (Value.int .i64 n)) a0)] [] (AV.gptr 0 0) (hset [[]] 0 [AV.slice .frz (List.map (fun n => AV.sc (Value.int .i64 n)) r0.l), AV.sc (.int .i64 r0.atF)]) := by
  obtain rfl := Option.some.inj hm
  refine ACallP.intro (fn := Tryd.f10) Tryd.func10 rfl enters10 (Nat.le_of_ble_eq_true rfl) ?_
  refine AWp.seqK fun K1 hk1 => ?_
  refine AWp.region [] (by decide +kernel) ?_
  simp
  refine hk1 _ _ ?_
  refine AWp.seqK fun K1 hk1 => ?_
  refine AWp.region [5] (by decide +kernel) ?_
  simp
  refine hk1 _ _ ?_
  refine AWp.ret ?_
  simp [retQ, hset]

end Go.Proofs.YtooibjkhgdpnaaaDoor
