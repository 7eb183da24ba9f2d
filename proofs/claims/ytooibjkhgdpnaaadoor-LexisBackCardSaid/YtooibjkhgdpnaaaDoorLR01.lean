/- The program's functions do what the models say. -/
import Derived.Test.YtooibjkhgdpnaaaDoorLE
import Derived.Test.YtooibjkhgdpnaaaDoorLM
set_option maxRecDepth 20000
set_option maxHeartbeats 4000000
set_option linter.unusedSimpArgs false
set_option linter.unusedVariables false
namespace Go.Proofs.YtooibjkhgdpnaaaDoor
open Go Go.Abs Go.Mdl

theorem enters23 : entersB Tryd.prog 23 = true := by kernel_rfl

theorem r_lexis_letter (T : Tabs) {H : Heap} {a0 : Int} {r0 : Bool} (hm : lexis_letter a0 = some r0) : ACall Tryd.prog T 23 [AV.sc (.int .i32 a0)] H (AV.sc (.bool r0)) H := by
  rw [lexis_letter] at hm
  refine ACallP.intro (fn := Tryd.f23) Tryd.func23 rfl enters23 (Nat.le_of_ble_eq_true rfl) ?_
  refine AWp.sr [] fun K1 hk2 => ?_
  simp
  apply hk2
  refine AWp.seqP (fun fr h => H = h ∧ fr.env 2 = AV.sc (.bool (sel (ige a0 97) (ile a0 122) false))) (fun K3 hk4 => ?_) ?_
  rotate_left
  · rintro fr5 h5 ⟨rfl, E5⟩
    refine AWp.ret ?_
    obtain rfl := Option.some.inj hm
    simp [retQ, E5]
  refine AWp.region [] (by decide +kernel) ?_
  rcases Bool.eq_false_or_eq_true (ige a0 97) with hc6 | hc6
  · simp [hc6]
    refine hk4 _ _ ⟨?_, ?_⟩ <;> first | rfl | simp [hc6]
  simp [hc6]
  refine hk4 _ _ ⟨?_, ?_⟩ <;> first | rfl | simp [hc6]

theorem enters24 : entersB Tryd.prog 24 = true := by kernel_rfl

theorem r_lexis_digit (T : Tabs) {H : Heap} {a0 : Int} {r0 : Bool} (hm : lexis_digit a0 = some r0) : ACall Tryd.prog T 24 [AV.sc (.int .i32 a0)] H (AV.sc (.bool r0)) H := by
  rw [lexis_digit] at hm
  refine ACallP.intro (fn := Tryd.f24) Tryd.func24 rfl enters24 (Nat.le_of_ble_eq_true rfl) ?_
  refine AWp.sr [] fun K1 hk2 => ?_
  simp
  apply hk2
  refine AWp.seqP (fun fr h => H = h ∧ fr.env 2 = AV.sc (.bool (sel (ige a0 48) (ile a0 57) false))) (fun K3 hk4 => ?_) ?_
  rotate_left
  · rintro fr5 h5 ⟨rfl, E5⟩
    refine AWp.ret ?_
    obtain rfl := Option.some.inj hm
    simp [retQ, E5]
  refine AWp.region [] (by decide +kernel) ?_
  rcases Bool.eq_false_or_eq_true (ige a0 48) with hc6 | hc6
  · simp [hc6]
    refine hk4 _ _ ⟨?_, ?_⟩ <;> first | rfl | simp [hc6]
  simp [hc6]
  refine hk4 _ _ ⟨?_, ?_⟩ <;> first | rfl | simp [hc6]

theorem enters26 : entersB Tryd.prog 26 = true := by kernel_rfl
theorem grows_letter (w : World) (p : Nat → Bool) (hp : ∀ x : Nat, x ≤ 1114111 → lexis_letter (x : Int) = some (p x)) : PredGrows Tryd.prog 23 #[] p w := by
  intro W x hx hb
  have h := (r_lexis_letter (fun _ => none) (H := []) (hp x hx)).calls (v := .bool (p x)) (fun F G x h => by cases h; rfl) (gw_empty W) (vs := [.int .i32 x]) (.cons (.sc rfl) .nil)
  simpa [encR] using h
theorem enters_letter : ∀ (args : Array Value) (w : World), (callFunc 23 args).run Tryd.prog w = .ok (.enter 23 args) w := enters_of Tryd.func23 (by kernel_rfl) rfl
theorem grows_digit (w : World) (p : Nat → Bool) (hp : ∀ x : Nat, x ≤ 1114111 → lexis_digit (x : Int) = some (p x)) : PredGrows Tryd.prog 24 #[] p w := by
  intro W x hx hb
  have h := (r_lexis_digit (fun _ => none) (H := []) (hp x hx)).calls (v := .bool (p x)) (fun F G x h => by cases h; rfl) (gw_empty W) (vs := [.int .i32 x]) (.cons (.sc rfl) .nil)
  simpa [encR] using h
theorem enters_digit : ∀ (args : Array Value) (w : World), (callFunc 24 args).run Tryd.prog w = .ok (.enter 24 args) w := enters_of Tryd.func24 (by kernel_rfl) rfl
theorem r_strings_TrimFunc_lexis_letter (T : Tabs) (hT : LexT T) {H : Heap} {a0 r0 : ByteArray} (hm : strings_TrimFunc_lexis_letter a0 = some r0) : ACall Tryd.prog T 26 [AV.sc (.string a0), AV.func (.func 23) [] []] H (AV.sc (.string r0)) H := by
  unfold strings_TrimFunc_lexis_letter at hm
  split at hm
  case isFalse => cases hm
  rename_i hs
  obtain rfl := Option.some.inj hm
  refine ACall.ofCalls enters26 fun G F w vs hg ha => ?_
  obtain ⟨v1, v2, rfl, h1, h2⟩ := prepL2 ha
  cases h1
  cases h2 with
  | func hf hc =>
    cases hf; cases hc
    refine ⟨_, .sc rfl, ?_⟩
    exact Tryd.strings_TrimFunc_grows 23 #[] enters_letter _ a0 w hs (hT G F H w hg).1 (grows_letter w _ fun x _ => by
      have e1 : ige (x : Int) 97 = decide (97 ≤ x) := by simp only [ige]; congr 1; simp only [eq_iff_iff]; omega
      have e2 : ile (x : Int) 122 = decide (x ≤ 122) := by simp only [ile]; congr 1; simp only [eq_iff_iff]; omega
      rw [lexis_letter, e1, e2]
      by_cases h1 : 97 ≤ x <;> by_cases h2 : x ≤ 122 <;> simp [sel, h1, h2])
theorem r_strings_TrimFunc_lexis_digit (T : Tabs) (hT : LexT T) {H : Heap} {a0 r0 : ByteArray} (hm : strings_TrimFunc_lexis_digit a0 = some r0) : ACall Tryd.prog T 26 [AV.sc (.string a0), AV.func (.func 24) [] []] H (AV.sc (.string r0)) H := by
  unfold strings_TrimFunc_lexis_digit at hm
  split at hm
  case isFalse => cases hm
  rename_i hs
  obtain rfl := Option.some.inj hm
  refine ACall.ofCalls enters26 fun G F w vs hg ha => ?_
  obtain ⟨v1, v2, rfl, h1, h2⟩ := prepL2 ha
  cases h1
  cases h2 with
  | func hf hc =>
    cases hf; cases hc
    refine ⟨_, .sc rfl, ?_⟩
    exact Tryd.strings_TrimFunc_grows 24 #[] enters_digit _ a0 w hs (hT G F H w hg).1 (grows_digit w _ fun x _ => by
      have e1 : ige (x : Int) 48 = decide (48 ≤ x) := by simp only [ige]; congr 1; simp only [eq_iff_iff]; omega
      have e2 : ile (x : Int) 57 = decide (x ≤ 57) := by simp only [ile]; congr 1; simp only [eq_iff_iff]; omega
      rw [lexis_digit, e1, e2]
      by_cases h1 : 48 ≤ x <;> by_cases h2 : x ≤ 57 <;> simp [sel, h1, h2])


theorem enters13 : entersB Tryd.prog 13 = true := by kernel_rfl

theorem r_lexis_Name (T : Tabs) (hT : LexT T) {H : Heap} {a0 : ByteArray} {r0 : Bool} (hm : lexis_Name a0 = some r0) : ACall Tryd.prog T 13 [AV.sc (.string a0)] H (AV.sc (.bool r0)) H := by
  rw [lexis_Name] at hm
  refine ACallP.intro (fn := Tryd.f13) Tryd.func13 rfl enters13 (Nat.le_of_ble_eq_true rfl) ?_
  refine AWp.sr [] fun K1 hk2 => ?_
  simp [hT]
  apply hk2
  obtain ⟨j3, hj4, hm5⟩ := joinB_some hm
  clear hm
  refine AWp.seqP (fun fr h => ∃ (v6 : Bool), H = h ∧ fr.env 2 = AV.sc (.bool v6) ∧ j3 v6 = some r0) (fun K7 hk8 => ?_) ?_
  rotate_left
  · clear hm5
    rintro fr9 h9 ⟨v6, rfl, E9, hm10⟩
    subst hj4
    refine AWp.ret ?_
    obtain rfl := Option.some.inj hm10
    simp [retQ, E9, hT]
  refine AWp.region [] (by decide +kernel) ?_
  rcases ite_some hm5 with ⟨hc11, hm12⟩ | ⟨hc11, hm13⟩
  rotate_left
  · clear hm5
    simp [hT, hc11]
    refine hk8 _ _ ⟨false, ?_, ?_, hm13⟩ <;> first | rfl | simp [hT, hc11]
  clear hm5
  rcases ite_some hm12 with ⟨hc14, hm15⟩ | ⟨hc14, hm16⟩
  rotate_left
  · clear hm12
    simp [hT, hc11, hc14]
    refine hk8 _ _ ⟨false, ?_, ?_, hm16⟩ <;> first | rfl | simp [hT, hc11, hc14]
  clear hm12
  obtain ⟨x17, hx18, hm19⟩ := bind1_some hm15
  clear hm15
  try dsimp only at hm19
  simp [hT, hc11, hc14]
  refine CallAt.fn (r_strings_TrimFunc_lexis_letter T hT hx18) ?_
  simp [hT, hc11, hc14]
  refine hk8 _ _ ⟨(seq x17 (ByteArray.mk #[])), ?_, ?_, hm19⟩ <;> first | rfl | simp [hT, hc11, hc14]

theorem enters45 : entersB Tryd.prog 45 = true := by kernel_rfl
theorem r_strconv_Atoi (T : Tabs) {H : Heap} {a0 : ByteArray} {r0 : Int} (hm : strconv_Atoi a0 = some r0) : ACall Tryd.prog T 45 [AV.sc (.string a0)] H (AV.tuple [AV.sc (.int .i64 r0), AV.sc .nilIface]) H := by
  unfold strconv_Atoi at hm
  split at hm
  case isFalse => cases hm
  rename_i hs
  refine ACall.ofCalls enters45 fun G F w vs hg ha => ?_
  obtain ⟨v1, rfl, h1⟩ := prepL1 ha
  cases h1
  refine ⟨_, .tuple (.cons (.sc rfl) (.cons (.sc rfl) .nil)), (Tryd.strconv_Atoi a0 r0 hs hm w).mono fun e w' ⟨h1, t, h2⟩ => ⟨h1, ?_⟩⟩
  subst h2
  exact Lib.bytesWorld_below w _ _


theorem enters37 : entersB Tryd.prog 37 = true := by kernel_rfl

theorem r_lexis_number (T : Tabs) (hT : LexT T) {H : Heap} {a0 : ByteArray} {r0 : Int} {r1 : Bool} (hm : lexis_number a0 = some (r0, r1)) : ACall Tryd.prog T 37 [AV.sc (.string a0)] H (AV.tuple [AV.sc (.int .i64 r0), AV.sc (.bool r1)]) H := by
  rw [lexis_number] at hm
  refine ACallP.intro (fn := Tryd.f37) Tryd.func37 rfl enters37 (Nat.le_of_ble_eq_true rfl) ?_
  refine AWp.sr [] fun K1 hk2 => ?_
  simp [hT]
  apply hk2
  refine AWp.seqK fun K3 hk4 => ?_
  obtain ⟨j5, hj6, hm7⟩ := joinB_some hm
  clear hm
  refine AWp.seqP (fun fr h => ∃ (v8 : Bool), H = h ∧ (fr.env 0 = AV.sc (.string a0) ∧ fr.env 28 = AV.sc (.bool v8)) ∧ j5 v8 = some (r0, r1)) (fun K9 hk10 => ?_) ?_
  rotate_left
  · clear hm7
    rintro fr11 h11 ⟨v8, rfl, E11, hm12⟩
    subst hj6
    refine AWp.condK fun A13 B14 ga15 gb16 => ?_
    rcases ite_some hm12 with ⟨hc17, hm18⟩ | ⟨hc17, hm19⟩
    · clear hm12
      simp [E11, hT, hc17]
      apply ga15
      refine AWp.sr [] fun K20 hk21 => ?_
      simp [E11, hT, hc17]
      apply hk21
      refine AWp.ret ?_
      simp only [Option.some.injEq, Prod.mk.injEq] at hm18
      obtain ⟨rfl, rfl⟩ := hm18
      simp [retQ, E11, hT, hc17]
    clear hm12
    simp [E11, hT, hc17]
    apply gb16
    refine AWp.skip ?_
    apply hk4
    refine AWp.sr [] fun K22 hk23 => ?_
    obtain ⟨x24, hx25, hm26⟩ := bind1_some hm19
    clear hm19
    try dsimp only at hm26
    simp [E11, hT, hc17]
    refine CallAt.fn (r_strconv_Atoi T hx25) ?_
    simp [E11, hT, hc17]
    apply hk23
    refine AWp.seqK fun K27 hk28 => ?_
    refine AWp.regionD [] false mixed (by decide +kernel) (by decide +kernel) ?_
    simp [E11, hT, hc17]
    apply hk28
    refine AWp.ret ?_
    simp only [Option.some.injEq, Prod.mk.injEq] at hm26
    obtain ⟨rfl, rfl⟩ := hm26
    simp [retQ, E11, hT, hc17]
  refine AWp.region [] (by decide +kernel) ?_
  rcases ite_some hm7 with ⟨hc29, hm30⟩ | ⟨hc29, hm31⟩
  · clear hm7
    simp [hT, hc29]
    refine hk10 _ _ ⟨true, ?_, ⟨?_, ?_⟩, hm30⟩ <;> first | rfl | simp [hT, hc29]
  clear hm7
  rcases ite_some hm31 with ⟨hc32, hm33⟩ | ⟨hc32, hm34⟩
  · clear hm31
    simp [hT, hc29, hc32]
    refine hk10 _ _ ⟨true, ?_, ⟨?_, ?_⟩, hm33⟩ <;> first | rfl | simp [hT, hc29, hc32]
  clear hm31
  obtain ⟨x35, hx36, hm37⟩ := bind1_some hm34
  clear hm34
  try dsimp only at hm37
  simp [hT, hc29, hc32]
  refine CallAt.fn (r_strings_TrimFunc_lexis_digit T hT hx36) ?_
  rcases ite_some hm37 with ⟨hc38, hm39⟩ | ⟨hc38, hm40⟩
  · clear hm37
    simp [hT, hc29, hc32, hc38]
    refine hk10 _ _ ⟨true, ?_, ⟨?_, ?_⟩, hm39⟩ <;> first | rfl | simp [hT, hc29, hc32, hc38]
  clear hm37
  obtain ⟨x41, hx42, hm43⟩ := bind1_some hm40
  clear hm40
  try dsimp only at hm43
  rcases ite_some hm43 with ⟨hc44, hm45⟩ | ⟨hc44, hm46⟩
  rotate_left
  · clear hm43
    simp [hT, hx42, hc29, hc32, hc38, hc44]
    refine hk10 _ _ ⟨false, ?_, ⟨?_, ?_⟩, hm46⟩ <;> first | rfl | simp [hT, hx42, hc29, hc32, hc38, hc44]
  clear hm43
  simp [hT, hx42, hc29, hc32, hc38, hc44]
  refine hk10 _ _ ⟨(igt (slen a0) 1), ?_, ⟨?_, ?_⟩, hm45⟩ <;> first | rfl | simp [hT, hx42, hc29, hc32, hc38, hc44]

theorem enters38 : entersB Tryd.prog 38 = true := by kernel_rfl
theorem r_strings_CutPrefix (T : Tabs) {H : Heap} {a0 a1 r0 : ByteArray} {r1 : Bool} (hm : strings_CutPrefix a0 a1 = some (r0, r1)) : ACall Tryd.prog T 38 [AV.sc (.string a0), AV.sc (.string a1)] H (AV.tuple [AV.sc (.string r0), AV.sc (.bool r1)]) H := by
  cases hm
  refine ACall.ofCalls enters38 fun G F w vs hg ha => ?_
  obtain ⟨v1, v2, rfl, h1, h2⟩ := prepL2 ha
  cases h1; cases h2
  exact ⟨_, .tuple (.cons (.sc rfl) (.cons (.sc rfl) .nil)), (Tryd.strings_CutPrefix _ _ w).mono fun e w' ⟨h1, h2⟩ => ⟨h1, h2 ▸ Go.RowKit.Below.refl _ _⟩⟩


theorem enters25 : entersB Tryd.prog 25 = true := by kernel_rfl

theorem r_lexis_word (T : Tabs) (hT : LexT T) {H : Heap} {a0 : ByteArray} {r0 : Tkn} {r1 : Bool} (hm : lexis_word a0 = some (r0, r1)) : ACall Tryd.prog T 25 [AV.sc (.string a0)] H (AV.tuple [Tkn.av r0, AV.sc (.bool r1)]) H := by
  rw [lexis_word] at hm
  refine ACallP.intro (fn := Tryd.f25) Tryd.func25 rfl enters25 (Nat.le_of_ble_eq_true rfl) ?_
  refine AWp.sr [] fun K1 hk2 => ?_
  simp [hT]
  apply hk2
  refine AWp.seqK fun K3 hk4 => ?_
  refine AWp.sr [] fun K5 hk6 => ?_
  obtain ⟨x7, hx8, hm9⟩ := bind1_some hm
  clear hm
  try dsimp only at hm9
  simp [hT]
  refine CallAt.fn (r_lexis_Name T hT hx8) ?_
  simp [hT]
  apply hk6
  refine AWp.condK fun A10 B11 ga12 gb13 => ?_
  rcases ite_some hm9 with ⟨hc14, hm15⟩ | ⟨hc14, hm16⟩
  · clear hm9
    simp [hT, hc14]
    apply ga12
    refine AWp.sr [] fun K17 hk18 => ?_
    simp [hT, hc14]
    apply hk18
    refine AWp.ret ?_
    simp only [Option.some.injEq, Prod.mk.injEq] at hm15
    obtain ⟨rfl, rfl⟩ := hm15
    simp [retQ, hT, hc14]
  clear hm9
  simp [hT, hc14]
  apply gb13
  refine AWp.skip ?_
  apply hk4
  refine AWp.seqK fun K19 hk20 => ?_
  refine AWp.sr [] fun K21 hk22 => ?_
  obtain ⟨x23, x24, hx25, hm26⟩ := bind2_some hm16
  clear hm16
  try dsimp only at hm26
  simp [hT, hc14]
  refine CallAt.fn (r_lexis_number T hT hx25) ?_
  simp [hT, hc14]
  apply hk22
  refine AWp.sr [] fun K27 hk28 => ?_
  simp [hT, hc14]
  apply hk28
  refine AWp.condK fun A29 B30 ga31 gb32 => ?_
  rcases ite_some hm26 with ⟨hc33, hm34⟩ | ⟨hc33, hm35⟩
  · clear hm26
    simp [hT, hc14, hc33]
    apply ga31
    refine AWp.sr [] fun K36 hk37 => ?_
    simp [hT, hc14, hc33]
    apply hk37
    refine AWp.ret ?_
    simp only [Option.some.injEq, Prod.mk.injEq] at hm34
    obtain ⟨rfl, rfl⟩ := hm34
    simp [retQ, hT, hc14, hc33]
  clear hm26
  simp [hT, hc14, hc33]
  apply gb32
  refine AWp.skip ?_
  apply hk20
  refine AWp.seqK fun K38 hk39 => ?_
  refine AWp.sr [] fun K40 hk41 => ?_
  obtain ⟨x42, x43, hx44, hm45⟩ := bind2_some hm35
  clear hm35
  try dsimp only at hm45
  simp [hT, hc14, hc33]
  refine CallAt.fn (r_strings_CutPrefix T hx44) ?_
  simp [hT, hc14, hc33]
  apply hk41
  refine AWp.sr [] fun K46 hk47 => ?_
  simp [hT, hc14, hc33]
  apply hk47
  refine AWp.condK fun A48 B49 ga50 gb51 => ?_
  rcases ite_some hm45 with ⟨hc52, hm53⟩ | ⟨hc52, hm54⟩
  rotate_left
  · clear hm45
    simp [hT, hc14, hc33, hc52]
    apply gb51
    refine AWp.skip ?_
    apply hk39
    refine AWp.sr [] fun K55 hk56 => ?_
    simp [hT, hc14, hc33, hc52]
    apply hk56
    refine AWp.ret ?_
    simp only [Option.some.injEq, Prod.mk.injEq] at hm54
    obtain ⟨rfl, rfl⟩ := hm54
    simp [retQ, hT, hc14, hc33, hc52]
  clear hm45
  simp [hT, hc14, hc33, hc52]
  apply ga50
  refine AWp.sr [] fun K57 hk58 => ?_
  obtain ⟨x59, x60, hx61, hm62⟩ := bind2_some hm53
  clear hm53
  try dsimp only at hm62
  simp [hT, hc14, hc33, hc52]
  refine CallAt.fn (r_lexis_number T hT hx61) ?_
  simp [hT, hc14, hc33, hc52]
  apply hk58
  refine AWp.sr [] fun K63 hk64 => ?_
  simp [hT, hc14, hc33, hc52]
  apply hk64
  refine AWp.ret ?_
  simp only [Option.some.injEq, Prod.mk.injEq] at hm62
  obtain ⟨rfl, rfl⟩ := hm62
  simp [retQ, hT, hc14, hc33, hc52]

theorem enters12 : entersB Tryd.prog 12 = true := by kernel_rfl

theorem r_lexis_Tokens (T : Tabs) (hT : LexT T) {H : Heap} {a0 : ByteArray} {r0 : (List Tkn)} {r1 : Int} (hm : lexis_Tokens a0 = some (r0, r1)) : ACall Tryd.prog T 12 [AV.sc (.string a0)] H (AV.tuple [AV.slice .frz (List.map Tkn.av r0), AV.sc (.int .i64 r1)]) H := by
  rw [lexis_Tokens] at hm
  refine ACallP.intro (fn := Tryd.f12) Tryd.func12 rfl enters12 (Nat.le_of_ble_eq_true rfl) ?_
  refine AWp.sr [] fun K1 hk2 => ?_
  simp [hT]
  apply hk2
  refine AWp.scopeK fun Q3 nn4 nx5 nr6 => ?_
  refine AWp.seqK fun K7 hk8 => ?_
  refine AWp.sr [] fun K9 hk10 => ?_
  simp [hT]
  apply hk10
  refine AWp.condK fun A11 B12 ga13 gb14 => ?_
  rcases ite_some hm with ⟨hc15, hm16⟩ | ⟨hc15, hm17⟩
  · clear hm
    simp [hT, hc15]
    apply ga13
    refine AWp.sr [] fun K18 hk19 => ?_
    simp [hT, hc15]
    apply hk19
    refine AWp.ret ?_
    apply nr6
    simp only [Option.some.injEq, Prod.mk.injEq] at hm16
    obtain ⟨rfl, rfl⟩ := hm16
    simp [retQ, hT, hc15]
  clear hm
  simp [hT, hc15]
  apply gb14
  refine AWp.skip ?_
  apply hk8
  refine AWp.sr [] fun K20 hk21 => ?_
  simp [hT, hc15]
  apply hk21
  refine AWp.seqK fun K22 hk23 => ?_
  refine AWp.label ?_
  apply hk23
  refine AWp.seqK fun K24 hk25 => ?_
  refine AWp.sr [] fun K26 hk27 => ?_
  simp [hT, hc15]
  apply hk27
  obtain ⟨F28, hF29, hm30⟩ := joinB_some hm17
  clear hm17
  try dsimp only at hm30
  obtain ⟨out31, hl32, hmB33⟩ := bind1_some hm30
  clear hm30
  refine AWp.blockK fun Q34 nn35 ne36 nx37 nr38 => ?_
  refine AWp.loopF (fun n39 fr h => ∃ (v40 : (List Tkn)) (v41 : Int) (tg0_42 : Tag), H = h ∧ (fr.env 0 = AV.sc (.string a0) ∧ fr.env 4 = AV.slice tg0_42 (List.map Tkn.av v40) ∧ fr.env 5 = AV.sc (.int .i64 v41)) ∧ OwnT fr.tab fr.tgen [36, 46, 85] tg0_42 (List.length v40) ∧ loopN F28 n39 (v40, v41) = some out31) FU ?_ ?_
  · refine ⟨[], 0, .full, ?_, ⟨?_, ?_, ?_⟩, OwnT.full, hl32⟩ <;> first | rfl | simp [hT, hc15]
  rintro n39 fr42 h42 ⟨v40, v41, tg0_42, rfl, E42, o0_42, hl32⟩ K43 hK44
  rcases n39 with _ | n39
  · rw [loopN_zero] at hl32
    cases hl32
  rw [loopN_succ] at hl32
  obtain ⟨c45, hb46, hk47⟩ := bind1_some hl32
  clear hl32
  rw [hF29] at hb46
  try dsimp only at hb46
  rw [un2_mk] at hb46
  try dsimp only at hb46
  refine AWp.seqK fun K48 hk49 => ?_
  refine AWp.sr [] fun K50 hk51 => ?_
  simp [E42, hT, hc15]
  apply hk51
  refine AWp.condK fun A52 B53 ga54 gb55 => ?_
  rcases ite_some hb46 with ⟨hc56, hm57⟩ | ⟨hc56, hm58⟩
  rotate_left
  · clear hb46
    simp [E42, hT, hc15, hc56]
    apply gb55
    refine AWp.exit ?_
    apply ne36
    obtain rfl := Option.some.inj hm58
    rw [ctlK_brk] at hk47
    obtain rfl := Option.some.inj hk47
    rw [sumK_inl, un2_mk] at hmB33
    try dsimp only at hmB33
    apply hk25
    refine AWp.seqK fun K59 hk60 => ?_
    refine AWp.sr [] fun K61 hk62 => ?_
    simp [E42, hT, hc15, hc56]
    apply hk62
    refine AWp.condK fun A63 B64 ga65 gb66 => ?_
    rcases ite_some hmB33 with ⟨hc67, hm68⟩ | ⟨hc67, hm69⟩
    · clear hmB33
      simp [E42, hT, hc15, hc56, hc67]
      apply ga65
      refine AWp.sr [] fun K70 hk71 => ?_
      simp [E42, hT, hc15, hc56, hc67]
      apply hk71
      refine AWp.ret ?_
      apply nr6
      simp only [Option.some.injEq, Prod.mk.injEq] at hm68
      obtain ⟨rfl, rfl⟩ := hm68
      simp [retQ, E42, hT, hc15, hc56, hc67]
    clear hmB33
    simp [E42, hT, hc15, hc56, hc67]
    apply gb66
    refine AWp.skip ?_
    apply hk60
    refine AWp.sr [] fun K72 hk73 => ?_
    simp [E42, hT, hc15, hc56, hc67]
    apply hk73
    refine AWp.ret ?_
    apply nr6
    simp only [Option.some.injEq, Prod.mk.injEq] at hm69
    obtain ⟨rfl, rfl⟩ := hm69
    simp [retQ, E42, hT, hc15, hc56, hc67]
  clear hb46
  simp [E42, hT, hc15, hc56]
  apply ga54
  refine AWp.skip ?_
  apply hk49
  refine AWp.blockK fun Q74 nn75 ne76 nx77 nr78 => ?_
  refine AWp.seqK fun K79 hk80 => ?_
  refine AWp.sr [] fun K81 hk82 => ?_
  obtain ⟨x83, hx84, hm85⟩ := bind1_some hm57
  clear hm57
  try dsimp only at hm85
  simp [E42, hT, hx84, hc15, hc56]
  apply hk82
  refine AWp.blockK fun Q86 nn87 ne88 nx89 nr90 => ?_
  refine AWp.seqP (fun fr h => ∃ (tg0_94 : Tag), H = h ∧ (fr.env 0 = AV.sc (.string a0) ∧ fr.env 4 = AV.slice tg0_94 (List.map Tkn.av v40) ∧ fr.env 5 = AV.sc (.int .i64 v41) ∧ fr.env 6 = AV.sc (.int .u8 x83) ∧ fr.env 20 = AV.sc (.bool (sel (ieq x83 32) true (ieq x83 10)))) ∧ OwnT fr.tab fr.tgen [36, 46, 85] tg0_94 (List.length v40)) (fun K91 hk92 => ?_) ?_
  · refine AWp.region [] (by decide +kernel) ?_
    rcases Bool.eq_false_or_eq_true (ieq x83 32) with hc93 | hc93
    · simp [E42, hT, hx84, hc15, hc56, hc93]
      refine hk92 _ _ ⟨tg0_42, ?_, ⟨?_, ?_, ?_, ?_, ?_⟩, (OwnT.mono (D := [36, 46, 85]) o0_42 (by decide))⟩ <;> first | rfl | simp [E42, hT, hx84, hc15, hc56, hc93]
    simp [E42, hT, hx84, hc15, hc56, hc93]
    refine hk92 _ _ ⟨tg0_42, ?_, ⟨?_, ?_, ?_, ?_, ?_⟩, (OwnT.mono (D := [36, 46, 85]) o0_42 (by decide))⟩ <;> first | rfl | simp [E42, hT, hx84, hc15, hc56, hc93]
  rintro fr94 h94 ⟨tg0_94, rfl, E94, o0_94⟩
  refine AWp.condK fun A95 B96 ga97 gb98 => ?_
  rcases ite_some hm85 with ⟨hc99, hm100⟩ | ⟨hc99, hm101⟩
  · clear hm85
    simp [E94, hT, hx84, hc15, hc56, hc99]
    apply ga97
    refine AWp.sr [] fun K102 hk103 => ?_
    simp [E94, hT, hx84, hc15, hc56, hc99]
    apply hk103
    refine AWp.exit ?_
    refine nx89 _ _ _ (by decide) ?_
    apply ne76
    obtain rfl := Option.some.inj hm100
    rw [ctlK_next] at hk47
    refine hK44 _ _ n39 (Nat.lt_succ_self _) ⟨v40, (iadd .i64 v41 1), tg0_94, ?_, ⟨?_, ?_, ?_⟩, (OwnT.mono (D := [36, 46, 85]) o0_94 (by decide)), hk47⟩ <;> first | rfl | simp [E94, hT, hx84, hc15, hc56, hc99]
  clear hm85
  simp [E94, hT, hx84, hc15, hc56, hc99]
  apply gb98
  refine AWp.sr [] fun K104 hk105 => ?_
  simp [E94, hT, hx84, hc15, hc56, hc99]
  apply hk105
  refine AWp.condK fun A106 B107 ga108 gb109 => ?_
  rcases ite_some hm101 with ⟨hc110, hm111⟩ | ⟨hc110, hm112⟩
  · clear hm101
    simp [E94, hT, hx84, hc15, hc56, hc99, hc110]
    apply ga108
    refine AWp.sr [] fun K113 hk114 => ?_
    obtain ⟨ha115, hm116⟩ := chk_some hm111
    clear hm111
    simp [E94, hT, hx84, hc15, hc56, hc99, hc110]
    refine AppAt2.own (f := Tkn.av) v40 [(Tkn.mk 1 0 v41 ByteArray.empty)] o0_94 ap30 (by intro x; simp) ha115 (by first | rfl | simp) (by first | rfl | simp) ?_
    simp [E94, hT, hx84, hc15, hc56, hc99, hc110]
    apply hk114
    refine AWp.sr [] fun K117 hk118 => ?_
    simp [E94, hT, hx84, hc15, hc56, hc99, hc110]
    apply hk118
    refine AWp.exit ?_
    refine nx89 _ _ _ (by decide) ?_
    apply ne76
    obtain rfl := Option.some.inj hm116
    rw [ctlK_next] at hk47
    refine hK44 _ _ n39 (Nat.lt_succ_self _) ⟨(lapp v40 [(Tkn.mk 1 0 v41 ByteArray.empty)]), (iadd .i64 v41 1), (.loc 36 (fr94.tgen 36 + 1)), ?_, ⟨?_, ?_, ?_⟩, (OwnT.mono (D := [36]) (OwnT.new (D := [36]) (d := 36) (by decide)) (by decide)), hk47⟩ <;> first | rfl | simp [E94, hT, hx84, hc15, hc56, hc99, hc110]
  clear hm101
  simp [E94, hT, hx84, hc15, hc56, hc99, hc110]
  apply gb109
  refine AWp.sr [] fun K119 hk120 => ?_
  simp [E94, hT, hx84, hc15, hc56, hc99, hc110]
  apply hk120
  refine AWp.condK fun A121 B122 ga123 gb124 => ?_
  rcases ite_some hm112 with ⟨hc125, hm126⟩ | ⟨hc125, hm127⟩
  · clear hm112
    simp [E94, hT, hx84, hc15, hc56, hc99, hc110, hc125]
    apply ga123
    refine AWp.sr [] fun K128 hk129 => ?_
    obtain ⟨ha130, hm131⟩ := chk_some hm126
    clear hm126
    simp [E94, hT, hx84, hc15, hc56, hc99, hc110, hc125]
    refine AppAt2.own (f := Tkn.av) v40 [(Tkn.mk 2 0 v41 ByteArray.empty)] o0_94 ap30 (by intro x; simp) ha130 (by first | rfl | simp) (by first | rfl | simp) ?_
    simp [E94, hT, hx84, hc15, hc56, hc99, hc110, hc125]
    apply hk129
    refine AWp.sr [] fun K132 hk133 => ?_
    simp [E94, hT, hx84, hc15, hc56, hc99, hc110, hc125]
    apply hk133
    refine AWp.exit ?_
    refine nx89 _ _ _ (by decide) ?_
    apply ne76
    obtain rfl := Option.some.inj hm131
    rw [ctlK_next] at hk47
    refine hK44 _ _ n39 (Nat.lt_succ_self _) ⟨(lapp v40 [(Tkn.mk 2 0 v41 ByteArray.empty)]), (iadd .i64 v41 1), (.loc 46 (fr94.tgen 46 + 1)), ?_, ⟨?_, ?_, ?_⟩, (OwnT.mono (D := [46]) (OwnT.new (D := [46]) (d := 46) (by decide)) (by decide)), hk47⟩ <;> first | rfl | simp [E94, hT, hx84, hc15, hc56, hc99, hc110, hc125]
  clear hm112
  simp [E94, hT, hx84, hc15, hc56, hc99, hc110, hc125]
  apply gb124
  refine AWp.skip ?_
  apply nn87
  apply hk80
  refine AWp.sr [] fun K134 hk135 => ?_
  simp [E94, hT, hx84, hc15, hc56, hc99, hc110, hc125]
  apply hk135
  refine AWp.seqK fun K136 hk137 => ?_
  obtain ⟨F138, hF139, hm140⟩ := joinB_some hm127
  clear hm127
  try dsimp only at hm140
  obtain ⟨out141, hl142, hmB143⟩ := bind1_some hm140
  clear hm140
  refine AWp.blockK fun Q144 nn145 ne146 nx147 nr148 => ?_
  refine AWp.loopF (fun n149 fr h => ∃ (v150 : Int) (tg0_151 : Tag), H = h ∧ (fr.env 0 = AV.sc (.string a0) ∧ fr.env 4 = AV.slice tg0_151 (List.map Tkn.av v40) ∧ fr.env 5 = AV.sc (.int .i64 v41) ∧ fr.env 7 = AV.sc (.int .i64 v150)) ∧ OwnT fr.tab fr.tgen [36, 46, 85] tg0_151 (List.length v40) ∧ loopN F138 n149 v150 = some out141) FU ?_ ?_
  · refine ⟨v41, tg0_94, ?_, ⟨?_, ?_, ?_, ?_⟩, (OwnT.mono (D := [36, 46, 85]) o0_94 (by decide)), hl142⟩ <;> first | rfl | simp [E94, hT, hx84, hc15, hc56, hc99, hc110, hc125]
  rintro n149 fr151 h151 ⟨v150, tg0_151, rfl, E151, o0_151, hl142⟩ K152 hK153
  rcases n149 with _ | n149
  · rw [loopN_zero] at hl142
    cases hl142
  rw [loopN_succ] at hl142
  obtain ⟨c154, hb155, hk156⟩ := bind1_some hl142
  clear hl142
  rw [hF139] at hb155
  try dsimp only at hb155
  refine AWp.seqK fun K157 hk158 => ?_
  obtain ⟨j159, hj160, hm161⟩ := joinB_some hb155
  clear hb155
  refine AWp.seqP (fun fr h => ∃ (v162 : Bool) (tg0_180 : Tag), H = h ∧ (fr.env 0 = AV.sc (.string a0) ∧ fr.env 4 = AV.slice tg0_180 (List.map Tkn.av v40) ∧ fr.env 5 = AV.sc (.int .i64 v41) ∧ fr.env 7 = AV.sc (.int .i64 v150) ∧ fr.env 67 = AV.sc (.bool v162)) ∧ OwnT fr.tab fr.tgen [36, 46, 85] tg0_180 (List.length v40) ∧ j159 v162 = some c154) (fun K163 hk164 => ?_) ?_
  · refine AWp.region [] (by decide +kernel) ?_
    rcases ite_some hm161 with ⟨hc165, hm166⟩ | ⟨hc165, hm167⟩
    rotate_left
    · clear hm161
      simp [E151, hT, hx84, hc15, hc56, hc99, hc110, hc125, hc165]
      refine hk164 _ _ ⟨false, tg0_151, ?_, ⟨?_, ?_, ?_, ?_, ?_⟩, (OwnT.mono (D := [36, 46, 85]) o0_151 (by decide)), hm167⟩ <;> first | rfl | simp [E151, hT, hx84, hc15, hc56, hc99, hc110, hc125, hc165]
    clear hm161
    obtain ⟨x168, hx169, hm170⟩ := bind1_some hm166
    clear hm166
    try dsimp only at hm170
    obtain ⟨x171, hx172, hm173⟩ := bind1_some hm170
    clear hm170
    try dsimp only at hm173
    simp [E151, hT, hx84, hx169, hc15, hc56, hc99, hc110, hc125, hc165]
    refine CallAt.fn (r_lexis_letter T hx172) ?_
    rcases ite_some hm173 with ⟨hc174, hm175⟩ | ⟨hc174, hm176⟩
    · clear hm173
      simp [E151, hT, hx84, hx169, hc15, hc56, hc99, hc110, hc125, hc165, hc174]
      refine hk164 _ _ ⟨true, tg0_151, ?_, ⟨?_, ?_, ?_, ?_, ?_⟩, (OwnT.mono (D := [36, 46, 85]) o0_151 (by decide)), hm175⟩ <;> first | rfl | simp [E151, hT, hx84, hx169, hc15, hc56, hc99, hc110, hc125, hc165, hc174]
    clear hm173
    obtain ⟨x177, hx178, hm179⟩ := bind1_some hm176
    clear hm176
    try dsimp only at hm179
    simp [E151, hT, hx84, hx169, hc15, hc56, hc99, hc110, hc125, hc165, hc174]
    refine CallAt.fn (r_lexis_digit T hx178) ?_
    simp [E151, hT, hx84, hx169, hc15, hc56, hc99, hc110, hc125, hc165, hc174]
    refine hk164 _ _ ⟨x177, tg0_151, ?_, ⟨?_, ?_, ?_, ?_, ?_⟩, (OwnT.mono (D := [36, 46, 85]) o0_151 (by decide)), hm179⟩ <;> first | rfl | simp [E151, hT, hx84, hx169, hc15, hc56, hc99, hc110, hc125, hc165, hc174]
  clear hm161
  rintro fr180 h180 ⟨v162, tg0_180, rfl, E180, o0_180, hm181⟩
  subst hj160
  refine AWp.condK fun A182 B183 ga184 gb185 => ?_
  rcases ite_some hm181 with ⟨hc186, hm187⟩ | ⟨hc186, hm188⟩
  · clear hm181
    simp [E180, hT, hx84, hc15, hc56, hc99, hc110, hc125, hc186]
    apply ga184
    refine AWp.skip ?_
    apply hk158
    refine AWp.blockK fun Q189 nn190 ne191 nx192 nr193 => ?_
    refine AWp.region [] (by decide +kernel) ?_
    simp [E180, hT, hx84, hc15, hc56, hc99, hc110, hc125, hc186]
    apply nn190
    obtain rfl := Option.some.inj hm187
    rw [ctlK_next] at hk156
    refine hK153 _ _ n149 (Nat.lt_succ_self _) ⟨(iadd .i64 v150 1), tg0_180, ?_, ⟨?_, ?_, ?_, ?_⟩, (OwnT.mono (D := [36, 46, 85]) o0_180 (by decide)), hk156⟩ <;> first | rfl | simp [E180, hT, hx84, hc15, hc56, hc99, hc110, hc125, hc186]
  clear hm181
  simp [E180, hT, hx84, hc15, hc56, hc99, hc110, hc125, hc186]
  apply gb185
  refine AWp.exit ?_
  apply ne146
  obtain rfl := Option.some.inj hm188
  rw [ctlK_brk] at hk156
  obtain rfl := Option.some.inj hk156
  rw [sumK_inl] at hmB143
  try dsimp only at hmB143
  apply hk137
  refine AWp.sr [] fun K194 hk195 => ?_
  obtain ⟨x196, hx197, hm198⟩ := bind1_some hmB143
  clear hmB143
  try dsimp only at hm198
  obtain ⟨x199, x200, hx201, hm202⟩ := bind2_some hm198
  clear hm198
  try dsimp only at hm202
  simp [E180, hT, hx84, hx197, hc15, hc56, hc99, hc110, hc125, hc186]
  refine CallAt.fn (r_lexis_word T hT hx201) ?_
  simp [E180, hT, hx84, hx197, hc15, hc56, hc99, hc110, hc125, hc186]
  apply hk195
  refine AWp.seqK fun K203 hk204 => ?_
  refine AWp.sr [] fun K205 hk206 => ?_
  simp [E180, hT, hx84, hx197, hc15, hc56, hc99, hc110, hc125, hc186]
  apply hk206
  refine AWp.condK fun A207 B208 ga209 gb210 => ?_
  rcases ite_some hm202 with ⟨hc211, hm212⟩ | ⟨hc211, hm213⟩
  rotate_left
  · clear hm202
    simp [E180, hT, hx84, hx197, hc15, hc56, hc99, hc110, hc125, hc186, hc211]
    apply ga209
    refine AWp.sr [] fun K214 hk215 => ?_
    simp [E180, hT, hx84, hx197, hc15, hc56, hc99, hc110, hc125, hc186, hc211]
    apply hk215
    refine AWp.ret ?_
    apply nr78
    apply nr38
    apply nr6
    obtain rfl := Option.some.inj hm213
    rw [ctlK_ret] at hk47
    obtain rfl := Option.some.inj hk47
    rw [sumK_inr] at hmB33
    try dsimp only at hmB33
    simp only [Option.some.injEq, Prod.mk.injEq] at hmB33
    obtain ⟨rfl, rfl⟩ := hmB33
    simp [retQ, E180, hT, hx84, hx197, hc15, hc56, hc99, hc110, hc125, hc186, hc211]
  clear hm202
  simp [E180, hT, hx84, hx197, hc15, hc56, hc99, hc110, hc125, hc186, hc211]
  apply gb210
  refine AWp.skip ?_
  apply hk204
  refine AWp.sr [] fun K216 hk217 => ?_
  simp [E180, hT, hx84, hx197, hc15, hc56, hc99, hc110, hc125, hc186, hc211]
  apply hk217
  refine AWp.sr [] fun K218 hk219 => ?_
  obtain ⟨ha220, hm221⟩ := chk_some hm212
  clear hm212
  simp [E180, hT, hx84, hx197, hc15, hc56, hc99, hc110, hc125, hc186, hc211]
  refine AppAt2.own (f := Tkn.av) v40 [(Tkn.mk x199.kind x199.num v41 x199.text)] o0_180 ap30 (by intro x; simp) ha220 (by first | rfl | simp) (by first | rfl | simp) ?_
  simp [E180, hT, hx84, hx197, hc15, hc56, hc99, hc110, hc125, hc186, hc211]
  apply hk219
  refine AWp.region [] (by decide +kernel) ?_
  simp [E180, hT, hx84, hx197, hc15, hc56, hc99, hc110, hc125, hc186, hc211]
  apply nn75
  obtain rfl := Option.some.inj hm221
  rw [ctlK_next] at hk47
  refine hK44 _ _ n39 (Nat.lt_succ_self _) ⟨(lapp v40 [(Tkn.mk x199.kind x199.num v41 x199.text)]), v150, (.loc 85 (fr180.tgen 85 + 1)), ?_, ⟨?_, ?_, ?_⟩, (OwnT.mono (D := [85]) (OwnT.new (D := [85]) (d := 85) (by decide)) (by decide)), hk47⟩ <;> first | rfl | simp [E180, hT, hx84, hx197, hc15, hc56, hc99, hc110, hc125, hc186, hc211]

theorem enters8 : entersB Tryd.prog 8 = true := by kernel_rfl

theorem r_law14_sane (T : Tabs) (hT : LexT T) {H : Heap}  {r0 : Bool} (hm : law14_sane = some r0) : ACall Tryd.prog T 8 [] H (AV.sc (.bool r0)) H := by
  rw [law14_sane] at hm
  refine ACallP.intro (fn := Tryd.f8) Tryd.func8 rfl enters8 (Nat.le_of_ble_eq_true rfl) ?_
  refine AWp.sr [] fun K1 hk2 => ?_
  simp [hT]
  apply hk2
  refine AWp.sr [] fun K3 hk4 => ?_
  obtain ⟨x5, x6, hx7, hm8⟩ := bind2_some hm
  clear hm
  try dsimp only at hm8
  simp [hT]
  refine CallAt.fn (r_lexis_Tokens T hT hx7) ?_
  simp [hT]
  apply hk4
  obtain ⟨j9, hj10, hm11⟩ := joinB_some hm8
  clear hm8
  refine AWp.seqP (fun fr h => ∃ (v12 : Bool), H = h ∧ fr.env 0 = AV.sc (.bool v12) ∧ j9 v12 = some r0) (fun K13 hk14 => ?_) ?_
  rotate_left
  · clear hm11
    rintro fr15 h15 ⟨v12, rfl, E15, hm16⟩
    subst hj10
    refine AWp.ret ?_
    obtain rfl := Option.some.inj hm16
    simp [retQ, E15, hT]
  refine AWp.region [] (by decide +kernel) ?_
  rcases ite_some hm11 with ⟨hc17, hm18⟩ | ⟨hc17, hm19⟩
  rotate_left
  · clear hm11
    simp [hT, hc17]
    refine hk14 _ _ ⟨false, ?_, ?_, hm19⟩ <;> first | rfl | simp [hT, hc17]
  clear hm11
  rcases ite_some hm18 with ⟨hc20, hm21⟩ | ⟨hc20, hm22⟩
  rotate_left
  · clear hm18
    simp [hT, hc17, hc20]
    refine hk14 _ _ ⟨false, ?_, ?_, hm22⟩ <;> first | rfl | simp [hT, hc17, hc20]
  clear hm18
  obtain ⟨x23, hx24, hm25⟩ := bind1_some hm21
  clear hm21
  try dsimp only at hm25
  rcases ite_some hm25 with ⟨hc26, hm27⟩ | ⟨hc26, hm28⟩
  rotate_left
  · clear hm25
    simp [hT, hx24, hc17, hc20, hc26]
    refine hk14 _ _ ⟨false, ?_, ?_, hm28⟩ <;> first | rfl | simp [hT, hx24, hc17, hc20, hc26]
  clear hm25
  obtain ⟨x29, hx30, hm31⟩ := bind1_some hm27
  clear hm27
  try dsimp only at hm31
  rcases ite_some hm31 with ⟨hc32, hm33⟩ | ⟨hc32, hm34⟩
  rotate_left
  · clear hm31
    simp [hT, hx24, hx30, hc17, hc20, hc26, hc32]
    refine hk14 _ _ ⟨false, ?_, ?_, hm34⟩ <;> first | rfl | simp [hT, hx24, hx30, hc17, hc20, hc26, hc32]
  clear hm31
  simp [hT, hx24, hx30, hc17, hc20, hc26, hc32]
  refine hk14 _ _ ⟨(ieq x29.atF 6), ?_, ?_, hm33⟩ <;> first | rfl | simp [hT, hx24, hx30, hc17, hc20, hc26, hc32]

theorem enters9 : entersB Tryd.prog 9 = true := by kernel_rfl

theorem r_mk_Few (T : Tabs) {H : Heap} {a0 : (List Int)} {r0 : Bool} (hm : mk_Few a0 = some r0) : ACall Tryd.prog T 9 [AV.slice .frz (List.map (fun n => AV.sc (Value.int .i64 n)) a0)] H (AV.sc (.bool r0)) H := by
  rw [mk_Few] at hm
  refine ACallP.intro (fn := Tryd.f9) Tryd.func9 rfl enters9 (Nat.le_of_ble_eq_true rfl) ?_
  refine AWp.sr [] fun K1 hk2 => ?_
  simp
  apply hk2
  refine AWp.sr [] fun K3 hk4 => ?_
  simp
  apply hk4
  refine AWp.ret ?_
  obtain rfl := Option.some.inj hm
  simp [retQ]

theorem enters10 : entersB Tryd.prog 10 = true := by kernel_rfl
theorem r_mk_New (T : Tabs) {a0 : List Int} {r0 : Smk_Deck} (hm : mk_New a0 = some r0) : ACall Tryd.prog T 10 [AV.slice .frz (List.map (fun n => AV.sc (Value.int .i64 n)) a0)] [] (AV.gptr 0 0) (hset [[]] 0 [AV.slice .frz (List.map (fun n => AV.sc (Value.int .i64 n)) r0.l), AV.sc (.int .i64 r0.atF)]) := by
  obtain rfl := Option.some.inj hm
  refine ACallP.intro (fn := Tryd.f10) Tryd.func10 rfl enters10 (Nat.le_of_ble_eq_true rfl) ?_
  refine AWp.seqK fun K1 hk1 => ?_
  refine AWp.region [] (by decide +kernel) ?_
  simp
  refine hk1 _ _ ?_
  refine AWp.seqK fun K1 hk1 => ?_
  refine AWp.region [5] (by decide +kernel) ?_
  simp
  refine hk1 _ _ ?_
  refine AWp.ret ?_
  simp [retQ, hset]

end Go.Proofs.YtooibjkhgdpnaaaDoor
