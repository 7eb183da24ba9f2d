/- The program's functions do what the models say. -/
import Derived.Test.YtdihelfnjememaaDoorCR02
import Derived.Test.YtdihelfnjememaaDoorCM
set_option maxRecDepth 20000
set_option maxHeartbeats 4000000
set_option linter.unusedSimpArgs false
set_option linter.unusedVariables false
namespace Go.Proofs.YtdihelfnjememaaDoor
open Go Go.Abs Go.Mdl

theorem enters18 : entersB Tryd.prog 18 = true := by kernel_rfl

theorem rg_ref01_Same (T : Tabs) : ∀ (n : Nat), (∀ {H : Heap} {a0 : Ty} {a1 : Ty} {r0 : Bool} (hm : ref01_Same n a0 a1 = some r0), ACall Tryd.prog T 18 [Ty.av a0, Ty.av a1] H (AV.sc (.bool r0)) H) := by
  intro n
  induction n with
  | zero =>
    skip
    all_goals
      intros
      rename_i hm
      cases hm
  | succ n ih =>
    intro H a0 a1 r0 hm
    rw [ref01_Same] at hm
    refine ACallP.intro (fn := Tryd.f18) Tryd.func18 rfl enters18 (Nat.le_of_ble_eq_true rfl) ?_
    refine AWp.sr [] fun K1 hk2 => ?_
    simp
    apply hk2
    refine AWp.seqK fun K3 hk4 => ?_
    refine AWp.seqP (fun fr h => ∃ (g2_8 : Nat) (g3_8 : Nat), H = h ∧ (fr.env 2 = AV.lptr 2 g2_8 0 ∧ fr.env 3 = AV.lptr 3 g3_8 0 ∧ fr.env 19 = AV.sc (.bool (sel (ine a0.kind a1.kind) true (ine (llen a0.args) (llen a1.args)))) ∧ fr.gen 2 = g2_8 ∧ fr.box 2 = some [AV.sc (.int .i64 a0.kind), AV.slice .frz (List.map Ty.av a0.args)] ∧ fr.gen 3 = g3_8 ∧ fr.box 3 = some [AV.sc (.int .i64 a1.kind), AV.slice .frz (List.map Ty.av a1.args)])) (fun K5 hk6 => ?_) ?_
    · refine AWp.region [] (by decide +kernel) ?_
      rcases Bool.eq_false_or_eq_true (ine a0.kind a1.kind) with hc7 | hc7
      · simp [hc7]
        refine hk6 _ _ ⟨1, 1, ?_, ⟨?_, ?_, ?_, ?_, ?_, ?_, ?_⟩⟩ <;> first | rfl | simp [hc7]
      simp [hc7]
      refine hk6 _ _ ⟨1, 1, ?_, ⟨?_, ?_, ?_, ?_, ?_, ?_, ?_⟩⟩ <;> first | rfl | simp [hc7]
    rintro fr8 h8 ⟨g2_8, g3_8, rfl, E8⟩
    refine AWp.condK fun A9 B10 ga11 gb12 => ?_
    rcases ite_some hm with ⟨hc13, hm14⟩ | ⟨hc13, hm15⟩
    · clear hm
      simp [E8, hc13]
      apply ga11
      refine AWp.sr [] fun K16 hk17 => ?_
      simp [E8, hc13]
      apply hk17
      refine AWp.ret ?_
      obtain rfl := Option.some.inj hm14
      simp [retQ, E8, hc13]
    clear hm
    simp [E8, hc13]
    apply gb12
    refine AWp.skip ?_
    apply hk4
    refine AWp.seqK fun K18 hk19 => ?_
    refine AWp.sr [] fun K20 hk21 => ?_
    simp [E8, hc13]
    apply hk21
    obtain ⟨hok22, hm23⟩ := chk_some hm15
    clear hm15
    obtain ⟨F24, hF25, hm26⟩ := joinB_some hm23
    clear hm23
    try dsimp only at hm26
    obtain ⟨out27, hl28, hmB29⟩ := bind1_some hm26
    clear hm26
    refine AWp.blockK fun Q30 nn31 ne32 nx33 nr34 => ?_
    refine AWp.loopF (fun n35 fr h => ∃ (i36 : Nat) (j37 : Int) (g2_38 : Nat) (g3_38 : Nat), H = h ∧ (fr.env 2 = AV.lptr 2 g2_38 0 ∧ fr.env 3 = AV.lptr 3 g3_38 0 ∧ fr.env 22 = AV.sc (.int .i64 (llen a0.args)) ∧ fr.env 23 = AV.sc (.int .i64 j37) ∧ fr.gen 2 = g2_38 ∧ fr.box 2 = some [AV.sc (.int .i64 a0.kind), AV.slice .frz (List.map Ty.av a0.args)] ∧ fr.gen 3 = g3_38 ∧ fr.box 3 = some [AV.sc (.int .i64 a1.kind), AV.slice .frz (List.map Ty.av a1.args)]) ∧ j37 = (i36 : Int) ∧ i36 + n35 = List.length a0.args ∧ forR F24 (List.drop i36 a0.args) i36 () = some out27) (List.length a0.args) ?_ ?_
    · refine ⟨0, 0, g2_8, g3_8, ?_, ⟨?_, ?_, ?_, ?_, ?_, ?_, ?_, ?_⟩, rfl, (by simp), hl28⟩ <;> first | rfl | simp [E8, hc13]
    rintro n35 fr38 h38 ⟨i36, j37, g2_38, g3_38, rfl, E38, hj39, hi40, hl28⟩ K41 hK42
    rcases n35 with _ | n35
    · have hlt43 := ilt_notJ (l := a0.args) hj39 (by omega)
      refine AWp.sr [] fun K44 hk45 => ?_
      simp [E38, hlt43, hc13]
      apply hk45
      refine AWp.seqK fun K46 hk47 => ?_
      refine AWp.condK fun A48 B49 ga50 gb51 => ?_
      simp [E38, hlt43, hc13]
      apply gb51
      refine AWp.exit ?_
      apply ne32
      rw [List.drop_eq_nil_of_le (by omega), forR_nil] at hl28
      obtain rfl := Option.some.inj hl28
      rw [sumK_inl] at hmB29
      try dsimp only at hmB29
      apply hk19
      refine AWp.sr [] fun K52 hk53 => ?_
      simp [E38, hlt43, hc13]
      apply hk53
      refine AWp.ret ?_
      obtain rfl := Option.some.inj hmB29
      simp [retQ, E38, hlt43, hc13]
    have hlt43 := ilt_ofJ (l := a0.args) hj39 (by omega)
    obtain ⟨x54, hdn35, hg55⟩ := drop_ltJ (l := a0.args) hj39 (by omega)
    rw [hdn35, forR_cons] at hl28
    obtain ⟨c56, hb57, hk58⟩ := bind1_some hl28
    clear hl28
    rw [hF25, ← hj39] at hb57
    try dsimp only at hb57
    refine AWp.sr [] fun K59 hk60 => ?_
    simp [E38, hlt43, hg55, hc13]
    apply hk60
    refine AWp.seqK fun K61 hk62 => ?_
    refine AWp.condK fun A63 B64 ga65 gb66 => ?_
    simp [E38, hlt43, hg55, hc13]
    apply ga65
    refine AWp.skip ?_
    apply hk62
    refine AWp.seqK fun K67 hk68 => ?_
    refine AWp.blockK fun Q69 nn70 ne71 nx72 nr73 => ?_
    refine AWp.sr [] fun K74 hk75 => ?_
    simp [E38, hlt43, hg55, hc13]
    apply hk75
    refine AWp.seqK fun K76 hk77 => ?_
    refine AWp.regionD [] false mixed (by decide +kernel) (by decide +kernel) ?_
    obtain ⟨x78, hx79, hm80⟩ := bind1_some hb57
    clear hb57
    try dsimp only at hm80
    obtain ⟨x81, hx82, hm83⟩ := bind1_some hm80
    clear hm80
    try dsimp only at hm83
    simp [E38, hlt43, hg55, hx79, hc13]
    refine CallAtD.fn (ih hx82) (by simp) ?_
    simp [E38, hlt43, hg55, hx79, hc13]
    apply hk77
    refine AWp.condK fun A84 B85 ga86 gb87 => ?_
    rcases ite_some hm83 with ⟨hc88, hm89⟩ | ⟨hc88, hm90⟩
    rotate_left
    · clear hm83
      simp [E38, hlt43, hg55, hx79, hc13, hc88]
      apply ga86
      refine AWp.sr [] fun K91 hk92 => ?_
      simp [E38, hlt43, hg55, hx79, hc13, hc88]
      apply hk92
      refine AWp.ret ?_
      apply nr73
      apply nr34
      obtain rfl := Option.some.inj hm90
      rw [ctlK_ret] at hk58
      obtain rfl := Option.some.inj hk58
      rw [sumK_inr] at hmB29
      try dsimp only at hmB29
      obtain rfl := Option.some.inj hmB29
      simp [retQ, E38, hlt43, hg55, hx79, hc13, hc88]
    clear hm83
    simp [E38, hlt43, hg55, hx79, hc13, hc88]
    apply gb87
    refine AWp.skip ?_
    apply nn70
    apply hk68
    refine AWp.region [] (by decide +kernel) ?_
    simp [E38, hlt43, hg55, hx79, hc13, hc88]
    obtain rfl := Option.some.inj hm89
    rw [ctlK_next] at hk58
    refine hK42 _ _ n35 (Nat.lt_succ_self _) ⟨(i36 + 1), (iadd .i64 j37 1), g2_38, g3_38, ?_, ⟨?_, ?_, ?_, ?_, ?_, ?_, ?_, ?_⟩, (iadd_idxJ hj39 (by omega) hok22), (by omega), hk58⟩ <;> first | rfl | simp [E38, hlt43, hg55, hx79, hc13, hc88]
theorem r_ref01_Same (T : Tabs) {H : Heap} {a0 : Ty} {a1 : Ty} {r0 : Bool} {n : Nat} (hm : ref01_Same n a0 a1 = some r0) : ACall Tryd.prog T 18 [Ty.av a0, Ty.av a1] H (AV.sc (.bool r0)) H := (rg_ref01_Same T n) hm

theorem enters7 : entersB Tryd.prog 7 = true := by kernel_rfl

theorem r_law23_awake (T : Tabs) (hT : T 0 = some (AV.agg (List.map (fun n => AV.sc (Value.int .i64 n)) tree_arities))) {H : Heap}  {r0 : Bool} (hm : law23_awake = some r0) : ACall Tryd.prog T 7 [] H (AV.sc (.bool r0)) H := by
  rw [law23_awake] at hm
  refine ACallP.intro (fn := Tryd.f7) Tryd.func7 rfl enters7 (Nat.le_of_ble_eq_true rfl) ?_
  refine AWp.sr [] fun K1 hk2 => ?_
  simp [hT]
  apply hk2
  refine AWp.sr [] fun K3 hk4 => ?_
  simp [hT]
  apply hk4
  refine AWp.seqK fun K5 hk6 => ?_
  refine AWp.regionD [] false mixed (by decide +kernel) (by decide +kernel) ?_
  obtain ⟨x7, hx8, hm9⟩ := bind1_some hm
  clear hm
  try dsimp only at hm9
  simp [hT]
  refine CallAtD.fn (r_ref07_False T hx8) (by simp) ?_
  have hf10 : AV.agg [AV.sc (.int .i64 5), AV.sc (.int .i64 1), AV.slice .frz [], AV.slice .frz [], AV.slice .frz [Fm.av x7]] = Fm.av (Fm.mk 5 (Ty.mk 1 []) [] [x7]) := by rw [Fm.av_mk]; rfl
  simp [hT, hf10]
  apply hk6
  refine AWp.sr [] fun K11 hk12 => ?_
  have hf13 : AV.agg [AV.sc (.int .i64 4), AV.sc (.int .i64 1), AV.slice .frz [], AV.slice .frz [], AV.slice .frz [Fm.av (Fm.mk 5 (Ty.mk 1 []) [] [x7])]] = Fm.av (Fm.mk 4 (Ty.mk 1 []) [] [(Fm.mk 5 (Ty.mk 1 []) [] [x7])]) := by rw [Fm.av_mk]; rfl
  have hf14 : AV.agg [AV.sc (.int .i64 4), AV.sc (.int .i64 1), AV.slice .frz [], AV.slice .frz [], AV.slice .frz [Fm.av (Fm.mk 5 (Ty.mk 1 []) [] [x7])]] = Fm.av (Fm.mk 4 (Ty.mk 1 []) [] [(Fm.mk 5 (Ty.mk 1 []) [] [x7])]) := by rw [Fm.av_mk]; rfl
  obtain ⟨x15, x16, hx17, hm18⟩ := bind2_some hm9
  clear hm9
  try dsimp only at hm18
  simp [hT, hf10, hf13, hf14]
  refine CallAt.fn (r_content_Type T hT hx17) ?_
  simp [hT, hf10, hf13, hf14]
  apply hk12
  refine AWp.seqK fun K19 hk20 => ?_
  refine AWp.regionD [] false mixed (by decide +kernel) (by decide +kernel) ?_
  obtain ⟨x21, hx22, hm23⟩ := bind1_some hm18
  clear hm18
  try dsimp only at hm23
  simp [hT, hf10, hf13, hf14]
  refine CallAtD.fn (r_ref07_False T hx22) (by simp) ?_
  have hf24 : AV.agg [AV.sc (.int .i64 4), AV.sc (.int .i64 1), AV.slice .frz [], AV.slice .frz [], AV.slice .frz [Fm.av (Fm.mk 5 (Ty.mk 1 []) [] [x7])]] = Fm.av (Fm.mk 4 (Ty.mk 1 []) [] [(Fm.mk 5 (Ty.mk 1 []) [] [x7])]) := by rw [Fm.av_mk]; rfl
  have hf25 : AV.agg [AV.sc (.int .i64 4), AV.sc (.int .i64 1), AV.slice .frz [], AV.slice .frz [], AV.slice .frz [Fm.av (Fm.mk 5 (Ty.mk 1 []) [] [x7])]] = Fm.av (Fm.mk 4 (Ty.mk 1 []) [] [(Fm.mk 5 (Ty.mk 1 []) [] [x7])]) := by rw [Fm.av_mk]; rfl
  have hf26 : AV.agg [AV.slice .frz [Ty.av (Ty.mk 1 [])], AV.slice .frz [Fm.av x21, Fm.av (Fm.mk 4 (Ty.mk 1 []) [] [(Fm.mk 5 (Ty.mk 1 []) [] [x7])])]] = Sq.av (Sq.mk [(Ty.mk 1 [])] [x21, (Fm.mk 4 (Ty.mk 1 []) [] [(Fm.mk 5 (Ty.mk 1 []) [] [x7])])]) := by rw [Sq.av_mk]; rfl
  obtain ⟨x27, x28, hx29, hm30⟩ := bind2_some hm23
  clear hm23
  try dsimp only at hm30
  simp [hT, hf10, hf13, hf14, hf24, hf25, hf26]
  refine CallAtD.fn (r_content_Context T hT hx29) (by simp) ?_
  simp [hT, hf10, hf13, hf14, hf24, hf25, hf26]
  apply hk20
  refine AWp.seqK fun K31 hk32 => ?_
  refine AWp.regionD [] false mixed (by decide +kernel) (by decide +kernel) ?_
  obtain ⟨x33, hx34, hm35⟩ := bind1_some hm30
  clear hm30
  try dsimp only at hm35
  simp [hT, hf10, hf13, hf14, hf24, hf25, hf26]
  refine CallAtD.fn (r_ref07_False T hx34) (by simp) ?_
  have hf36 : AV.agg [AV.sc (.int .i64 4), AV.sc (.int .i64 1), AV.slice .frz [], AV.slice .frz [], AV.slice .frz [Fm.av (Fm.mk 5 (Ty.mk 1 []) [] [x7])]] = Fm.av (Fm.mk 4 (Ty.mk 1 []) [] [(Fm.mk 5 (Ty.mk 1 []) [] [x7])]) := by rw [Fm.av_mk]; rfl
  have hf37 : AV.agg [AV.sc (.int .i64 4), AV.sc (.int .i64 1), AV.slice .frz [], AV.slice .frz [], AV.slice .frz [Fm.av (Fm.mk 5 (Ty.mk 1 []) [] [x7])]] = Fm.av (Fm.mk 4 (Ty.mk 1 []) [] [(Fm.mk 5 (Ty.mk 1 []) [] [x7])]) := by rw [Fm.av_mk]; rfl
  have hf38 : AV.agg [AV.slice .frz [Ty.av (Ty.mk 1 [])], AV.slice .frz [Fm.av x33, Fm.av (Fm.mk 4 (Ty.mk 1 []) [] [(Fm.mk 5 (Ty.mk 1 []) [] [x7])])]] = Sq.av (Sq.mk [(Ty.mk 1 [])] [x33, (Fm.mk 4 (Ty.mk 1 []) [] [(Fm.mk 5 (Ty.mk 1 []) [] [x7])])]) := by rw [Sq.av_mk]; rfl
  obtain ⟨x39, x40, hx41, hm42⟩ := bind2_some hm35
  clear hm35
  try dsimp only at hm42
  simp [hT, hf10, hf13, hf14, hf24, hf25, hf26, hf36, hf37, hf38]
  refine CallAtD.fn (r_content_Places T hT hx41) (by simp) ?_
  simp [hT, hf10, hf13, hf14, hf24, hf25, hf26, hf36, hf37, hf38]
  apply hk32
  obtain ⟨j43, hj44, hm45⟩ := joinB_some hm42
  clear hm42
  refine AWp.seqP (fun fr h => ∃ (v46 : Bool), H = h ∧ fr.env 0 = AV.sc (.bool v46) ∧ j43 v46 = some r0) (fun K47 hk48 => ?_) ?_
  rotate_left
  · clear hm45
    rintro fr49 h49 ⟨v46, rfl, E49, hm50⟩
    subst hj44
    refine AWp.ret ?_
    obtain rfl := Option.some.inj hm50
    simp [retQ, E49, hT, hf10, hf13, hf14, hf24, hf25, hf26, hf36, hf37, hf38]
  refine AWp.regionD [] false mixed (by decide +kernel) (by decide +kernel) ?_
  rcases ite_some hm45 with ⟨hc51, hm52⟩ | ⟨hc51, hm53⟩
  rotate_left
  · clear hm45
    simp [hT, hf10, hf13, hf14, hf24, hf25, hf26, hf36, hf37, hf38, hc51]
    refine hk48 _ _ ⟨false, ?_, ?_, hm53⟩ <;> first | rfl | simp [hT, hf10, hf13, hf14, hf24, hf25, hf26, hf36, hf37, hf38, hc51]
  clear hm45
  rcases ite_some hm52 with ⟨hc54, hm55⟩ | ⟨hc54, hm56⟩
  rotate_left
  · clear hm52
    simp [hT, hf10, hf13, hf14, hf24, hf25, hf26, hf36, hf37, hf38, hc51, hc54]
    refine hk48 _ _ ⟨false, ?_, ?_, hm56⟩ <;> first | rfl | simp [hT, hf10, hf13, hf14, hf24, hf25, hf26, hf36, hf37, hf38, hc51, hc54]
  clear hm52
  rcases ite_some hm55 with ⟨hc57, hm58⟩ | ⟨hc57, hm59⟩
  rotate_left
  · clear hm55
    simp [hT, hf10, hf13, hf14, hf24, hf25, hf26, hf36, hf37, hf38, hc51, hc54, hc57]
    refine hk48 _ _ ⟨false, ?_, ?_, hm59⟩ <;> first | rfl | simp [hT, hf10, hf13, hf14, hf24, hf25, hf26, hf36, hf37, hf38, hc51, hc54, hc57]
  clear hm55
  obtain ⟨x60, hx61, hm62⟩ := bind1_some hm58
  clear hm58
  try dsimp only at hm62
  simp [hT, hf10, hf13, hf14, hf24, hf25, hf26, hf36, hf37, hf38, hc51, hc54, hc57]
  refine CallAtD.fn (r_ref23_Fun T hx61) (by simp) ?_
  obtain ⟨x63, hx64, hm65⟩ := bind1_some hm62
  clear hm62
  try dsimp only at hm65
  simp [hT, hf10, hf13, hf14, hf24, hf25, hf26, hf36, hf37, hf38, hc51, hc54, hc57]
  refine CallAtD.fn (r_ref01_Same T hx64) (by simp) ?_
  rcases ite_some hm65 with ⟨hc66, hm67⟩ | ⟨hc66, hm68⟩
  rotate_left
  · clear hm65
    simp [hT, hf10, hf13, hf14, hf24, hf25, hf26, hf36, hf37, hf38, hc51, hc54, hc57, hc66]
    refine hk48 _ _ ⟨false, ?_, ?_, hm68⟩ <;> first | rfl | simp [hT, hf10, hf13, hf14, hf24, hf25, hf26, hf36, hf37, hf38, hc51, hc54, hc57, hc66]
  clear hm65
  rcases ite_some hm67 with ⟨hc69, hm70⟩ | ⟨hc69, hm71⟩
  rotate_left
  · clear hm67
    simp [hT, hf10, hf13, hf14, hf24, hf25, hf26, hf36, hf37, hf38, hc51, hc54, hc57, hc66, hc69]
    refine hk48 _ _ ⟨false, ?_, ?_, hm71⟩ <;> first | rfl | simp [hT, hf10, hf13, hf14, hf24, hf25, hf26, hf36, hf37, hf38, hc51, hc54, hc57, hc66, hc69]
  clear hm67
  rcases ite_some hm70 with ⟨hc72, hm73⟩ | ⟨hc72, hm74⟩
  rotate_left
  · clear hm70
    simp [hT, hf10, hf13, hf14, hf24, hf25, hf26, hf36, hf37, hf38, hc51, hc54, hc57, hc66, hc69, hc72]
    refine hk48 _ _ ⟨false, ?_, ?_, hm74⟩ <;> first | rfl | simp [hT, hf10, hf13, hf14, hf24, hf25, hf26, hf36, hf37, hf38, hc51, hc54, hc57, hc66, hc69, hc72]
  clear hm70
  obtain ⟨x75, hx76, hm77⟩ := bind1_some hm73
  clear hm73
  try dsimp only at hm77
  rcases ite_some hm77 with ⟨hc78, hm79⟩ | ⟨hc78, hm80⟩
  rotate_left
  · clear hm77
    simp [hT, hf10, hf13, hf14, hf24, hf25, hf26, hf36, hf37, hf38, hx76, hc51, hc54, hc57, hc66, hc69, hc72, hc78]
    refine hk48 _ _ ⟨false, ?_, ?_, hm80⟩ <;> first | rfl | simp [hT, hf10, hf13, hf14, hf24, hf25, hf26, hf36, hf37, hf38, hx76, hc51, hc54, hc57, hc66, hc69, hc72, hc78]
  clear hm77
  obtain ⟨x81, hx82, hm83⟩ := bind1_some hm79
  clear hm79
  try dsimp only at hm83
  simp [hT, hf10, hf13, hf14, hf24, hf25, hf26, hf36, hf37, hf38, hx76, hx82, hc51, hc54, hc57, hc66, hc69, hc72, hc78]
  refine hk48 _ _ ⟨(ieq x81 1), ?_, ?_, hm83⟩ <;> first | rfl | simp [hT, hf10, hf13, hf14, hf24, hf25, hf26, hf36, hf37, hf38, hx76, hx82, hc51, hc54, hc57, hc66, hc69, hc72, hc78]

theorem enters8 : entersB Tryd.prog 8 = true := by kernel_rfl

theorem r_mk_Few (T : Tabs) {H : Heap} {a0 : (List Int)} {r0 : Bool} (hm : mk_Few a0 = some r0) : ACall Tryd.prog T 8 [AV.slice .frz (List.map (fun n => AV.sc (Value.int .i64 n)) a0)] H (AV.sc (.bool r0)) H := by
  rw [mk_Few] at hm
  refine ACallP.intro (fn := Tryd.f8) Tryd.func8 rfl enters8 (Nat.le_of_ble_eq_true rfl) ?_
  refine AWp.sr [] fun K1 hk2 => ?_
  simp
  apply hk2
  refine AWp.sr [] fun K3 hk4 => ?_
  simp
  apply hk4
  refine AWp.ret ?_
  obtain rfl := Option.some.inj hm
  simp [retQ]

theorem enters9 : entersB Tryd.prog 9 = true := by kernel_rfl

theorem r_play_Count (T : Tabs) {H : Heap}  {r0 : Splay_Sum} (hm : play_Count = some r0) : ACall Tryd.prog T 9 [] H (Splay_Sum.av r0) H := by
  rw [play_Count] at hm
  refine ACallP.intro (fn := Tryd.f9) Tryd.func9 rfl enters9 (Nat.le_of_ble_eq_true rfl) ?_
  refine AWp.sr [] fun K1 hk2 => ?_
  simp
  apply hk2
  refine AWp.sr [] fun K3 hk4 => ?_
  simp
  apply hk4
  refine AWp.ret ?_
  obtain rfl := Option.some.inj hm
  simp [retQ]

theorem enters12 : entersB Tryd.prog 12 = true := by kernel_rfl

theorem r_play_Sum_Few (T : Tabs) {H : Heap} {a0 : Splay_Sum} {r0 : Bool} (hm : play_Sum_Few a0 = some r0) : ACall Tryd.prog T 12 [Splay_Sum.av a0] H (AV.sc (.bool r0)) H := by
  rw [play_Sum_Few] at hm
  refine ACallP.intro (fn := Tryd.f12) Tryd.func12 rfl enters12 (Nat.le_of_ble_eq_true rfl) ?_
  refine AWp.sr [] fun K1 hk2 => ?_
  simp
  apply hk2
  refine AWp.sr [] fun K3 hk4 => ?_
  simp
  apply hk4
  refine AWp.ret ?_
  obtain rfl := Option.some.inj hm
  simp [retQ]

theorem enters75 : entersB Tryd.prog 75 = true := by kernel_rfl

theorem rg_mk_CountType (T : Tabs) : ∀ (n : Nat), (∀ {H : Heap} {a0 : Ty} {a1 : Int} {r0 : Int} (hm : mk_CountType n a0 a1 = some r0), ACall Tryd.prog T 75 [Ty.av a0, AV.sc (.int .i64 a1)] H (AV.sc (.int .i64 r0)) H) := by
  intro n
  induction n with
  | zero =>
    skip
    all_goals
      intros
      rename_i hm
      cases hm
  | succ n ih =>
    intro H a0 a1 r0 hm
    rw [mk_CountType] at hm
    refine ACallP.intro (fn := Tryd.f75) Tryd.func75 rfl enters75 (Nat.le_of_ble_eq_true rfl) ?_
    refine AWp.sr [] fun K1 hk2 => ?_
    simp
    apply hk2
    refine AWp.sr [] fun K3 hk4 => ?_
    simp
    apply hk4
    refine AWp.seqK fun K5 hk6 => ?_
    refine AWp.sr [] fun K7 hk8 => ?_
    simp
    apply hk8
    obtain ⟨F9, hF10, hm11⟩ := joinB_some hm
    clear hm
    try dsimp only at hm11
    obtain ⟨out12, hl13, hmB14⟩ := bind1_some hm11
    clear hm11
    refine AWp.blockK fun Q15 nn16 ne17 nx18 nr19 => ?_
    refine AWp.loopF (fun n20 fr h => ∃ (v21 : Int) (v22 : Int) (g2_23 : Nat), H = h ∧ (fr.env 1 = AV.sc (.int .i64 a1) ∧ fr.env 2 = AV.lptr 2 g2_23 0 ∧ fr.env 5 = AV.sc (.int .i64 v21) ∧ fr.env 6 = AV.sc (.int .i64 v22) ∧ fr.gen 2 = g2_23 ∧ fr.box 2 = some [AV.sc (.int .i64 a0.kind), AV.slice .frz (List.map Ty.av a0.args)]) ∧ loopN F9 n20 (v21, v22) = some out12) FU ?_ ?_
    · refine ⟨1, 0, 1, ?_, ⟨?_, ?_, ?_, ?_, ?_, ?_⟩, hl13⟩ <;> first | rfl | simp
    rintro n20 fr23 h23 ⟨v21, v22, g2_23, rfl, E23, hl13⟩ K24 hK25
    rcases n20 with _ | n20
    · rw [loopN_zero] at hl13
      cases hl13
    rw [loopN_succ] at hl13
    obtain ⟨c26, hb27, hk28⟩ := bind1_some hl13
    clear hl13
    rw [hF10] at hb27
    try dsimp only at hb27
    rw [un2_mk] at hb27
    try dsimp only at hb27
    refine AWp.seqK fun K29 hk30 => ?_
    refine AWp.seqP (fun fr h => ∃ (g2_34 : Nat), H = h ∧ (fr.env 1 = AV.sc (.int .i64 a1) ∧ fr.env 2 = AV.lptr 2 g2_34 0 ∧ fr.env 5 = AV.sc (.int .i64 v21) ∧ fr.env 6 = AV.sc (.int .i64 v22) ∧ fr.env 16 = AV.sc (.bool (sel (ilt v22 (llen a0.args)) (ile v21 a1) false)) ∧ fr.gen 2 = g2_34 ∧ fr.box 2 = some [AV.sc (.int .i64 a0.kind), AV.slice .frz (List.map Ty.av a0.args)])) (fun K31 hk32 => ?_) ?_
    · refine AWp.region [] (by decide +kernel) ?_
      rcases Bool.eq_false_or_eq_true (ilt v22 (llen a0.args)) with hc33 | hc33
      · simp [E23, hc33]
        refine hk32 _ _ ⟨g2_23, ?_, ⟨?_, ?_, ?_, ?_, ?_, ?_, ?_⟩⟩ <;> first | rfl | simp [E23, hc33]
      simp [E23, hc33]
      refine hk32 _ _ ⟨g2_23, ?_, ⟨?_, ?_, ?_, ?_, ?_, ?_, ?_⟩⟩ <;> first | rfl | simp [E23, hc33]
    rintro fr34 h34 ⟨g2_34, rfl, E34⟩
    refine AWp.condK fun A35 B36 ga37 gb38 => ?_
    rcases ite_some hb27 with ⟨hc39, hm40⟩ | ⟨hc39, hm41⟩
    rotate_left
    · clear hb27
      simp [E34, hc39]
      apply gb38
      refine AWp.exit ?_
      apply ne17
      obtain rfl := Option.some.inj hm41
      rw [ctlK_brk] at hk28
      obtain rfl := Option.some.inj hk28
      rw [sumK_inl, un2_mk] at hmB14
      try dsimp only at hmB14
      apply hk6
      refine AWp.sr [] fun K42 hk43 => ?_
      simp [E34, hc39]
      apply hk43
      refine AWp.ret ?_
      obtain rfl := Option.some.inj hmB14
      simp [retQ, E34, hc39]
    clear hb27
    simp [E34, hc39]
    apply ga37
    refine AWp.skip ?_
    apply hk30
    refine AWp.seqK fun K44 hk45 => ?_
    refine AWp.blockK fun Q46 nn47 ne48 nx49 nr50 => ?_
    refine AWp.region [] (by decide +kernel) ?_
    obtain ⟨x51, hx52, hm53⟩ := bind1_some hm40
    clear hm40
    try dsimp only at hm53
    obtain ⟨x54, hx55, hm56⟩ := bind1_some hm53
    clear hm53
    try dsimp only at hm56
    simp [E34, hx52, hc39]
    refine CallAt.fn (ih hx55) ?_
    simp [E34, hx52, hc39]
    apply nn47
    apply hk45
    refine AWp.region [] (by decide +kernel) ?_
    simp [E34, hx52, hc39]
    obtain rfl := Option.some.inj hm56
    rw [ctlK_next] at hk28
    refine hK25 _ _ n20 (Nat.lt_succ_self _) ⟨(iadd .i64 v21 x54), (iadd .i64 v22 1), g2_34, ?_, ⟨?_, ?_, ?_, ?_, ?_, ?_⟩, hk28⟩ <;> first | rfl | simp [E34, hx52, hc39]
theorem r_mk_CountType (T : Tabs) {H : Heap} {a0 : Ty} {a1 : Int} {r0 : Int} {n : Nat} (hm : mk_CountType n a0 a1 = some r0) : ACall Tryd.prog T 75 [Ty.av a0, AV.sc (.int .i64 a1)] H (AV.sc (.int .i64 r0)) H := (rg_mk_CountType T n) hm

theorem enters76 : entersB Tryd.prog 76 = true := by kernel_rfl

theorem rg_mk_CountTerm (T : Tabs) : ∀ (n : Nat), (∀ {H : Heap} {a0 : Tm} {a1 : Int} {r0 : Int} (hm : mk_CountTerm n a0 a1 = some r0), ACall Tryd.prog T 76 [Tm.av a0, AV.sc (.int .i64 a1)] H (AV.sc (.int .i64 r0)) H) := by
  intro n
  induction n with
  | zero =>
    skip
    all_goals
      intros
      rename_i hm
      cases hm
  | succ n ih =>
    intro H a0 a1 r0 hm
    rw [mk_CountTerm] at hm
    refine ACallP.intro (fn := Tryd.f76) Tryd.func76 rfl enters76 (Nat.le_of_ble_eq_true rfl) ?_
    refine AWp.sr [] fun K1 hk2 => ?_
    simp
    apply hk2
    refine AWp.sr [] fun K3 hk4 => ?_
    obtain ⟨x5, hx6, hm7⟩ := bind1_some hm
    clear hm
    try dsimp only at hm7
    simp
    refine CallAt.fn (r_mk_CountType T hx6) ?_
    simp
    apply hk4
    refine AWp.seqK fun K8 hk9 => ?_
    refine AWp.sr [] fun K10 hk11 => ?_
    simp
    apply hk11
    obtain ⟨F12, hF13, hm14⟩ := joinB_some hm7
    clear hm7
    try dsimp only at hm14
    obtain ⟨out15, hl16, hmB17⟩ := bind1_some hm14
    clear hm14
    refine AWp.blockK fun Q18 nn19 ne20 nx21 nr22 => ?_
    refine AWp.loopF (fun n23 fr h => ∃ (v24 : Int) (v25 : Int) (g2_26 : Nat), H = h ∧ (fr.env 1 = AV.sc (.int .i64 a1) ∧ fr.env 2 = AV.lptr 2 g2_26 0 ∧ fr.env 5 = AV.sc (.int .i64 v24) ∧ fr.env 6 = AV.sc (.int .i64 v25) ∧ fr.gen 2 = g2_26 ∧ fr.box 2 = some [AV.sc (.int .i64 a0.kind), AV.sc (.int .i64 a0.index), AV.sc (.int .i64 a0.typeF.kind), AV.slice .frz (List.map Ty.av a0.typeF.args), AV.slice .frz (List.map Tm.av a0.args)]) ∧ loopN F12 n23 (v24, v25) = some out15) FU ?_ ?_
    · refine ⟨(iadd .i64 1 x5), 0, 1, ?_, ⟨?_, ?_, ?_, ?_, ?_, ?_⟩, hl16⟩ <;> first | rfl | simp
    rintro n23 fr26 h26 ⟨v24, v25, g2_26, rfl, E26, hl16⟩ K27 hK28
    rcases n23 with _ | n23
    · rw [loopN_zero] at hl16
      cases hl16
    rw [loopN_succ] at hl16
    obtain ⟨c29, hb30, hk31⟩ := bind1_some hl16
    clear hl16
    rw [hF13] at hb30
    try dsimp only at hb30
    rw [un2_mk] at hb30
    try dsimp only at hb30
    refine AWp.seqK fun K32 hk33 => ?_
    refine AWp.seqP (fun fr h => ∃ (g2_37 : Nat), H = h ∧ (fr.env 1 = AV.sc (.int .i64 a1) ∧ fr.env 2 = AV.lptr 2 g2_37 0 ∧ fr.env 5 = AV.sc (.int .i64 v24) ∧ fr.env 6 = AV.sc (.int .i64 v25) ∧ fr.env 22 = AV.sc (.bool (sel (ilt v25 (llen a0.args)) (ile v24 a1) false)) ∧ fr.gen 2 = g2_37 ∧ fr.box 2 = some [AV.sc (.int .i64 a0.kind), AV.sc (.int .i64 a0.index), AV.sc (.int .i64 a0.typeF.kind), AV.slice .frz (List.map Ty.av a0.typeF.args), AV.slice .frz (List.map Tm.av a0.args)])) (fun K34 hk35 => ?_) ?_
    · refine AWp.region [] (by decide +kernel) ?_
      rcases Bool.eq_false_or_eq_true (ilt v25 (llen a0.args)) with hc36 | hc36
      · simp [E26, hc36]
        refine hk35 _ _ ⟨g2_26, ?_, ⟨?_, ?_, ?_, ?_, ?_, ?_, ?_⟩⟩ <;> first | rfl | simp [E26, hc36]
      simp [E26, hc36]
      refine hk35 _ _ ⟨g2_26, ?_, ⟨?_, ?_, ?_, ?_, ?_, ?_, ?_⟩⟩ <;> first | rfl | simp [E26, hc36]
    rintro fr37 h37 ⟨g2_37, rfl, E37⟩
    refine AWp.condK fun A38 B39 ga40 gb41 => ?_
    rcases ite_some hb30 with ⟨hc42, hm43⟩ | ⟨hc42, hm44⟩
    rotate_left
    · clear hb30
      simp [E37, hc42]
      apply gb41
      refine AWp.exit ?_
      apply ne20
      obtain rfl := Option.some.inj hm44
      rw [ctlK_brk] at hk31
      obtain rfl := Option.some.inj hk31
      rw [sumK_inl, un2_mk] at hmB17
      try dsimp only at hmB17
      apply hk9
      refine AWp.sr [] fun K45 hk46 => ?_
      simp [E37, hc42]
      apply hk46
      refine AWp.ret ?_
      obtain rfl := Option.some.inj hmB17
      simp [retQ, E37, hc42]
    clear hb30
    simp [E37, hc42]
    apply ga40
    refine AWp.skip ?_
    apply hk33
    refine AWp.seqK fun K47 hk48 => ?_
    refine AWp.blockK fun Q49 nn50 ne51 nx52 nr53 => ?_
    refine AWp.region [] (by decide +kernel) ?_
    obtain ⟨x54, hx55, hm56⟩ := bind1_some hm43
    clear hm43
    try dsimp only at hm56
    obtain ⟨x57, hx58, hm59⟩ := bind1_some hm56
    clear hm56
    try dsimp only at hm59
    simp [E37, hx55, hc42]
    refine CallAt.fn (ih hx58) ?_
    simp [E37, hx55, hc42]
    apply nn50
    apply hk48
    refine AWp.region [] (by decide +kernel) ?_
    simp [E37, hx55, hc42]
    obtain rfl := Option.some.inj hm59
    rw [ctlK_next] at hk31
    refine hK28 _ _ n23 (Nat.lt_succ_self _) ⟨(iadd .i64 v24 x57), (iadd .i64 v25 1), g2_37, ?_, ⟨?_, ?_, ?_, ?_, ?_, ?_⟩, hk31⟩ <;> first | rfl | simp [E37, hx55, hc42]
theorem r_mk_CountTerm (T : Tabs) {H : Heap} {a0 : Tm} {a1 : Int} {r0 : Int} {n : Nat} (hm : mk_CountTerm n a0 a1 = some r0) : ACall Tryd.prog T 76 [Tm.av a0, AV.sc (.int .i64 a1)] H (AV.sc (.int .i64 r0)) H := (rg_mk_CountTerm T n) hm

theorem enters37 : entersB Tryd.prog 37 = true := by kernel_rfl

theorem rg_mk_CountFormula (T : Tabs) : ∀ (n : Nat), (∀ {H : Heap} {a0 : Fm} {a1 : Int} {r0 : Int} (hm : mk_CountFormula n a0 a1 = some r0), ACall Tryd.prog T 37 [Fm.av a0, AV.sc (.int .i64 a1)] H (AV.sc (.int .i64 r0)) H) := by
  intro n
  induction n with
  | zero =>
    skip
    all_goals
      intros
      rename_i hm
      cases hm
  | succ n ih =>
    intro H a0 a1 r0 hm
    rw [mk_CountFormula] at hm
    refine ACallP.intro (fn := Tryd.f37) Tryd.func37 rfl enters37 (Nat.le_of_ble_eq_true rfl) ?_
    refine AWp.sr [] fun K1 hk2 => ?_
    simp
    apply hk2
    refine AWp.sr [] fun K3 hk4 => ?_
    obtain ⟨x5, hx6, hm7⟩ := bind1_some hm
    clear hm
    try dsimp only at hm7
    simp
    refine CallAt.fn (r_mk_CountType T hx6) ?_
    simp
    apply hk4
    refine AWp.seqK fun K8 hk9 => ?_
    refine AWp.sr [] fun K10 hk11 => ?_
    simp
    apply hk11
    obtain ⟨F12, hF13, hm14⟩ := joinB_some hm7
    clear hm7
    try dsimp only at hm14
    obtain ⟨out15, hl16, hmB17⟩ := bind1_some hm14
    clear hm14
    refine AWp.blockK fun Q18 nn19 ne20 nx21 nr22 => ?_
    refine AWp.loopF (fun n23 fr h => ∃ (v24 : Int) (v25 : Int) (g2_26 : Nat), H = h ∧ (fr.env 1 = AV.sc (.int .i64 a1) ∧ fr.env 2 = AV.lptr 2 g2_26 0 ∧ fr.env 5 = AV.sc (.int .i64 v24) ∧ fr.env 6 = AV.sc (.int .i64 v25) ∧ fr.gen 2 = g2_26 ∧ fr.box 2 = some [AV.sc (.int .i64 a0.kind), AV.sc (.int .i64 a0.typeF.kind), AV.slice .frz (List.map Ty.av a0.typeF.args), AV.slice .frz (List.map Tm.av a0.terms), AV.slice .frz (List.map Fm.av a0.args)]) ∧ loopN F12 n23 (v24, v25) = some out15) FU ?_ ?_
    · refine ⟨(iadd .i64 1 x5), 0, 1, ?_, ⟨?_, ?_, ?_, ?_, ?_, ?_⟩, hl16⟩ <;> first | rfl | simp
    rintro n23 fr26 h26 ⟨v24, v25, g2_26, rfl, E26, hl16⟩ K27 hK28
    rcases n23 with _ | n23
    · rw [loopN_zero] at hl16
      cases hl16
    rw [loopN_succ] at hl16
    obtain ⟨c29, hb30, hk31⟩ := bind1_some hl16
    clear hl16
    rw [hF13] at hb30
    try dsimp only at hb30
    rw [un2_mk] at hb30
    try dsimp only at hb30
    refine AWp.seqK fun K32 hk33 => ?_
    refine AWp.seqP (fun fr h => ∃ (g2_37 : Nat), H = h ∧ (fr.env 1 = AV.sc (.int .i64 a1) ∧ fr.env 2 = AV.lptr 2 g2_37 0 ∧ fr.env 5 = AV.sc (.int .i64 v24) ∧ fr.env 6 = AV.sc (.int .i64 v25) ∧ fr.env 23 = AV.sc (.bool (sel (ilt v25 (llen a0.terms)) (ile v24 a1) false)) ∧ fr.gen 2 = g2_37 ∧ fr.box 2 = some [AV.sc (.int .i64 a0.kind), AV.sc (.int .i64 a0.typeF.kind), AV.slice .frz (List.map Ty.av a0.typeF.args), AV.slice .frz (List.map Tm.av a0.terms), AV.slice .frz (List.map Fm.av a0.args)])) (fun K34 hk35 => ?_) ?_
    · refine AWp.region [] (by decide +kernel) ?_
      rcases Bool.eq_false_or_eq_true (ilt v25 (llen a0.terms)) with hc36 | hc36
      · simp [E26, hc36]
        refine hk35 _ _ ⟨g2_26, ?_, ⟨?_, ?_, ?_, ?_, ?_, ?_, ?_⟩⟩ <;> first | rfl | simp [E26, hc36]
      simp [E26, hc36]
      refine hk35 _ _ ⟨g2_26, ?_, ⟨?_, ?_, ?_, ?_, ?_, ?_, ?_⟩⟩ <;> first | rfl | simp [E26, hc36]
    rintro fr37 h37 ⟨g2_37, rfl, E37⟩
    refine AWp.condK fun A38 B39 ga40 gb41 => ?_
    rcases ite_some hb30 with ⟨hc42, hm43⟩ | ⟨hc42, hm44⟩
    · clear hb30
      simp [E37, hc42]
      apply ga40
      refine AWp.skip ?_
      apply hk33
      refine AWp.seqK fun K45 hk46 => ?_
      refine AWp.blockK fun Q47 nn48 ne49 nx50 nr51 => ?_
      refine AWp.region [] (by decide +kernel) ?_
      obtain ⟨x52, hx53, hm54⟩ := bind1_some hm43
      clear hm43
      try dsimp only at hm54
      obtain ⟨x55, hx56, hm57⟩ := bind1_some hm54
      clear hm54
      try dsimp only at hm57
      simp [E37, hx53, hc42]
      refine CallAt.fn (r_mk_CountTerm T hx56) ?_
      simp [E37, hx53, hc42]
      apply nn48
      apply hk46
      refine AWp.region [] (by decide +kernel) ?_
      simp [E37, hx53, hc42]
      obtain rfl := Option.some.inj hm57
      rw [ctlK_next] at hk31
      refine hK28 _ _ n23 (Nat.lt_succ_self _) ⟨(iadd .i64 v24 x55), (iadd .i64 v25 1), g2_37, ?_, ⟨?_, ?_, ?_, ?_, ?_, ?_⟩, hk31⟩ <;> first | rfl | simp [E37, hx53, hc42]
    clear hb30
    simp [E37, hc42]
    apply gb41
    refine AWp.exit ?_
    apply ne20
    obtain rfl := Option.some.inj hm44
    rw [ctlK_brk] at hk31
    obtain rfl := Option.some.inj hk31
    rw [sumK_inl, un2_mk] at hmB17
    try dsimp only at hmB17
    apply hk9
    refine AWp.seqK fun K58 hk59 => ?_
    refine AWp.sr [] fun K60 hk61 => ?_
    simp [E37, hc42]
    apply hk61
    obtain ⟨F62, hF63, hm64⟩ := joinB_some hmB17
    clear hmB17
    try dsimp only at hm64
    obtain ⟨out65, hl66, hmB67⟩ := bind1_some hm64
    clear hm64
    refine AWp.blockK fun Q68 nn69 ne70 nx71 nr72 => ?_
    refine AWp.loopF (fun n73 fr h => ∃ (v74 : Int) (v75 : Int) (g2_76 : Nat), H = h ∧ (fr.env 1 = AV.sc (.int .i64 a1) ∧ fr.env 2 = AV.lptr 2 g2_76 0 ∧ fr.env 5 = AV.sc (.int .i64 v74) ∧ fr.env 7 = AV.sc (.int .i64 v75) ∧ fr.gen 2 = g2_76 ∧ fr.box 2 = some [AV.sc (.int .i64 a0.kind), AV.sc (.int .i64 a0.typeF.kind), AV.slice .frz (List.map Ty.av a0.typeF.args), AV.slice .frz (List.map Tm.av a0.terms), AV.slice .frz (List.map Fm.av a0.args)]) ∧ loopN F62 n73 (v74, v75) = some out65) FU ?_ ?_
    · refine ⟨v24, 0, g2_37, ?_, ⟨?_, ?_, ?_, ?_, ?_, ?_⟩, hl66⟩ <;> first | rfl | simp [E37, hc42]
    rintro n73 fr76 h76 ⟨v74, v75, g2_76, rfl, E76, hl66⟩ K77 hK78
    rcases n73 with _ | n73
    · rw [loopN_zero] at hl66
      cases hl66
    rw [loopN_succ] at hl66
    obtain ⟨c79, hb80, hk81⟩ := bind1_some hl66
    clear hl66
    rw [hF63] at hb80
    try dsimp only at hb80
    rw [un2_mk] at hb80
    try dsimp only at hb80
    refine AWp.seqK fun K82 hk83 => ?_
    refine AWp.seqP (fun fr h => ∃ (g2_87 : Nat), H = h ∧ (fr.env 1 = AV.sc (.int .i64 a1) ∧ fr.env 2 = AV.lptr 2 g2_87 0 ∧ fr.env 5 = AV.sc (.int .i64 v74) ∧ fr.env 7 = AV.sc (.int .i64 v75) ∧ fr.env 46 = AV.sc (.bool (sel (ilt v75 (llen a0.args)) (ile v74 a1) false)) ∧ fr.gen 2 = g2_87 ∧ fr.box 2 = some [AV.sc (.int .i64 a0.kind), AV.sc (.int .i64 a0.typeF.kind), AV.slice .frz (List.map Ty.av a0.typeF.args), AV.slice .frz (List.map Tm.av a0.terms), AV.slice .frz (List.map Fm.av a0.args)])) (fun K84 hk85 => ?_) ?_
    · refine AWp.region [] (by decide +kernel) ?_
      rcases Bool.eq_false_or_eq_true (ilt v75 (llen a0.args)) with hc86 | hc86
      · simp [E76, hc42, hc86]
        refine hk85 _ _ ⟨g2_76, ?_, ⟨?_, ?_, ?_, ?_, ?_, ?_, ?_⟩⟩ <;> first | rfl | simp [E76, hc42, hc86]
      simp [E76, hc42, hc86]
      refine hk85 _ _ ⟨g2_76, ?_, ⟨?_, ?_, ?_, ?_, ?_, ?_, ?_⟩⟩ <;> first | rfl | simp [E76, hc42, hc86]
    rintro fr87 h87 ⟨g2_87, rfl, E87⟩
    refine AWp.condK fun A88 B89 ga90 gb91 => ?_
    rcases ite_some hb80 with ⟨hc92, hm93⟩ | ⟨hc92, hm94⟩
    rotate_left
    · clear hb80
      simp [E87, hc42, hc92]
      apply gb91
      refine AWp.exit ?_
      apply ne70
      obtain rfl := Option.some.inj hm94
      rw [ctlK_brk] at hk81
      obtain rfl := Option.some.inj hk81
      rw [sumK_inl, un2_mk] at hmB67
      try dsimp only at hmB67
      apply hk59
      refine AWp.sr [] fun K95 hk96 => ?_
      simp [E87, hc42, hc92]
      apply hk96
      refine AWp.ret ?_
      obtain rfl := Option.some.inj hmB67
      simp [retQ, E87, hc42, hc92]
    clear hb80
    simp [E87, hc42, hc92]
    apply ga90
    refine AWp.skip ?_
    apply hk83
    refine AWp.seqK fun K97 hk98 => ?_
    refine AWp.blockK fun Q99 nn100 ne101 nx102 nr103 => ?_
    refine AWp.region [] (by decide +kernel) ?_
    obtain ⟨x104, hx105, hm106⟩ := bind1_some hm93
    clear hm93
    try dsimp only at hm106
    obtain ⟨x107, hx108, hm109⟩ := bind1_some hm106
    clear hm106
    try dsimp only at hm109
    simp [E87, hx105, hc42, hc92]
    refine CallAt.fn (ih hx108) ?_
    simp [E87, hx105, hc42, hc92]
    apply nn100
    apply hk98
    refine AWp.region [] (by decide +kernel) ?_
    simp [E87, hx105, hc42, hc92]
    obtain rfl := Option.some.inj hm109
    rw [ctlK_next] at hk81
    refine hK78 _ _ n73 (Nat.lt_succ_self _) ⟨(iadd .i64 v74 x107), (iadd .i64 v75 1), g2_87, ?_, ⟨?_, ?_, ?_, ?_, ?_, ?_⟩, hk81⟩ <;> first | rfl | simp [E87, hx105, hc42, hc92]
theorem r_mk_CountFormula (T : Tabs) {H : Heap} {a0 : Fm} {a1 : Int} {r0 : Int} {n : Nat} (hm : mk_CountFormula n a0 a1 = some r0) : ACall Tryd.prog T 37 [Fm.av a0, AV.sc (.int .i64 a1)] H (AV.sc (.int .i64 r0)) H := (rg_mk_CountFormula T n) hm

theorem enters10 : entersB Tryd.prog 10 = true := by kernel_rfl

theorem r_play_Sum_Formula (T : Tabs) {H : Heap} {a0 : Splay_Sum} {a1 : (List Fm)} {r0 : Splay_Sum} (hm : play_Sum_Formula a0 a1 = some r0) : ACall Tryd.prog T 10 [Splay_Sum.av a0, AV.slice .frz (List.map Fm.av a1)] H (Splay_Sum.av r0) H := by
  rw [play_Sum_Formula] at hm
  refine ACallP.intro (fn := Tryd.f10) Tryd.func10 rfl enters10 (Nat.le_of_ble_eq_true rfl) ?_
  refine AWp.sr [] fun K1 hk2 => ?_
  simp
  apply hk2
  refine AWp.seqK fun K3 hk4 => ?_
  refine AWp.sr [] fun K5 hk6 => ?_
  simp
  apply hk6
  obtain ⟨F7, hF8, hm9⟩ := joinB_some hm
  clear hm
  try dsimp only at hm9
  obtain ⟨out10, hl11, hmB12⟩ := bind1_some hm9
  clear hm9
  refine AWp.blockK fun Q13 nn14 ne15 nx16 nr17 => ?_
  refine AWp.loopF (fun n18 fr h => ∃ (v19 : Int) (v20 : Int) (g2_21 : Nat) (g4_21 : Nat), H = h ∧ (fr.env 1 = AV.slice .frz (List.map Fm.av a1) ∧ fr.env 2 = AV.lptr 2 g2_21 0 ∧ fr.env 4 = AV.lptr 4 g4_21 0 ∧ fr.env 5 = AV.sc (.int .i64 v19) ∧ fr.gen 2 = g2_21 ∧ fr.box 2 = some [AV.sc (.int .i64 v20)] ∧ fr.gen 4 = g4_21 ∧ fr.box 4 = some [AV.sc (.int .i64 0)]) ∧ loopN F7 n18 (v19, v20) = some out10) FU ?_ ?_
  · refine ⟨0, a0.n, 1, 1, ?_, ⟨?_, ?_, ?_, ?_, ?_, ?_, ?_, ?_⟩, hl11⟩ <;> first | rfl | simp
  rintro n18 fr21 h21 ⟨v19, v20, g2_21, g4_21, rfl, E21, hl11⟩ K22 hK23
  rcases n18 with _ | n18
  · rw [loopN_zero] at hl11
    cases hl11
  rw [loopN_succ] at hl11
  obtain ⟨c24, hb25, hk26⟩ := bind1_some hl11
  clear hl11
  rw [hF8] at hb25
  try dsimp only at hb25
  rw [un2_mk] at hb25
  try dsimp only at hb25
  refine AWp.seqK fun K27 hk28 => ?_
  obtain ⟨j29, hj30, hm31⟩ := joinB_some hb25
  clear hb25
  refine AWp.seqP (fun fr h => ∃ (v32 : Bool) (g2_41 : Nat) (g4_41 : Nat), H = h ∧ (fr.env 1 = AV.slice .frz (List.map Fm.av a1) ∧ fr.env 2 = AV.lptr 2 g2_41 0 ∧ fr.env 4 = AV.lptr 4 g4_41 0 ∧ fr.env 5 = AV.sc (.int .i64 v19) ∧ fr.env 13 = AV.sc (.bool v32) ∧ fr.gen 2 = g2_41 ∧ fr.box 2 = some [AV.sc (.int .i64 v20)] ∧ fr.gen 4 = g4_41 ∧ fr.box 4 = some [AV.sc (.int .i64 0)]) ∧ j29 v32 = some c24) (fun K33 hk34 => ?_) ?_
  · refine AWp.region [] (by decide +kernel) ?_
    rcases ite_some hm31 with ⟨hc35, hm36⟩ | ⟨hc35, hm37⟩
    rotate_left
    · clear hm31
      simp [E21, hc35]
      refine hk34 _ _ ⟨false, g2_21, g4_21, ?_, ⟨?_, ?_, ?_, ?_, ?_, ?_, ?_, ?_, ?_⟩, hm37⟩ <;> first | rfl | simp [E21, hc35]
    clear hm31
    obtain ⟨x38, hx39, hm40⟩ := bind1_some hm36
    clear hm36
    try dsimp only at hm40
    simp [E21, hc35]
    refine CallAt.fn (r_play_Sum_Few T hx39) ?_
    simp [E21, hc35]
    refine hk34 _ _ ⟨x38, g2_21, g4_21, ?_, ⟨?_, ?_, ?_, ?_, ?_, ?_, ?_, ?_, ?_⟩, hm40⟩ <;> first | rfl | simp [E21, hc35]
  clear hm31
  rintro fr41 h41 ⟨v32, g2_41, g4_41, rfl, E41, hm42⟩
  subst hj30
  refine AWp.condK fun A43 B44 ga45 gb46 => ?_
  rcases ite_some hm42 with ⟨hc47, hm48⟩ | ⟨hc47, hm49⟩
  rotate_left
  · clear hm42
    simp [E41, hc47]
    apply gb46
    refine AWp.exit ?_
    apply ne15
    obtain rfl := Option.some.inj hm49
    rw [ctlK_brk] at hk26
    obtain rfl := Option.some.inj hk26
    rw [sumK_inl, un2_mk] at hmB12
    try dsimp only at hmB12
    apply hk4
    refine AWp.sr [] fun K50 hk51 => ?_
    simp [E41, hc47]
    apply hk51
    refine AWp.ret ?_
    obtain rfl := Option.some.inj hmB12
    simp [retQ, E41, hc47]
  clear hm42
  simp [E41, hc47]
  apply ga45
  refine AWp.skip ?_
  apply hk28
  refine AWp.seqK fun K52 hk53 => ?_
  refine AWp.blockK fun Q54 nn55 ne56 nx57 nr58 => ?_
  refine AWp.regionD [] false mixed (by decide +kernel) (by decide +kernel) ?_
  obtain ⟨x59, hx60, hm61⟩ := bind1_some hm48
  clear hm48
  try dsimp only at hm61
  obtain ⟨x62, hx63, hm64⟩ := bind1_some hm61
  clear hm61
  try dsimp only at hm64
  simp [E41, hx60, hc47]
  refine CallAtD.fn (r_mk_CountFormula T hx63) (by simp) ?_
  simp [E41, hx60, hc47]
  apply nn55
  apply hk53
  refine AWp.region [] (by decide +kernel) ?_
  simp [E41, hx60, hc47]
  obtain rfl := Option.some.inj hm64
  rw [ctlK_next] at hk26
  refine hK23 _ _ n18 (Nat.lt_succ_self _) ⟨(iadd .i64 v19 1), (iadd .i64 v20 x62), g2_41, g4_41, ?_, ⟨?_, ?_, ?_, ?_, ?_, ?_, ?_, ?_⟩, hk26⟩ <;> first | rfl | simp [E41, hx60, hc47]

theorem enters38 : entersB Tryd.prog 38 = true := by kernel_rfl

theorem r_play_Sum_Type (T : Tabs) {H : Heap} {a0 : Splay_Sum} {a1 : (List Ty)} {r0 : Splay_Sum} (hm : play_Sum_Type a0 a1 = some r0) : ACall Tryd.prog T 38 [Splay_Sum.av a0, AV.slice .frz (List.map Ty.av a1)] H (Splay_Sum.av r0) H := by
  rw [play_Sum_Type] at hm
  refine ACallP.intro (fn := Tryd.f38) Tryd.func38 rfl enters38 (Nat.le_of_ble_eq_true rfl) ?_
  refine AWp.sr [] fun K1 hk2 => ?_
  simp
  apply hk2
  refine AWp.seqK fun K3 hk4 => ?_
  refine AWp.sr [] fun K5 hk6 => ?_
  simp
  apply hk6
  obtain ⟨F7, hF8, hm9⟩ := joinB_some hm
  clear hm
  try dsimp only at hm9
  obtain ⟨out10, hl11, hmB12⟩ := bind1_some hm9
  clear hm9
  refine AWp.blockK fun Q13 nn14 ne15 nx16 nr17 => ?_
  refine AWp.loopF (fun n18 fr h => ∃ (v19 : Int) (v20 : Int) (g2_21 : Nat) (g4_21 : Nat), H = h ∧ (fr.env 1 = AV.slice .frz (List.map Ty.av a1) ∧ fr.env 2 = AV.lptr 2 g2_21 0 ∧ fr.env 4 = AV.lptr 4 g4_21 0 ∧ fr.env 5 = AV.sc (.int .i64 v19) ∧ fr.gen 2 = g2_21 ∧ fr.box 2 = some [AV.sc (.int .i64 v20)] ∧ fr.gen 4 = g4_21 ∧ fr.box 4 = some [AV.sc (.int .i64 0)]) ∧ loopN F7 n18 (v19, v20) = some out10) FU ?_ ?_
  · refine ⟨0, a0.n, 1, 1, ?_, ⟨?_, ?_, ?_, ?_, ?_, ?_, ?_, ?_⟩, hl11⟩ <;> first | rfl | simp
  rintro n18 fr21 h21 ⟨v19, v20, g2_21, g4_21, rfl, E21, hl11⟩ K22 hK23
  rcases n18 with _ | n18
  · rw [loopN_zero] at hl11
    cases hl11
  rw [loopN_succ] at hl11
  obtain ⟨c24, hb25, hk26⟩ := bind1_some hl11
  clear hl11
  rw [hF8] at hb25
  try dsimp only at hb25
  rw [un2_mk] at hb25
  try dsimp only at hb25
  refine AWp.seqK fun K27 hk28 => ?_
  obtain ⟨j29, hj30, hm31⟩ := joinB_some hb25
  clear hb25
  refine AWp.seqP (fun fr h => ∃ (v32 : Bool) (g2_41 : Nat) (g4_41 : Nat), H = h ∧ (fr.env 1 = AV.slice .frz (List.map Ty.av a1) ∧ fr.env 2 = AV.lptr 2 g2_41 0 ∧ fr.env 4 = AV.lptr 4 g4_41 0 ∧ fr.env 5 = AV.sc (.int .i64 v19) ∧ fr.env 13 = AV.sc (.bool v32) ∧ fr.gen 2 = g2_41 ∧ fr.box 2 = some [AV.sc (.int .i64 v20)] ∧ fr.gen 4 = g4_41 ∧ fr.box 4 = some [AV.sc (.int .i64 0)]) ∧ j29 v32 = some c24) (fun K33 hk34 => ?_) ?_
  · refine AWp.region [] (by decide +kernel) ?_
    rcases ite_some hm31 with ⟨hc35, hm36⟩ | ⟨hc35, hm37⟩
    rotate_left
    · clear hm31
      simp [E21, hc35]
      refine hk34 _ _ ⟨false, g2_21, g4_21, ?_, ⟨?_, ?_, ?_, ?_, ?_, ?_, ?_, ?_, ?_⟩, hm37⟩ <;> first | rfl | simp [E21, hc35]
    clear hm31
    obtain ⟨x38, hx39, hm40⟩ := bind1_some hm36
    clear hm36
    try dsimp only at hm40
    simp [E21, hc35]
    refine CallAt.fn (r_play_Sum_Few T hx39) ?_
    simp [E21, hc35]
    refine hk34 _ _ ⟨x38, g2_21, g4_21, ?_, ⟨?_, ?_, ?_, ?_, ?_, ?_, ?_, ?_, ?_⟩, hm40⟩ <;> first | rfl | simp [E21, hc35]
  clear hm31
  rintro fr41 h41 ⟨v32, g2_41, g4_41, rfl, E41, hm42⟩
  subst hj30
  refine AWp.condK fun A43 B44 ga45 gb46 => ?_
  rcases ite_some hm42 with ⟨hc47, hm48⟩ | ⟨hc47, hm49⟩
  rotate_left
  · clear hm42
    simp [E41, hc47]
    apply gb46
    refine AWp.exit ?_
    apply ne15
    obtain rfl := Option.some.inj hm49
    rw [ctlK_brk] at hk26
    obtain rfl := Option.some.inj hk26
    rw [sumK_inl, un2_mk] at hmB12
    try dsimp only at hmB12
    apply hk4
    refine AWp.sr [] fun K50 hk51 => ?_
    simp [E41, hc47]
    apply hk51
    refine AWp.ret ?_
    obtain rfl := Option.some.inj hmB12
    simp [retQ, E41, hc47]
  clear hm42
  simp [E41, hc47]
  apply ga45
  refine AWp.skip ?_
  apply hk28
  refine AWp.seqK fun K52 hk53 => ?_
  refine AWp.blockK fun Q54 nn55 ne56 nx57 nr58 => ?_
  refine AWp.regionD [] false mixed (by decide +kernel) (by decide +kernel) ?_
  obtain ⟨x59, hx60, hm61⟩ := bind1_some hm48
  clear hm48
  try dsimp only at hm61
  obtain ⟨x62, hx63, hm64⟩ := bind1_some hm61
  clear hm61
  try dsimp only at hm64
  simp [E41, hx60, hc47]
  refine CallAtD.fn (r_mk_CountType T hx63) (by simp) ?_
  simp [E41, hx60, hc47]
  apply nn55
  apply hk53
  refine AWp.region [] (by decide +kernel) ?_
  simp [E41, hx60, hc47]
  obtain rfl := Option.some.inj hm64
  rw [ctlK_next] at hk26
  refine hK23 _ _ n18 (Nat.lt_succ_self _) ⟨(iadd .i64 v19 1), (iadd .i64 v20 x62), g2_41, g4_41, ?_, ⟨?_, ?_, ?_, ?_, ?_, ?_, ?_, ?_⟩, hk26⟩ <;> first | rfl | simp [E41, hx60, hc47]

theorem enters11 : entersB Tryd.prog 11 = true := by kernel_rfl

theorem r_play_Sum_Sequent (T : Tabs) {H : Heap} {a0 : Splay_Sum} {a1 : Sq} {r0 : Splay_Sum} (hm : play_Sum_Sequent a0 a1 = some r0) : ACall Tryd.prog T 11 [Splay_Sum.av a0, Sq.av a1] H (Splay_Sum.av r0) H := by
  rw [play_Sum_Sequent] at hm
  refine ACallP.intro (fn := Tryd.f11) Tryd.func11 rfl enters11 (Nat.le_of_ble_eq_true rfl) ?_
  refine AWp.sr [] fun K1 hk2 => ?_
  simp
  apply hk2
  refine AWp.seqK fun K3 hk4 => ?_
  refine AWp.regionD [] false mixed (by decide +kernel) (by decide +kernel) ?_
  obtain ⟨x5, hx6, hm7⟩ := bind1_some hm
  clear hm
  try dsimp only at hm7
  simp
  refine CallAtD.fn (r_play_Sum_Type T hx6) (by simp) ?_
  obtain ⟨x8, hx9, hm10⟩ := bind1_some hm7
  clear hm7
  try dsimp only at hm10
  simp
  refine CallAtD.fn (r_play_Sum_Formula T hx9) (by simp) ?_
  simp
  apply hk4
  refine AWp.ret ?_
  obtain rfl := Option.some.inj hm10
  simp [retQ]

theorem enters13 : entersB Tryd.prog 13 = true := by kernel_rfl
theorem r_mk_New (T : Tabs) {a0 : List Int} {r0 : Smk_Deck} (hm : mk_New a0 = some r0) : ACall Tryd.prog T 13 [AV.slice .frz (List.map (fun n => AV.sc (Value.int .i64 n)) a0)] [] (AV.gptr 0 0) (hset [[]] 0 [AV.slice .frz (List.map (fun n => AV.sc (Value.int .i64 n)) r0.l), AV.sc (.int .i64 r0.atF)]) := by
  obtain rfl := Option.some.inj hm
  refine ACallP.intro (fn := Tryd.f13) Tryd.func13 rfl enters13 (Nat.le_of_ble_eq_true rfl) ?_
  refine AWp.seqK fun K1 hk1 => ?_
  refine AWp.region [] (by decide +kernel) ?_
  simp
  refine hk1 _ _ ?_
  refine AWp.seqK fun K1 hk1 => ?_
  refine AWp.region [5] (by decide +kernel) ?_
  simp
  refine hk1 _ _ ?_
  refine AWp.ret ?_
  simp [retQ, hset]

end Go.Proofs.YtdihelfnjememaaDoor
