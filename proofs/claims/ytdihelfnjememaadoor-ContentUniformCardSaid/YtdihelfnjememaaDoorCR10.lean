/- The program's functions do what the models say. -/
import Derived.Test.YtdihelfnjememaaDoorCR09
import Derived.Test.YtdihelfnjememaaDoorCM
set_option maxRecDepth 20000
set_option maxHeartbeats 4000000
set_option linter.unusedSimpArgs false
set_option linter.unusedVariables false
namespace Go.Proofs.YtdihelfnjememaaDoor
open Go Go.Abs Go.Mdl

theorem enters6 : entersB Tryd.prog 6 = true := by kernel_rfl

theorem r_law23_ContentUniform (T : Tabs) (hT : T 0 = some (AV.agg (List.map (fun n => AV.sc (Value.int .i64 n)) tree_arities))) {a0 : (List Int)} {r0 : Bool} (hm : law23_ContentUniform a0 = some r0) : ACallP Tryd.prog T 6 [AV.slice .frz (List.map (fun n => AV.sc (Value.int .i64 n)) a0)] [] (fun x _ => x = AV.sc (.bool r0)) := by
  rw [law23_ContentUniform] at hm
  refine ACallP.intro (fn := Tryd.f6) Tryd.func6 rfl enters6 (Nat.le_of_ble_eq_true rfl) ?_
  refine AWp.sr [] fun K1 hk2 => ?_
  simp [hT]
  apply hk2
  refine AWp.seqK fun K3 hk4 => ?_
  obtain ⟨j5, hj6, hm7⟩ := joinB_some hm
  clear hm
  refine AWp.seqP (fun fr h => ∃ (v8 : Bool), ([] : Heap) = h ∧ (fr.env 0 = AV.slice .frz (List.map (fun n => AV.sc (Value.int .i64 n)) a0) ∧ fr.env 24 = AV.sc (.bool v8)) ∧ j5 v8 = some r0) (fun K9 hk10 => ?_) ?_
  · refine AWp.region [] (by decide +kernel) ?_
    obtain ⟨x11, hx12, hm13⟩ := bind1_some hm7
    clear hm7
    try dsimp only at hm13
    simp [hT]
    refine CallAt.fn (r_law23_awake T hT hx12) ?_
    rcases ite_some hm13 with ⟨hc14, hm15⟩ | ⟨hc14, hm16⟩
    rotate_left
    · clear hm13
      simp [hT, hc14]
      refine hk10 _ _ ⟨true, ?_, ⟨?_, ?_⟩, hm16⟩ <;> first | rfl | simp [hT, hc14]
    clear hm13
    obtain ⟨x17, hx18, hm19⟩ := bind1_some hm15
    clear hm15
    try dsimp only at hm19
    simp [hT, hc14]
    refine CallAt.fn (r_mk_Few T hx18) ?_
    simp [hT, hc14]
    refine hk10 _ _ ⟨(bnot x17), ?_, ⟨?_, ?_⟩, hm19⟩ <;> first | rfl | simp [hT, hc14]
  clear hm7
  rintro fr20 h20 ⟨v8, rfl, E20, hm21⟩
  subst hj6
  refine AWp.condK fun A22 B23 ga24 gb25 => ?_
  rcases ite_some hm21 with ⟨hc26, hm27⟩ | ⟨hc26, hm28⟩
  · clear hm21
    simp [E20, hT, hc26]
    apply ga24
    refine AWp.sr [] fun K29 hk30 => ?_
    obtain ⟨x31, hx32, hm33⟩ := bind1_some hm27
    clear hm27
    try dsimp only at hm33
    simp [E20, hT, hc26]
    refine CallAt.fn (r_law23_awake T hT hx32) ?_
    simp [E20, hT, hc26]
    apply hk30
    refine AWp.ret ?_
    obtain rfl := Option.some.inj hm33
    simp [retQ, E20, hT, hc26]
  clear hm21
  simp [E20, hT, hc26]
  apply gb25
  refine AWp.skip ?_
  apply hk4
  refine AWp.sr [] fun K34 hk35 => ?_
  obtain ⟨x36, hx37, hm38⟩ := bind1_some hm28
  clear hm28
  try dsimp only at hm38
  simp [E20, hT, hc26]
  refine CallAt.fn (r_mk_New T hx37) ?_
  simp [E20, hT, hc26]
  apply hk35
  refine AWp.sr [] fun K39 hk40 => ?_
  obtain ⟨x41, d42, hx43, hm44⟩ := bind2_some hm38
  clear hm38
  try dsimp only at hm44
  simp [E20, hT, hc26]
  refine CallAt.fn (r_mk_Type T (by first | exact ho | decide) hx43) ?_
  simp [E20, hT, hc26]
  apply hk40
  refine AWp.sr [] fun K45 hk46 => ?_
  obtain ⟨x47, d48, hx49, hm50⟩ := bind2_some hm44
  clear hm44
  try dsimp only at hm50
  simp [E20, hT, hc26]
  refine CallAt.fn (r_mk_Formula T (by first | exact ho | decide) hx49) ?_
  simp [E20, hT, hc26]
  apply hk46
  refine AWp.sr [] fun K51 hk52 => ?_
  obtain ⟨x53, x54, hx55, hm56⟩ := bind2_some hm50
  clear hm50
  try dsimp only at hm56
  simp [E20, hT, hc26]
  refine CallAt.fn (r_content_Type T hT hx55) ?_
  simp [E20, hT, hc26]
  apply hk52
  refine AWp.sr [] fun K57 hk58 => ?_
  obtain ⟨x59, x60, hx61, hm62⟩ := bind2_some hm56
  clear hm56
  try dsimp only at hm62
  simp [E20, hT, hc26]
  refine CallAt.fn (r_ref08_Content T hx61) ?_
  simp [E20, hT, hc26]
  apply hk58
  refine AWp.seqK fun K63 hk64 => ?_
  refine AWp.seqP (fun fr h => ∃ (g4_68 : Nat) (g5_68 : Nat) (g6_68 : Nat), hset [[]] 0 [AV.slice .frz (List.map (fun n => AV.sc (Value.int .i64 n)) d48.l), AV.sc (.int .i64 d48.atF)] = h ∧ (fr.env 4 = AV.lptr 4 g4_68 0 ∧ fr.env 5 = AV.lptr 5 g5_68 0 ∧ fr.env 6 = AV.lptr 6 g6_68 0 ∧ fr.env 7 = AV.sc (.int .i64 x54) ∧ fr.env 8 = AV.sc (.bool x59) ∧ fr.env 49 = AV.sc (.bool (sel (ine x54 0) true (ine x60 0))) ∧ fr.gen 4 = g4_68 ∧ fr.box 4 = some [AV.sc (.int .i64 x41.kind), AV.slice .frz (List.map Ty.av x41.args)] ∧ fr.gen 5 = g5_68 ∧ fr.box 5 = some [AV.sc (.int .i64 x47.kind), AV.sc (.int .i64 x47.typeF.kind), AV.slice .frz (List.map Ty.av x47.typeF.args), AV.slice .frz (List.map Tm.av x47.terms), AV.slice .frz (List.map Fm.av x47.args)] ∧ fr.gen 6 = g6_68 ∧ fr.box 6 = some [AV.sc (.int .i64 x53.kind), AV.slice .frz (List.map Ty.av x53.args)])) (fun K65 hk66 => ?_) ?_
  · refine AWp.region [] (by decide +kernel) ?_
    rcases Bool.eq_false_or_eq_true (ine x54 0) with hc67 | hc67
    · simp [E20, hT, hc26, hc67]
      refine hk66 _ _ ⟨(fr20.gen 4 + 1), (fr20.gen 5 + 1), (fr20.gen 6 + 1), ?_, ⟨?_, ?_, ?_, ?_, ?_, ?_, ?_, ?_, ?_, ?_, ?_, ?_⟩⟩ <;> first | rfl | simp [E20, hT, hc26, hc67]
    simp [E20, hT, hc26, hc67]
    refine hk66 _ _ ⟨(fr20.gen 4 + 1), (fr20.gen 5 + 1), (fr20.gen 6 + 1), ?_, ⟨?_, ?_, ?_, ?_, ?_, ?_, ?_, ?_, ?_, ?_, ?_, ?_⟩⟩ <;> first | rfl | simp [E20, hT, hc26, hc67]
  rintro fr68 h68 ⟨g4_68, g5_68, g6_68, rfl, E68⟩
  refine AWp.condK fun A69 B70 ga71 gb72 => ?_
  rcases ite_some hm62 with ⟨hc73, hm74⟩ | ⟨hc73, hm75⟩
  · clear hm62
    simp [E68, hT, hc26, hc73]
    apply ga71
    refine AWp.sr [] fun K76 hk77 => ?_
    obtain ⟨x78, hx79, hm80⟩ := bind1_some hm74
    clear hm74
    try dsimp only at hm80
    simp [E68, hT, hc26, hc73]
    refine CallAt.fn (r_law23_limits T hx79) ?_
    simp [E68, hT, hc26, hc73]
    apply hk77
    refine AWp.ret ?_
    obtain rfl := Option.some.inj hm80
    simp [retQ, E68, hT, hc26, hc73]
  clear hm62
  simp [E68, hT, hc26, hc73]
  apply gb72
  refine AWp.skip ?_
  apply hk64
  refine AWp.seqK fun K81 hk82 => ?_
  refine AWp.sr [] fun K83 hk84 => ?_
  simp [E68, hT, hc26, hc73]
  apply hk84
  obtain ⟨L85, hL86, hm87⟩ := joinB_some hm75
  clear hm75
  try dsimp only at hm87
  obtain ⟨hok88, hm89⟩ := chk_some hm87
  clear hm87
  obtain ⟨F90, hF91, hm92⟩ := joinB_some hm89
  clear hm89
  try dsimp only at hm92
  obtain ⟨out93, hl94, hmB95⟩ := bind1_some hm92
  clear hm92
  refine AWp.blockK fun Q96 nn97 ne98 nx99 nr100 => ?_
  refine AWp.loopF (fun n101 fr h => ∃ (i102 : Nat) (j103 : Int) (g4_104 : Nat) (g5_104 : Nat) (g6_104 : Nat), hset [[]] 0 [AV.slice .frz (List.map (fun n => AV.sc (Value.int .i64 n)) d48.l), AV.sc (.int .i64 d48.atF)] = h ∧ (fr.env 4 = AV.lptr 4 g4_104 0 ∧ fr.env 5 = AV.lptr 5 g5_104 0 ∧ fr.env 6 = AV.lptr 6 g6_104 0 ∧ fr.env 8 = AV.sc (.bool x59) ∧ fr.env 52 = AV.slice .full (List.map (fun n => AV.sc (Value.int .i64 n)) L85) ∧ fr.env 53 = AV.sc (.int .i64 (llen L85)) ∧ fr.env 54 = AV.sc (.int .i64 j103) ∧ fr.gen 4 = g4_104 ∧ fr.box 4 = some [AV.sc (.int .i64 x41.kind), AV.slice .frz (List.map Ty.av x41.args)] ∧ fr.gen 5 = g5_104 ∧ fr.box 5 = some [AV.sc (.int .i64 x47.kind), AV.sc (.int .i64 x47.typeF.kind), AV.slice .frz (List.map Ty.av x47.typeF.args), AV.slice .frz (List.map Tm.av x47.terms), AV.slice .frz (List.map Fm.av x47.args)] ∧ fr.gen 6 = g6_104 ∧ fr.box 6 = some [AV.sc (.int .i64 x53.kind), AV.slice .frz (List.map Ty.av x53.args)]) ∧ j103 = (i102 : Int) ∧ i102 + n101 = List.length L85 ∧ forR F90 (List.drop i102 L85) i102 () = some out93) (List.length L85) ?_ ?_
  · refine ⟨0, 0, g4_68, g5_68, g6_68, ?_, ⟨?_, ?_, ?_, ?_, ?_, ?_, ?_, ?_, ?_, ?_, ?_, ?_, ?_⟩, rfl, (by simp), hl94⟩ <;> first | rfl | (rw [hL86]; rfl) | simp [E68, hT, hL86, llen, hc26, hc73, hL86]
  rintro n101 fr104 h104 ⟨i102, j103, g4_104, g5_104, g6_104, rfl, E104, hj105, hi106, hl94⟩ K107 hK108
  rcases n101 with _ | n101
  rotate_left
  · have hlt109 := ilt_ofJ (l := L85) hj105 (by omega)
    obtain ⟨x110, hdn101, hg111⟩ := drop_ltJ (l := L85) hj105 (by omega)
    rw [hdn101, forR_cons] at hl94
    obtain ⟨c112, hb113, hk114⟩ := bind1_some hl94
    clear hl94
    rw [hF91, ← hj105] at hb113
    try dsimp only at hb113
    refine AWp.sr [] fun K115 hk116 => ?_
    simp [E104, hT, hlt109, hg111, hc26, hc73]
    apply hk116
    refine AWp.seqK fun K117 hk118 => ?_
    refine AWp.condK fun A119 B120 ga121 gb122 => ?_
    simp [E104, hT, hlt109, hg111, hc26, hc73]
    apply ga121
    refine AWp.skip ?_
    apply hk118
    refine AWp.seqK fun K123 hk124 => ?_
    refine AWp.blockK fun Q125 nn126 ne127 nx128 nr129 => ?_
    refine AWp.sr [] fun K130 hk131 => ?_
    simp [E104, hT, hlt109, hg111, hc26, hc73]
    apply hk131
    refine AWp.sr [] fun K132 hk133 => ?_
    have hf134 : AV.agg [AV.sc (.int .i64 x110), AV.sc (.int .i64 x41.kind), AV.slice .frz (List.map Ty.av x41.args), AV.slice .frz [], AV.slice .frz [Fm.av x47]] = Fm.av (Fm.mk x110 x41 [] [x47]) := by rw [Fm.av_mk]; rfl
    obtain ⟨x135, x136, hx137, hm138⟩ := bind2_some hb113
    clear hb113
    try dsimp only at hm138
    simp [E104, hT, hlt109, hg111, hf134, hc26, hc73]
    refine CallAt.fn (r_content_Type T hT hx137) ?_
    simp [E104, hT, hlt109, hg111, hf134, hc26, hc73]
    apply hk133
    obtain ⟨j139, hj140, hm141⟩ := joinB_some hm138
    clear hm138
    refine AWp.seqP (fun fr h => ∃ (v142 : Bool) (g4_151 : Nat) (g5_151 : Nat) (g6_151 : Nat), hset [[]] 0 [AV.slice .frz (List.map (fun n => AV.sc (Value.int .i64 n)) d48.l), AV.sc (.int .i64 d48.atF)] = h ∧ (fr.env 4 = AV.lptr 4 g4_151 0 ∧ fr.env 5 = AV.lptr 5 g5_151 0 ∧ fr.env 6 = AV.lptr 6 g6_151 0 ∧ fr.env 8 = AV.sc (.bool x59) ∧ fr.env 52 = AV.slice .full (List.map (fun n => AV.sc (Value.int .i64 n)) L85) ∧ fr.env 53 = AV.sc (.int .i64 (llen L85)) ∧ fr.env 54 = AV.sc (.int .i64 j103) ∧ fr.env 74 = AV.sc (.bool v142) ∧ fr.gen 4 = g4_151 ∧ fr.box 4 = some [AV.sc (.int .i64 x41.kind), AV.slice .frz (List.map Ty.av x41.args)] ∧ fr.gen 5 = g5_151 ∧ fr.box 5 = some [AV.sc (.int .i64 x47.kind), AV.sc (.int .i64 x47.typeF.kind), AV.slice .frz (List.map Ty.av x47.typeF.args), AV.slice .frz (List.map Tm.av x47.terms), AV.slice .frz (List.map Fm.av x47.args)] ∧ fr.gen 6 = g6_151 ∧ fr.box 6 = some [AV.sc (.int .i64 x53.kind), AV.slice .frz (List.map Ty.av x53.args)]) ∧ j139 v142 = some c112) (fun K143 hk144 => ?_) ?_
    · refine AWp.region [] (by decide +kernel) ?_
      rcases ite_some hm141 with ⟨hc145, hm146⟩ | ⟨hc145, hm147⟩
      · clear hm141
        simp [E104, hT, hlt109, hg111, hf134, hc26, hc73, hc145]
        refine hk144 _ _ ⟨true, g4_104, g5_104, g6_104, ?_, ⟨?_, ?_, ?_, ?_, ?_, ?_, ?_, ?_, ?_, ?_, ?_, ?_, ?_, ?_⟩, hm146⟩ <;> first | rfl | simp [E104, hT, hlt109, hg111, hf134, hc26, hc73, hc145]
      clear hm141
      obtain ⟨x148, hx149, hm150⟩ := bind1_some hm147
      clear hm147
      try dsimp only at hm150
      simp [E104, hT, hlt109, hg111, hf134, hc26, hc73, hc145]
      refine CallAt.fn (r_ref01_Same T hx149) ?_
      simp [E104, hT, hlt109, hg111, hf134, hc26, hc73, hc145]
      refine hk144 _ _ ⟨(bnot x148), g4_104, g5_104, g6_104, ?_, ⟨?_, ?_, ?_, ?_, ?_, ?_, ?_, ?_, ?_, ?_, ?_, ?_, ?_, ?_⟩, hm150⟩ <;> first | rfl | simp [E104, hT, hlt109, hg111, hf134, hc26, hc73, hc145]
    clear hm141
    rintro fr151 h151 ⟨v142, g4_151, g5_151, g6_151, rfl, E151, hm152⟩
    subst hj140
    refine AWp.condK fun A153 B154 ga155 gb156 => ?_
    rcases ite_some hm152 with ⟨hc157, hm158⟩ | ⟨hc157, hm159⟩
    · clear hm152
      simp [E151, hT, hlt109, hg111, hf134, hc26, hc73, hc157]
      apply ga155
      refine AWp.sr [] fun K160 hk161 => ?_
      simp [E151, hT, hlt109, hg111, hf134, hc26, hc73, hc157]
      apply hk161
      refine AWp.ret ?_
      apply nr129
      apply nr100
      obtain rfl := Option.some.inj hm158
      rw [ctlK_ret] at hk114
      obtain rfl := Option.some.inj hk114
      rw [sumK_inr] at hmB95
      try dsimp only at hmB95
      obtain rfl := Option.some.inj hmB95
      simp [retQ, E151, hT, hlt109, hg111, hf134, hc26, hc73, hc157]
    clear hm152
    simp [E151, hT, hlt109, hg111, hf134, hc26, hc73, hc157]
    apply gb156
    refine AWp.skip ?_
    apply nn126
    apply hk124
    refine AWp.region [] (by decide +kernel) ?_
    simp [E151, hT, hlt109, hg111, hf134, hc26, hc73, hc157]
    obtain rfl := Option.some.inj hm159
    rw [ctlK_next] at hk114
    refine hK108 _ _ n101 (Nat.lt_succ_self _) ⟨(i102 + 1), (iadd .i64 j103 1), g4_151, g5_151, g6_151, ?_, ⟨?_, ?_, ?_, ?_, ?_, ?_, ?_, ?_, ?_, ?_, ?_, ?_, ?_⟩, (iadd_idxJ hj105 (by omega) hok88), (by omega), hk114⟩ <;> first | rfl | simp [E151, hT, hlt109, hg111, hf134, hc26, hc73, hc157]
  have hlt109 := ilt_notJ (l := L85) hj105 (by omega)
  refine AWp.sr [] fun K162 hk163 => ?_
  simp [E104, hT, hlt109, hc26, hc73]
  apply hk163
  refine AWp.seqK fun K164 hk165 => ?_
  refine AWp.condK fun A166 B167 ga168 gb169 => ?_
  simp [E104, hT, hlt109, hc26, hc73]
  apply gb169
  refine AWp.exit ?_
  apply ne98
  rw [List.drop_eq_nil_of_le (by omega), forR_nil] at hl94
  obtain rfl := Option.some.inj hl94
  rw [sumK_inl] at hmB95
  try dsimp only at hmB95
  apply hk82
  refine AWp.sr [] fun K170 hk171 => ?_
  have hf172 : AV.agg [AV.sc (.int .i64 4), AV.sc (.int .i64 x41.kind), AV.slice .frz (List.map Ty.av x41.args), AV.slice .frz [], AV.slice .frz [Fm.av x47]] = Fm.av (Fm.mk 4 x41 [] [x47]) := by rw [Fm.av_mk]; rfl
  obtain ⟨x173, x174, hx175, hm176⟩ := bind2_some hmB95
  clear hmB95
  try dsimp only at hm176
  simp [E104, hT, hlt109, hf172, hc26, hc73]
  refine CallAt.fn (r_content_Type T hT hx175) ?_
  simp [E104, hT, hlt109, hf172, hc26, hc73]
  apply hk171
  refine AWp.sr [] fun K177 hk178 => ?_
  have hf179 : AV.agg [AV.sc (.int .i64 5), AV.sc (.int .i64 x41.kind), AV.slice .frz (List.map Ty.av x41.args), AV.slice .frz [], AV.slice .frz [Fm.av x47]] = Fm.av (Fm.mk 5 x41 [] [x47]) := by rw [Fm.av_mk]; rfl
  obtain ⟨x180, x181, hx182, hm183⟩ := bind2_some hm176
  clear hm176
  try dsimp only at hm183
  simp [E104, hT, hlt109, hf172, hf179, hc26, hc73]
  refine CallAt.fn (r_content_Type T hT hx182) ?_
  simp [E104, hT, hlt109, hf172, hf179, hc26, hc73]
  apply hk178
  refine AWp.seqK fun K184 hk185 => ?_
  refine AWp.seqP (fun fr h => ∃ (g4_189 : Nat) (g6_189 : Nat) (g14_189 : Nat) (g16_189 : Nat), hset [[]] 0 [AV.slice .frz (List.map (fun n => AV.sc (Value.int .i64 n)) d48.l), AV.sc (.int .i64 d48.atF)] = h ∧ (fr.env 4 = AV.lptr 4 g4_189 0 ∧ fr.env 6 = AV.lptr 6 g6_189 0 ∧ fr.env 8 = AV.sc (.bool x59) ∧ fr.env 14 = AV.lptr 14 g14_189 0 ∧ fr.env 15 = AV.sc (.int .i64 x174) ∧ fr.env 16 = AV.lptr 16 g16_189 0 ∧ fr.env 17 = AV.sc (.int .i64 x181) ∧ fr.env 97 = AV.sc (.bool (sel (ine x174 0) true (ine x181 0))) ∧ fr.gen 4 = g4_189 ∧ fr.box 4 = some [AV.sc (.int .i64 x41.kind), AV.slice .frz (List.map Ty.av x41.args)] ∧ fr.gen 6 = g6_189 ∧ fr.box 6 = some [AV.sc (.int .i64 x53.kind), AV.slice .frz (List.map Ty.av x53.args)] ∧ fr.gen 14 = g14_189 ∧ fr.box 14 = some [AV.sc (.int .i64 x173.kind), AV.slice .frz (List.map Ty.av x173.args)] ∧ fr.gen 16 = g16_189 ∧ fr.box 16 = some [AV.sc (.int .i64 x180.kind), AV.slice .frz (List.map Ty.av x180.args)])) (fun K186 hk187 => ?_) ?_
  · refine AWp.region [] (by decide +kernel) ?_
    rcases Bool.eq_false_or_eq_true (ine x174 0) with hc188 | hc188
    · simp [E104, hT, hlt109, hf172, hf179, hc26, hc73, hc188]
      refine hk187 _ _ ⟨g4_104, g6_104, (fr104.gen 14 + 1), (fr104.gen 16 + 1), ?_, ⟨?_, ?_, ?_, ?_, ?_, ?_, ?_, ?_, ?_, ?_, ?_, ?_, ?_, ?_, ?_, ?_⟩⟩ <;> first | rfl | simp [E104, hT, hlt109, hf172, hf179, hc26, hc73, hc188]
    simp [E104, hT, hlt109, hf172, hf179, hc26, hc73, hc188]
    refine hk187 _ _ ⟨g4_104, g6_104, (fr104.gen 14 + 1), (fr104.gen 16 + 1), ?_, ⟨?_, ?_, ?_, ?_, ?_, ?_, ?_, ?_, ?_, ?_, ?_, ?_, ?_, ?_, ?_, ?_⟩⟩ <;> first | rfl | simp [E104, hT, hlt109, hf172, hf179, hc26, hc73, hc188]
  rintro fr189 h189 ⟨g4_189, g6_189, g14_189, g16_189, rfl, E189⟩
  refine AWp.condK fun A190 B191 ga192 gb193 => ?_
  rcases ite_some hm183 with ⟨hc194, hm195⟩ | ⟨hc194, hm196⟩
  · clear hm183
    simp [E189, hT, hlt109, hf172, hf179, hc26, hc73, hc194]
    apply ga192
    obtain ⟨j197, hj198, hm199⟩ := joinB_some hm195
    clear hm195
    refine AWp.seqP (fun fr h => ∃ (v200 : Bool), hset [[]] 0 [AV.slice .frz (List.map (fun n => AV.sc (Value.int .i64 n)) d48.l), AV.sc (.int .i64 d48.atF)] = h ∧ fr.env 2 = AV.sc (.bool v200) ∧ j197 v200 = some r0) (fun K201 hk202 => ?_) ?_
    rotate_left
    · clear hm199
      rintro fr203 h203 ⟨v200, rfl, E203, hm204⟩
      subst hj198
      refine AWp.ret ?_
      obtain rfl := Option.some.inj hm204
      simp [retQ, E203, hT, hlt109, hf172, hf179, hc26, hc73, hc194]
    refine AWp.region [] (by decide +kernel) ?_
    obtain ⟨x205, hx206, hm207⟩ := bind1_some hm199
    clear hm199
    try dsimp only at hm207
    simp [E189, hT, hlt109, hf172, hf179, hc26, hc73, hc194]
    refine CallAt.fn (r_law23_limits T hx206) ?_
    rcases ite_some hm207 with ⟨hc208, hm209⟩ | ⟨hc208, hm210⟩
    · clear hm207
      simp [E189, hT, hlt109, hf172, hf179, hc26, hc73, hc194, hc208]
      refine hk202 _ _ ⟨true, ?_, ?_, hm209⟩ <;> first | rfl | simp [E189, hT, hlt109, hf172, hf179, hc26, hc73, hc194, hc208]
    clear hm207
    obtain ⟨x211, hx212, hm213⟩ := bind1_some hm210
    clear hm210
    try dsimp only at hm213
    simp [E189, hT, hlt109, hf172, hf179, hc26, hc73, hc194, hc208]
    refine CallAt.fn (r_law23_limits T hx212) ?_
    simp [E189, hT, hlt109, hf172, hf179, hc26, hc73, hc194, hc208]
    refine hk202 _ _ ⟨x211, ?_, ?_, hm213⟩ <;> first | rfl | simp [E189, hT, hlt109, hf172, hf179, hc26, hc73, hc194, hc208]
  clear hm183
  simp [E189, hT, hlt109, hf172, hf179, hc26, hc73, hc194]
  apply gb193
  refine AWp.skip ?_
  apply hk185
  refine AWp.seqK fun K214 hk215 => ?_
  refine AWp.sr [] fun K216 hk217 => ?_
  simp [E189, hT, hlt109, hf172, hf179, hc26, hc73, hc194]
  apply hk217
  refine AWp.condK fun A218 B219 ga220 gb221 => ?_
  rcases ite_some hm196 with ⟨hc222, hm223⟩ | ⟨hc222, hm224⟩
  rotate_left
  · clear hm196
    simp [E189, hT, hlt109, hf172, hf179, hc26, hc73, hc194, hc222]
    apply ga220
    obtain ⟨j225, hj226, hm227⟩ := joinB_some hm224
    clear hm224
    refine AWp.seqP (fun fr h => ∃ (v228 : Bool), hset [[]] 0 [AV.slice .frz (List.map (fun n => AV.sc (Value.int .i64 n)) d48.l), AV.sc (.int .i64 d48.atF)] = h ∧ fr.env 2 = AV.sc (.bool v228) ∧ j225 v228 = some r0) (fun K229 hk230 => ?_) ?_
    rotate_left
    · clear hm227
      rintro fr231 h231 ⟨v228, rfl, E231, hm232⟩
      subst hj226
      refine AWp.ret ?_
      obtain rfl := Option.some.inj hm232
      simp [retQ, E231, hT, hlt109, hf172, hf179, hc26, hc73, hc194, hc222]
    refine AWp.region [] (by decide +kernel) ?_
    rcases ite_some hm227 with ⟨hc233, hm234⟩ | ⟨hc233, hm235⟩
    rotate_left
    · clear hm227
      simp [E189, hT, hlt109, hf172, hf179, hc26, hc73, hc194, hc222, hc233]
      refine hk230 _ _ ⟨false, ?_, ?_, hm235⟩ <;> first | rfl | simp [E189, hT, hlt109, hf172, hf179, hc26, hc73, hc194, hc222, hc233]
    clear hm227
    obtain ⟨x236, hx237, hm238⟩ := bind1_some hm234
    clear hm234
    try dsimp only at hm238
    simp [E189, hT, hlt109, hf172, hf179, hc26, hc73, hc194, hc222, hc233]
    refine CallAt.fn (r_ref01_Same T hx237) ?_
    simp [E189, hT, hlt109, hf172, hf179, hc26, hc73, hc194, hc222, hc233]
    refine hk230 _ _ ⟨x236, ?_, ?_, hm238⟩ <;> first | rfl | simp [E189, hT, hlt109, hf172, hf179, hc26, hc73, hc194, hc222, hc233]
  clear hm196
  simp [E189, hT, hlt109, hf172, hf179, hc26, hc73, hc194, hc222]
  apply gb221
  refine AWp.skip ?_
  apply hk215
  obtain ⟨j239, hj240, hm241⟩ := joinB_some hm223
  clear hm223
  refine AWp.seqP (fun fr h => ∃ (v242 : Bool), hset [[]] 0 [AV.slice .frz (List.map (fun n => AV.sc (Value.int .i64 n)) d48.l), AV.sc (.int .i64 d48.atF)] = h ∧ fr.env 2 = AV.sc (.bool v242) ∧ j239 v242 = some r0) (fun K243 hk244 => ?_) ?_
  rotate_left
  · clear hm241
    rintro fr245 h245 ⟨v242, rfl, E245, hm246⟩
    subst hj240
    refine AWp.ret ?_
    obtain rfl := Option.some.inj hm246
    simp [retQ, E245, hT, hlt109, hf172, hf179, hc26, hc73, hc194, hc222]
  refine AWp.regionD [] false mixed (by decide +kernel) (by decide +kernel) ?_
  obtain ⟨x247, hx248, hm249⟩ := bind1_some hm241
  clear hm241
  try dsimp only at hm249
  simp [E189, hT, hlt109, hf172, hf179, hc26, hc73, hc194, hc222]
  refine CallAtD.fn (r_ref23_Fun T hx248) (by simp) ?_
  obtain ⟨x250, hx251, hm252⟩ := bind1_some hm249
  clear hm249
  try dsimp only at hm252
  simp [E189, hT, hlt109, hf172, hf179, hc26, hc73, hc194, hc222]
  refine CallAtD.fn (r_ref01_Same T hx251) (by simp) ?_
  rcases ite_some hm252 with ⟨hc253, hm254⟩ | ⟨hc253, hm255⟩
  rotate_left
  · clear hm252
    simp [E189, hT, hlt109, hf172, hf179, hc26, hc73, hc194, hc222, hc253]
    refine hk244 _ _ ⟨false, ?_, ?_, hm255⟩ <;> first | rfl | simp [E189, hT, hlt109, hf172, hf179, hc26, hc73, hc194, hc222, hc253]
  clear hm252
  obtain ⟨x256, hx257, hm258⟩ := bind1_some hm254
  clear hm254
  try dsimp only at hm258
  simp [E189, hT, hlt109, hf172, hf179, hc26, hc73, hc194, hc222, hc253]
  refine CallAtD.fn (r_ref23_Pair T hx257) (by simp) ?_
  obtain ⟨x259, hx260, hm261⟩ := bind1_some hm258
  clear hm258
  try dsimp only at hm261
  simp [E189, hT, hlt109, hf172, hf179, hc26, hc73, hc194, hc222, hc253]
  refine CallAtD.fn (r_ref01_Same T hx260) (by simp) ?_
  simp [E189, hT, hlt109, hf172, hf179, hc26, hc73, hc194, hc222, hc253]
  refine hk244 _ _ ⟨x259, ?_, ?_, hm261⟩ <;> first | rfl | simp [E189, hT, hlt109, hf172, hf179, hc26, hc73, hc194, hc222, hc253]

end Go.Proofs.YtdihelfnjememaaDoor
