/- The program's functions do what the models say. -/
import Derived.Test.YtnabbjnhemmkhaaDoorRR06
import Derived.Test.YtnabbjnhemmkhaaDoorRM
set_option maxRecDepth 20000
set_option maxHeartbeats 4000000
set_option linter.unusedSimpArgs false
set_option linter.unusedVariables false
namespace Go.Proofs.YtnabbjnhemmkhaaDoor
open Go Go.Abs Go.Mdl

theorem enters86 : entersB Tryd.prog 86 = true := by kernel_rfl

theorem rg_ref02_infer (T : Tabs) : ∀ (n : Nat), (∀ {H : Heap} {a0 : (List Ty)} {a1 : Tm} {r0 : Ty} {r1 : Int} (hm : ref02_infer n a0 a1 = some (r0, r1)), ACall Tryd.prog T 86 [AV.slice .frz (List.map Ty.av a0), Tm.av a1] H (AV.tuple [Ty.av r0, AV.sc (.int .i64 r1)]) H) := by
  intro n
  induction n with
  | zero =>
    skip
    all_goals
      intros
      rename_i hm
      cases hm
  | succ n ih =>
    intro H a0 a1 r0 r1 hm
    rw [ref02_infer] at hm
    refine ACallP.intro (fn := Tryd.f86) Tryd.func86 rfl enters86 (Nat.le_of_ble_eq_true rfl) ?_
    refine AWp.sr [] fun K1 hk2 => ?_
    simp
    apply hk2
    refine AWp.seqK fun K3 hk4 => ?_
    refine AWp.sr [] fun K5 hk6 => ?_
    simp
    apply hk6
    refine AWp.condK fun A7 B8 ga9 gb10 => ?_
    rcases ite_some hm with ⟨hc11, hm12⟩ | ⟨hc11, hm13⟩
    · clear hm
      simp [hc11]
      apply ga9
      refine AWp.seqK fun K14 hk15 => ?_
      refine AWp.sr [] fun K16 hk17 => ?_
      simp [hc11]
      apply hk17
      refine AWp.condK fun A18 B19 ga20 gb21 => ?_
      rcases ite_some hm12 with ⟨hc22, hm23⟩ | ⟨hc22, hm24⟩
      · clear hm12
        simp [hc11, hc22]
        apply ga20
        refine AWp.sr [] fun K25 hk26 => ?_
        simp [hc11, hc22]
        apply hk26
        refine AWp.ret ?_
        simp only [Option.some.injEq, Prod.mk.injEq] at hm23
        obtain ⟨rfl, rfl⟩ := hm23
        simp [retQ, hc11, hc22]
      clear hm12
      simp [hc11, hc22]
      apply gb21
      refine AWp.skip ?_
      apply hk15
      refine AWp.sr [] fun K27 hk28 => ?_
      obtain ⟨x29, hx30, hm31⟩ := bind1_some hm24
      clear hm24
      try dsimp only at hm31
      obtain ⟨x32, hx33, hm34⟩ := bind1_some hm31
      clear hm31
      try dsimp only at hm34
      simp [hx30, hc11, hc22]
      refine CallAt.fn (r_ref01_Copy T hx33) ?_
      simp [hx30, hc11, hc22]
      apply hk28
      refine AWp.ret ?_
      simp only [Option.some.injEq, Prod.mk.injEq] at hm34
      obtain ⟨rfl, rfl⟩ := hm34
      simp [retQ, hx30, hc11, hc22]
    clear hm
    simp [hc11]
    apply gb10
    refine AWp.skip ?_
    apply hk4
    refine AWp.seqK fun K35 hk36 => ?_
    refine AWp.sr [] fun K37 hk38 => ?_
    simp [hc11]
    apply hk38
    refine AWp.condK fun A39 B40 ga41 gb42 => ?_
    rcases ite_some hm13 with ⟨hc43, hm44⟩ | ⟨hc43, hm45⟩
    · clear hm13
      simp [hc11, hc43]
      apply ga41
      refine AWp.seqK fun K46 hk47 => ?_
      refine AWp.regionD [] false mixed (by decide +kernel) (by decide +kernel) ?_
      obtain ⟨ha48, hm49⟩ := chk_some hm44
      clear hm44
      simp [hc11, hc43]
      refine AppAt.own (f := Ty.av) a0 [a1.typeF] (OwnT.full (D := [])) ap27 (by intro x; simp) ha48 (by first | rfl | simp) (by first | rfl | simp) ?_
      obtain ⟨x50, hx51, hm52⟩ := bind1_some hm49
      clear hm49
      try dsimp only at hm52
      obtain ⟨x53, x54, hx55, hm56⟩ := bind2_some hm52
      clear hm52
      try dsimp only at hm56
      simp [hx51, hc11, hc43]
      refine CallAtD.fn (ih hx55) (by simp) ?_
      simp [hx51, hc11, hc43]
      apply hk47
      refine AWp.seqK fun K57 hk58 => ?_
      refine AWp.sr [] fun K59 hk60 => ?_
      simp [hx51, hc11, hc43]
      apply hk60
      refine AWp.condK fun A61 B62 ga63 gb64 => ?_
      rcases ite_some hm56 with ⟨hc65, hm66⟩ | ⟨hc65, hm67⟩
      · clear hm56
        simp [hx51, hc11, hc43, hc65]
        apply ga63
        refine AWp.sr [] fun K68 hk69 => ?_
        simp [hx51, hc11, hc43, hc65]
        apply hk69
        refine AWp.ret ?_
        simp only [Option.some.injEq, Prod.mk.injEq] at hm66
        obtain ⟨rfl, rfl⟩ := hm66
        simp [retQ, hx51, hc11, hc43, hc65]
      clear hm56
      simp [hx51, hc11, hc43, hc65]
      apply gb64
      refine AWp.skip ?_
      apply hk58
      refine AWp.sr [] fun K70 hk71 => ?_
      obtain ⟨x72, hx73, hm74⟩ := bind1_some hm67
      clear hm67
      try dsimp only at hm74
      simp [hx51, hc11, hc43, hc65]
      refine CallAt.fn (r_ref01_Fun T hx73) ?_
      obtain ⟨x75, x76, hx77, hm78⟩ := bind2_some hm74
      clear hm74
      try dsimp only at hm78
      simp [hx51, hc11, hc43, hc65]
      refine CallAt.fn (r_ref02_ok T hx77) ?_
      simp [hx51, hc11, hc43, hc65]
      apply hk71
      refine AWp.ret ?_
      simp only [Option.some.injEq, Prod.mk.injEq] at hm78
      obtain ⟨rfl, rfl⟩ := hm78
      simp [retQ, hx51, hc11, hc43, hc65]
    clear hm13
    simp [hc11, hc43]
    apply gb42
    refine AWp.skip ?_
    apply hk36
    refine AWp.sr [] fun K79 hk80 => ?_
    simp [hc11, hc43]
    apply hk80
    refine AWp.seqK fun K81 hk82 => ?_
    refine AWp.sr [] fun K83 hk84 => ?_
    simp [hc11, hc43]
    apply hk84
    obtain ⟨hok85, hm86⟩ := chk_some hm45
    clear hm45
    obtain ⟨F87, hF88, hm89⟩ := joinB_some hm86
    clear hm86
    try dsimp only at hm89
    obtain ⟨out90, hl91, hmB92⟩ := bind1_some hm89
    clear hm89
    refine AWp.blockK fun Q93 nn94 ne95 nx96 nr97 => ?_
    refine AWp.loopF (fun n98 fr h => ∃ (i99 : Nat) (j100 : Int) (v101 : (List Ty)) (tg0_102 : Tag) (g3_102 : Nat) (g4_102 : Nat), H = h ∧ (fr.env 0 = AV.slice .frz (List.map Ty.av a0) ∧ fr.env 3 = AV.lptr 3 g3_102 0 ∧ fr.env 4 = AV.lptr 4 g4_102 0 ∧ fr.env 8 = AV.slice tg0_102 (List.map Ty.av v101) ∧ fr.env 67 = AV.slice .frz (List.map Tm.av a1.args) ∧ fr.env 68 = AV.sc (.int .i64 (llen a1.args)) ∧ fr.env 69 = AV.sc (.int .i64 j100) ∧ fr.gen 3 = g3_102 ∧ fr.box 3 = some [AV.sc (.int .i64 a1.kind), AV.sc (.int .i64 a1.index), AV.sc (.int .i64 a1.typeF.kind), AV.slice .frz (List.map Ty.av a1.typeF.args), AV.slice .frz (List.map Tm.av a1.args)] ∧ fr.gen 4 = g4_102 ∧ fr.box 4 = some [AV.sc (.int .i64 0), AV.slice .full []]) ∧ OwnT fr.tab fr.tgen [86] tg0_102 (List.length v101) ∧ j100 = (i99 : Int) ∧ i99 + n98 = List.length a1.args ∧ forR F87 (List.drop i99 a1.args) i99 v101 = some out90) (List.length a1.args) ?_ ?_
    · refine ⟨0, 0, [], .full, 1, 1, ?_, ⟨?_, ?_, ?_, ?_, ?_, ?_, ?_, ?_, ?_, ?_, ?_⟩, OwnT.full, rfl, (by simp), hl91⟩ <;> first | rfl | simp [hc11, hc43]
    rintro n98 fr102 h102 ⟨i99, j100, v101, tg0_102, g3_102, g4_102, rfl, E102, o0_102, hj103, hi104, hl91⟩ K105 hK106
    rcases n98 with _ | n98
    rotate_left
    · have hlt107 := ilt_ofJ (l := a1.args) hj103 (by omega)
      obtain ⟨x108, hdn98, hg109⟩ := drop_ltJ (l := a1.args) hj103 (by omega)
      rw [hdn98, forR_cons] at hl91
      obtain ⟨c110, hb111, hk112⟩ := bind1_some hl91
      clear hl91
      rw [hF88, ← hj103] at hb111
      try dsimp only at hb111
      refine AWp.sr [] fun K113 hk114 => ?_
      simp [E102, hlt107, hg109, hc11, hc43]
      apply hk114
      refine AWp.seqK fun K115 hk116 => ?_
      refine AWp.condK fun A117 B118 ga119 gb120 => ?_
      simp [E102, hlt107, hg109, hc11, hc43]
      apply ga119
      refine AWp.skip ?_
      apply hk116
      refine AWp.seqK fun K121 hk122 => ?_
      refine AWp.blockK fun Q123 nn124 ne125 nx126 nr127 => ?_
      refine AWp.sr [] fun K128 hk129 => ?_
      simp [E102, hlt107, hg109, hc11, hc43]
      apply hk129
      refine AWp.sr [] fun K130 hk131 => ?_
      obtain ⟨x132, x133, hx134, hm135⟩ := bind2_some hb111
      clear hb111
      try dsimp only at hm135
      simp [E102, hlt107, hg109, hc11, hc43]
      refine CallAt.fn (ih hx134) ?_
      simp [E102, hlt107, hg109, hc11, hc43]
      apply hk131
      refine AWp.seqK fun K136 hk137 => ?_
      refine AWp.sr [] fun K138 hk139 => ?_
      simp [E102, hlt107, hg109, hc11, hc43]
      apply hk139
      refine AWp.condK fun A140 B141 ga142 gb143 => ?_
      rcases ite_some hm135 with ⟨hc144, hm145⟩ | ⟨hc144, hm146⟩
      · clear hm135
        simp [E102, hlt107, hg109, hc11, hc43, hc144]
        apply ga142
        refine AWp.sr [] fun K147 hk148 => ?_
        simp [E102, hlt107, hg109, hc11, hc43, hc144]
        apply hk148
        refine AWp.ret ?_
        apply nr127
        apply nr97
        obtain rfl := Option.some.inj hm145
        rw [ctlK_ret] at hk112
        obtain rfl := Option.some.inj hk112
        rw [sumK_inr] at hmB92
        try dsimp only at hmB92
        simp only [Option.some.injEq, Prod.mk.injEq] at hmB92
        obtain ⟨rfl, rfl⟩ := hmB92
        simp [retQ, E102, hlt107, hg109, hc11, hc43, hc144]
      clear hm135
      simp [E102, hlt107, hg109, hc11, hc43, hc144]
      apply gb143
      refine AWp.skip ?_
      apply hk137
      refine AWp.region [] (by decide +kernel) ?_
      obtain ⟨ha149, hm150⟩ := chk_some hm146
      clear hm146
      simp [E102, hlt107, hg109, hc11, hc43, hc144]
      refine AppAt2.own (f := Ty.av) v101 [x132] o0_102 ap27 (by intro x; simp) ha149 (by first | rfl | simp) (by first | rfl | simp) ?_
      simp [E102, hlt107, hg109, hc11, hc43, hc144]
      apply nn124
      apply hk122
      refine AWp.region [] (by decide +kernel) ?_
      simp [E102, hlt107, hg109, hc11, hc43, hc144]
      obtain rfl := Option.some.inj hm150
      rw [ctlK_next] at hk112
      refine hK106 _ _ n98 (Nat.lt_succ_self _) ⟨(i99 + 1), (iadd .i64 j100 1), (lapp v101 [x132]), (.loc 86 (fr102.tgen 86 + 1)), g3_102, g4_102, ?_, ⟨?_, ?_, ?_, ?_, ?_, ?_, ?_, ?_, ?_, ?_, ?_⟩, (OwnT.mono (D := [86]) (OwnT.new (D := [86]) (d := 86) (by decide)) (by decide)), (iadd_idxJ hj103 (by omega) hok85), (by omega), hk112⟩ <;> first | rfl | simp [E102, hlt107, hg109, hc11, hc43, hc144]
    have hlt107 := ilt_notJ (l := a1.args) hj103 (by omega)
    refine AWp.sr [] fun K151 hk152 => ?_
    simp [E102, hlt107, hc11, hc43]
    apply hk152
    refine AWp.seqK fun K153 hk154 => ?_
    refine AWp.condK fun A155 B156 ga157 gb158 => ?_
    simp [E102, hlt107, hc11, hc43]
    apply gb158
    refine AWp.exit ?_
    apply ne95
    rw [List.drop_eq_nil_of_le (by omega), forR_nil] at hl91
    obtain rfl := Option.some.inj hl91
    rw [sumK_inl] at hmB92
    try dsimp only at hmB92
    apply hk82
    refine AWp.sr [] fun K159 hk160 => ?_
    obtain ⟨x161, hx162, hm163⟩ := bind1_some hmB92
    clear hmB92
    try dsimp only at hm163
    simp [E102, hlt107, hc11, hc43]
    refine CallAt.fn (r_ref01_Nat T hx162) ?_
    obtain ⟨x164, hx165, hm166⟩ := bind1_some hm163
    clear hm163
    try dsimp only at hm166
    simp [E102, hlt107, hc11, hc43]
    refine CallAt.fn (r_ref01_List T hx165) ?_
    simp [E102, hlt107, hc11, hc43]
    apply hk160
    refine AWp.seqK fun K167 hk168 => ?_
    refine AWp.sr [] fun K169 hk170 => ?_
    simp [E102, hlt107, hc11, hc43]
    apply hk170
    refine AWp.blockK fun Q171 nn172 ne173 nx174 nr175 => ?_
    refine AWp.sr [] fun K176 hk177 => ?_
    simp [E102, hlt107, hc11, hc43]
    apply hk177
    refine AWp.condK fun A178 B179 ga180 gb181 => ?_
    rcases ite_some hm166 with ⟨hc182, hm183⟩ | ⟨hc182, hm184⟩
    · clear hm166
      simp [E102, hlt107, hc11, hc43, hc182]
      apply ga180
      refine AWp.seqK fun K185 hk186 => ?_
      obtain ⟨j187, hj188, hm189⟩ := joinB_some hm183
      clear hm183
      refine AWp.seqP (fun fr h => ∃ (v190 : Bool) (tg0_193 : Tag) (g4_193 : Nat), H = h ∧ (fr.env 4 = AV.lptr 4 g4_193 0 ∧ fr.env 8 = AV.slice tg0_193 (List.map Ty.av v101) ∧ fr.env 111 = AV.sc (.bool v190) ∧ fr.gen 4 = g4_193 ∧ fr.box 4 = some [AV.sc (.int .i64 0), AV.slice .full []]) ∧ OwnT fr.tab fr.tgen [86] tg0_193 (List.length v101) ∧ j187 v190 = some (r0, r1)) (fun K191 hk192 => ?_) ?_
      rotate_left
      · clear hm189
        rintro fr193 h193 ⟨v190, tg0_193, g4_193, rfl, E193, o0_193, hm194⟩
        subst hj188
        refine AWp.condK fun A195 B196 ga197 gb198 => ?_
        rcases ite_some hm194 with ⟨hc199, hm200⟩ | ⟨hc199, hm201⟩
        · clear hm194
          simp [E193, hlt107, hc11, hc43, hc182, hc199]
          apply ga197
          refine AWp.sr [] fun K202 hk203 => ?_
          simp [E193, hlt107, hc11, hc43, hc182, hc199]
          apply hk203
          refine AWp.ret ?_
          apply nr175
          simp only [Option.some.injEq, Prod.mk.injEq] at hm200
          obtain ⟨rfl, rfl⟩ := hm200
          simp [retQ, E193, hlt107, hc11, hc43, hc182, hc199]
        clear hm194
        simp [E193, hlt107, hc11, hc43, hc182, hc199]
        apply gb198
        refine AWp.skip ?_
        apply hk186
        refine AWp.sr [] fun K204 hk205 => ?_
        obtain ⟨x206, hx207, hm208⟩ := bind1_some hm201
        clear hm201
        try dsimp only at hm208
        obtain ⟨x209, hx210, hm211⟩ := bind1_some hm208
        clear hm208
        try dsimp only at hm211
        simp [E193, hlt107, hx207, hx210, hc11, hc43, hc182, hc199]
        apply hk205
        refine AWp.ret ?_
        apply nr175
        simp only [Option.some.injEq, Prod.mk.injEq] at hm211
        obtain ⟨rfl, rfl⟩ := hm211
        simp [retQ, E193, hlt107, hx207, hx210, hc11, hc43, hc182, hc199]
      refine AWp.regionD [] false mixed (by decide +kernel) (by decide +kernel) ?_
      obtain ⟨x212, hx213, hm214⟩ := bind1_some hm189
      clear hm189
      try dsimp only at hm214
      rcases ite_some hm214 with ⟨hc215, hm216⟩ | ⟨hc215, hm217⟩
      · clear hm214
        simp [E102, hlt107, hx213, hc11, hc43, hc182, hc215]
        refine hk192 _ _ ⟨true, tg0_102, g4_102, ?_, ⟨?_, ?_, ?_, ?_, ?_⟩, (OwnT.mono (D := [86]) o0_102 (by decide)), hm216⟩ <;> first | rfl | simp [E102, hlt107, hx213, hc11, hc43, hc182, hc215]
      clear hm214
      obtain ⟨x218, hx219, hm220⟩ := bind1_some hm217
      clear hm217
      try dsimp only at hm220
      obtain ⟨x221, hx222, hm223⟩ := bind1_some hm220
      clear hm220
      try dsimp only at hm223
      obtain ⟨x224, hx225, hm226⟩ := bind1_some hm223
      clear hm223
      try dsimp only at hm226
      simp [E102, hlt107, hx213, hx219, hx222, hc11, hc43, hc182, hc215]
      refine CallAtD.fn (r_ref01_Same T hx225) (by simp) ?_
      simp [E102, hlt107, hx213, hx219, hx222, hc11, hc43, hc182, hc215]
      refine hk192 _ _ ⟨(bnot x224), tg0_102, g4_102, ?_, ⟨?_, ?_, ?_, ?_, ?_⟩, (OwnT.mono (D := [86]) o0_102 (by decide)), hm226⟩ <;> first | rfl | simp [E102, hlt107, hx213, hx219, hx222, hc11, hc43, hc182, hc215]
    clear hm166
    simp [E102, hlt107, hc11, hc43, hc182]
    apply gb181
    refine AWp.sr [] fun K227 hk228 => ?_
    simp [E102, hlt107, hc11, hc43, hc182]
    apply hk228
    refine AWp.condK fun A229 B230 ga231 gb232 => ?_
    rcases ite_some hm184 with ⟨hc233, hm234⟩ | ⟨hc233, hm235⟩
    · clear hm184
      simp [E102, hlt107, hc11, hc43, hc182, hc233]
      apply ga231
      refine AWp.sr [] fun K236 hk237 => ?_
      simp [E102, hlt107, hc11, hc43, hc182, hc233]
      apply hk237
      refine AWp.ret ?_
      apply nr175
      simp only [Option.some.injEq, Prod.mk.injEq] at hm234
      obtain ⟨rfl, rfl⟩ := hm234
      simp [retQ, E102, hlt107, hc11, hc43, hc182, hc233]
    clear hm184
    simp [E102, hlt107, hc11, hc43, hc182, hc233]
    apply gb232
    refine AWp.sr [] fun K238 hk239 => ?_
    simp [E102, hlt107, hc11, hc43, hc182, hc233]
    apply hk239
    refine AWp.condK fun A240 B241 ga242 gb243 => ?_
    rcases ite_some hm235 with ⟨hc244, hm245⟩ | ⟨hc244, hm246⟩
    · clear hm235
      simp [E102, hlt107, hc11, hc43, hc182, hc233, hc244]
      apply ga242
      refine AWp.seqK fun K247 hk248 => ?_
      refine AWp.seqK fun K249 hk250 => ?_
      refine AWp.regionD [] false mixed (by decide +kernel) (by decide +kernel) ?_
      obtain ⟨x251, hx252, hm253⟩ := bind1_some hm245
      clear hm245
      try dsimp only at hm253
      obtain ⟨x254, hx255, hm256⟩ := bind1_some hm253
      clear hm253
      try dsimp only at hm256
      simp [E102, hlt107, hx252, hc11, hc43, hc182, hc233, hc244]
      refine CallAtD.fn (r_ref01_Same T hx255) (by simp) ?_
      simp [E102, hlt107, hx252, hc11, hc43, hc182, hc233, hc244]
      apply hk250
      refine AWp.condK fun A257 B258 ga259 gb260 => ?_
      rcases ite_some hm256 with ⟨hc261, hm262⟩ | ⟨hc261, hm263⟩
      rotate_left
      · clear hm256
        simp [E102, hlt107, hx252, hc11, hc43, hc182, hc233, hc244, hc261]
        apply ga259
        refine AWp.sr [] fun K264 hk265 => ?_
        simp [E102, hlt107, hx252, hc11, hc43, hc182, hc233, hc244, hc261]
        apply hk265
        refine AWp.ret ?_
        apply nr175
        simp only [Option.some.injEq, Prod.mk.injEq] at hm263
        obtain ⟨rfl, rfl⟩ := hm263
        simp [retQ, E102, hlt107, hx252, hc11, hc43, hc182, hc233, hc244, hc261]
      clear hm256
      simp [E102, hlt107, hx252, hc11, hc43, hc182, hc233, hc244, hc261]
      apply gb260
      refine AWp.skip ?_
      apply hk248
      refine AWp.sr [] fun K266 hk267 => ?_
      simp [E102, hlt107, hx252, hc11, hc43, hc182, hc233, hc244, hc261]
      apply hk267
      refine AWp.ret ?_
      apply nr175
      simp only [Option.some.injEq, Prod.mk.injEq] at hm262
      obtain ⟨rfl, rfl⟩ := hm262
      simp [retQ, E102, hlt107, hx252, hc11, hc43, hc182, hc233, hc244, hc261]
    clear hm235
    simp [E102, hlt107, hc11, hc43, hc182, hc233, hc244]
    apply gb243
    refine AWp.sr [] fun K268 hk269 => ?_
    simp [E102, hlt107, hc11, hc43, hc182, hc233, hc244]
    apply hk269
    refine AWp.condK fun A270 B271 ga272 gb273 => ?_
    rcases ite_some hm246 with ⟨hc274, hm275⟩ | ⟨hc274, hm276⟩
    · clear hm246
      simp [E102, hlt107, hc11, hc43, hc182, hc233, hc244, hc274]
      apply ga272
      refine AWp.seqK fun K277 hk278 => ?_
      obtain ⟨j279, hj280, hm281⟩ := joinB_some hm275
      clear hm275
      refine AWp.seqP (fun fr h => ∃ (v282 : Bool) (g3_285 : Nat) (g4_285 : Nat), H = h ∧ (fr.env 3 = AV.lptr 3 g3_285 0 ∧ fr.env 4 = AV.lptr 4 g4_285 0 ∧ fr.env 162 = AV.sc (.bool v282) ∧ fr.gen 3 = g3_285 ∧ fr.box 3 = some [AV.sc (.int .i64 a1.kind), AV.sc (.int .i64 a1.index), AV.sc (.int .i64 a1.typeF.kind), AV.slice .frz (List.map Ty.av a1.typeF.args), AV.slice .frz (List.map Tm.av a1.args)] ∧ fr.gen 4 = g4_285 ∧ fr.box 4 = some [AV.sc (.int .i64 0), AV.slice .full []]) ∧ j279 v282 = some (r0, r1)) (fun K283 hk284 => ?_) ?_
      rotate_left
      · clear hm281
        rintro fr285 h285 ⟨v282, g3_285, g4_285, rfl, E285, hm286⟩
        subst hj280
        refine AWp.condK fun A287 B288 ga289 gb290 => ?_
        rcases ite_some hm286 with ⟨hc291, hm292⟩ | ⟨hc291, hm293⟩
        · clear hm286
          simp [E285, hlt107, hc11, hc43, hc182, hc233, hc244, hc274, hc291]
          apply ga289
          refine AWp.sr [] fun K294 hk295 => ?_
          simp [E285, hlt107, hc11, hc43, hc182, hc233, hc244, hc274, hc291]
          apply hk295
          refine AWp.ret ?_
          apply nr175
          simp only [Option.some.injEq, Prod.mk.injEq] at hm292
          obtain ⟨rfl, rfl⟩ := hm292
          simp [retQ, E285, hlt107, hc11, hc43, hc182, hc233, hc244, hc274, hc291]
        clear hm286
        simp [E285, hlt107, hc11, hc43, hc182, hc233, hc244, hc274, hc291]
        apply gb290
        refine AWp.skip ?_
        apply hk278
        refine AWp.sr [] fun K296 hk297 => ?_
        obtain ⟨x298, hx299, hm300⟩ := bind1_some hm293
        clear hm293
        try dsimp only at hm300
        simp [E285, hlt107, hc11, hc43, hc182, hc233, hc244, hc274, hc291]
        refine CallAt.fn (r_ref01_Copy T hx299) ?_
        simp [E285, hlt107, hc11, hc43, hc182, hc233, hc244, hc274, hc291]
        apply hk297
        refine AWp.ret ?_
        apply nr175
        simp only [Option.some.injEq, Prod.mk.injEq] at hm300
        obtain ⟨rfl, rfl⟩ := hm300
        simp [retQ, E285, hlt107, hc11, hc43, hc182, hc233, hc244, hc274, hc291]
      refine AWp.regionD [] false mixed (by decide +kernel) (by decide +kernel) ?_
      obtain ⟨x301, hx302, hm303⟩ := bind1_some hm281
      clear hm281
      try dsimp only at hm303
      obtain ⟨x304, hx305, hm306⟩ := bind1_some hm303
      clear hm303
      try dsimp only at hm306
      simp [E102, hlt107, hx302, hc11, hc43, hc182, hc233, hc244, hc274]
      refine CallAtD.fn (r_ref01_Same T hx305) (by simp) ?_
      rcases ite_some hm306 with ⟨hc307, hm308⟩ | ⟨hc307, hm309⟩
      rotate_left
      · clear hm306
        simp [E102, hlt107, hx302, hc11, hc43, hc182, hc233, hc244, hc274, hc307]
        refine hk284 _ _ ⟨true, g3_102, g4_102, ?_, ⟨?_, ?_, ?_, ?_, ?_, ?_, ?_⟩, hm309⟩ <;> first | rfl | simp [E102, hlt107, hx302, hc11, hc43, hc182, hc233, hc244, hc274, hc307]
      clear hm306
      obtain ⟨x310, hx311, hm312⟩ := bind1_some hm308
      clear hm308
      try dsimp only at hm312
      obtain ⟨x313, hx314, hm315⟩ := bind1_some hm312
      clear hm312
      try dsimp only at hm315
      simp [E102, hlt107, hx302, hx311, hc11, hc43, hc182, hc233, hc244, hc274, hc307]
      refine CallAtD.fn (r_ref01_Fun T hx314) (by simp) ?_
      obtain ⟨x316, hx317, hm318⟩ := bind1_some hm315
      clear hm315
      try dsimp only at hm318
      simp [E102, hlt107, hx302, hx311, hc11, hc43, hc182, hc233, hc244, hc274, hc307]
      refine CallAtD.fn (r_ref01_Fun T hx317) (by simp) ?_
      obtain ⟨x319, hx320, hm321⟩ := bind1_some hm318
      clear hm318
      try dsimp only at hm321
      simp [E102, hlt107, hx302, hx311, hc11, hc43, hc182, hc233, hc244, hc274, hc307]
      refine CallAtD.fn (r_ref01_Same T hx320) (by simp) ?_
      rcases ite_some hm321 with ⟨hc322, hm323⟩ | ⟨hc322, hm324⟩
      rotate_left
      · clear hm321
        simp [E102, hlt107, hx302, hx311, hc11, hc43, hc182, hc233, hc244, hc274, hc307, hc322]
        refine hk284 _ _ ⟨true, g3_102, g4_102, ?_, ⟨?_, ?_, ?_, ?_, ?_, ?_, ?_⟩, hm324⟩ <;> first | rfl | simp [E102, hlt107, hx302, hx311, hc11, hc43, hc182, hc233, hc244, hc274, hc307, hc322]
      clear hm321
      obtain ⟨x325, hx326, hm327⟩ := bind1_some hm323
      clear hm323
      try dsimp only at hm327
      obtain ⟨x328, hx329, hm330⟩ := bind1_some hm327
      clear hm327
      try dsimp only at hm330
      simp [E102, hlt107, hx302, hx311, hx326, hc11, hc43, hc182, hc233, hc244, hc274, hc307, hc322]
      refine CallAtD.fn (r_ref01_Same T hx329) (by simp) ?_
      simp [E102, hlt107, hx302, hx311, hx326, hc11, hc43, hc182, hc233, hc244, hc274, hc307, hc322]
      refine hk284 _ _ ⟨(bnot x328), g3_102, g4_102, ?_, ⟨?_, ?_, ?_, ?_, ?_, ?_, ?_⟩, hm330⟩ <;> first | rfl | simp [E102, hlt107, hx302, hx311, hx326, hc11, hc43, hc182, hc233, hc244, hc274, hc307, hc322]
    clear hm246
    simp [E102, hlt107, hc11, hc43, hc182, hc233, hc244, hc274]
    apply gb273
    refine AWp.sr [] fun K331 hk332 => ?_
    simp [E102, hlt107, hc11, hc43, hc182, hc233, hc244, hc274]
    apply hk332
    refine AWp.condK fun A333 B334 ga335 gb336 => ?_
    rcases ite_some hm276 with ⟨hc337, hm338⟩ | ⟨hc337, hm339⟩
    · clear hm276
      simp [E102, hlt107, hc11, hc43, hc182, hc233, hc244, hc274, hc337]
      apply ga335
      refine AWp.sr [] fun K340 hk341 => ?_
      simp [E102, hlt107, hc11, hc43, hc182, hc233, hc244, hc274, hc337]
      apply hk341
      refine AWp.ret ?_
      apply nr175
      simp only [Option.some.injEq, Prod.mk.injEq] at hm338
      obtain ⟨rfl, rfl⟩ := hm338
      simp [retQ, E102, hlt107, hc11, hc43, hc182, hc233, hc244, hc274, hc337]
    clear hm276
    simp [E102, hlt107, hc11, hc43, hc182, hc233, hc244, hc274, hc337]
    apply gb336
    refine AWp.sr [] fun K342 hk343 => ?_
    simp [E102, hlt107, hc11, hc43, hc182, hc233, hc244, hc274, hc337]
    apply hk343
    refine AWp.condK fun A344 B345 ga346 gb347 => ?_
    rcases ite_some hm339 with ⟨hc348, hm349⟩ | ⟨hc348, hm350⟩
    · clear hm339
      simp [E102, hlt107, hc11, hc43, hc182, hc233, hc244, hc274, hc337, hc348]
      apply ga346
      refine AWp.seqK fun K351 hk352 => ?_
      obtain ⟨j353, hj354, hm355⟩ := joinB_some hm349
      clear hm349
      refine AWp.seqP (fun fr h => ∃ (v356 : Bool) (g4_359 : Nat) (g14_359 : Nat), H = h ∧ (fr.env 4 = AV.lptr 4 g4_359 0 ∧ fr.env 14 = AV.lptr 14 g14_359 0 ∧ fr.env 185 = AV.sc (.bool v356) ∧ fr.gen 4 = g4_359 ∧ fr.box 4 = some [AV.sc (.int .i64 0), AV.slice .full []] ∧ fr.gen 14 = g14_359 ∧ fr.box 14 = some [AV.sc (.int .i64 x164.kind), AV.slice .frz (List.map Ty.av x164.args)]) ∧ j353 v356 = some (r0, r1)) (fun K357 hk358 => ?_) ?_
      rotate_left
      · clear hm355
        rintro fr359 h359 ⟨v356, g4_359, g14_359, rfl, E359, hm360⟩
        subst hj354
        refine AWp.condK fun A361 B362 ga363 gb364 => ?_
        rcases ite_some hm360 with ⟨hc365, hm366⟩ | ⟨hc365, hm367⟩
        · clear hm360
          simp [E359, hlt107, hc11, hc43, hc182, hc233, hc244, hc274, hc337, hc348, hc365]
          apply ga363
          refine AWp.sr [] fun K368 hk369 => ?_
          simp [E359, hlt107, hc11, hc43, hc182, hc233, hc244, hc274, hc337, hc348, hc365]
          apply hk369
          refine AWp.ret ?_
          apply nr175
          simp only [Option.some.injEq, Prod.mk.injEq] at hm366
          obtain ⟨rfl, rfl⟩ := hm366
          simp [retQ, E359, hlt107, hc11, hc43, hc182, hc233, hc244, hc274, hc337, hc348, hc365]
        clear hm360
        simp [E359, hlt107, hc11, hc43, hc182, hc233, hc244, hc274, hc337, hc348, hc365]
        apply gb364
        refine AWp.skip ?_
        apply hk352
        refine AWp.sr [] fun K370 hk371 => ?_
        simp [E359, hlt107, hc11, hc43, hc182, hc233, hc244, hc274, hc337, hc348, hc365]
        apply hk371
        refine AWp.ret ?_
        apply nr175
        simp only [Option.some.injEq, Prod.mk.injEq] at hm367
        obtain ⟨rfl, rfl⟩ := hm367
        simp [retQ, E359, hlt107, hc11, hc43, hc182, hc233, hc244, hc274, hc337, hc348, hc365]
      refine AWp.regionD [] false mixed (by decide +kernel) (by decide +kernel) ?_
      obtain ⟨x372, hx373, hm374⟩ := bind1_some hm355
      clear hm355
      try dsimp only at hm374
      obtain ⟨x375, hx376, hm377⟩ := bind1_some hm374
      clear hm374
      try dsimp only at hm377
      simp [E102, hlt107, hx373, hc11, hc43, hc182, hc233, hc244, hc274, hc337, hc348]
      refine CallAtD.fn (r_ref01_Same T hx376) (by simp) ?_
      rcases ite_some hm377 with ⟨hc378, hm379⟩ | ⟨hc378, hm380⟩
      rotate_left
      · clear hm377
        simp [E102, hlt107, hx373, hc11, hc43, hc182, hc233, hc244, hc274, hc337, hc348, hc378]
        refine hk358 _ _ ⟨true, g4_102, (fr102.gen 14 + 1), ?_, ⟨?_, ?_, ?_, ?_, ?_, ?_, ?_⟩, hm380⟩ <;> first | rfl | simp [E102, hlt107, hx373, hc11, hc43, hc182, hc233, hc244, hc274, hc337, hc348, hc378]
      clear hm377
      obtain ⟨x381, hx382, hm383⟩ := bind1_some hm379
      clear hm379
      try dsimp only at hm383
      obtain ⟨x384, hx385, hm386⟩ := bind1_some hm383
      clear hm383
      try dsimp only at hm386
      simp [E102, hlt107, hx373, hx382, hc11, hc43, hc182, hc233, hc244, hc274, hc337, hc348, hc378]
      refine CallAtD.fn (r_ref01_Same T hx385) (by simp) ?_
      simp [E102, hlt107, hx373, hx382, hc11, hc43, hc182, hc233, hc244, hc274, hc337, hc348, hc378]
      refine hk358 _ _ ⟨(bnot x384), g4_102, (fr102.gen 14 + 1), ?_, ⟨?_, ?_, ?_, ?_, ?_, ?_, ?_⟩, hm386⟩ <;> first | rfl | simp [E102, hlt107, hx373, hx382, hc11, hc43, hc182, hc233, hc244, hc274, hc337, hc348, hc378]
    clear hm339
    simp [E102, hlt107, hc11, hc43, hc182, hc233, hc244, hc274, hc337, hc348]
    apply gb347
    refine AWp.sr [] fun K387 hk388 => ?_
    simp [E102, hlt107, hc11, hc43, hc182, hc233, hc244, hc274, hc337, hc348]
    apply hk388
    refine AWp.condK fun A389 B390 ga391 gb392 => ?_
    rcases ite_some hm350 with ⟨hc393, hm394⟩ | ⟨hc393, hm395⟩
    · clear hm350
      simp [E102, hlt107, hc11, hc43, hc182, hc233, hc244, hc274, hc337, hc348, hc393]
      apply ga391
      refine AWp.seqK fun K396 hk397 => ?_
      obtain ⟨j398, hj399, hm400⟩ := joinB_some hm394
      clear hm394
      refine AWp.seqP (fun fr h => ∃ (v401 : Bool) (g3_404 : Nat) (g4_404 : Nat), H = h ∧ (fr.env 3 = AV.lptr 3 g3_404 0 ∧ fr.env 4 = AV.lptr 4 g4_404 0 ∧ fr.env 220 = AV.sc (.bool v401) ∧ fr.gen 3 = g3_404 ∧ fr.box 3 = some [AV.sc (.int .i64 a1.kind), AV.sc (.int .i64 a1.index), AV.sc (.int .i64 a1.typeF.kind), AV.slice .frz (List.map Ty.av a1.typeF.args), AV.slice .frz (List.map Tm.av a1.args)] ∧ fr.gen 4 = g4_404 ∧ fr.box 4 = some [AV.sc (.int .i64 0), AV.slice .full []]) ∧ j398 v401 = some (r0, r1)) (fun K402 hk403 => ?_) ?_
      rotate_left
      · clear hm400
        rintro fr404 h404 ⟨v401, g3_404, g4_404, rfl, E404, hm405⟩
        subst hj399
        refine AWp.condK fun A406 B407 ga408 gb409 => ?_
        rcases ite_some hm405 with ⟨hc410, hm411⟩ | ⟨hc410, hm412⟩
        · clear hm405
          simp [E404, hlt107, hc11, hc43, hc182, hc233, hc244, hc274, hc337, hc348, hc393, hc410]
          apply ga408
          refine AWp.sr [] fun K413 hk414 => ?_
          simp [E404, hlt107, hc11, hc43, hc182, hc233, hc244, hc274, hc337, hc348, hc393, hc410]
          apply hk414
          refine AWp.ret ?_
          apply nr175
          simp only [Option.some.injEq, Prod.mk.injEq] at hm411
          obtain ⟨rfl, rfl⟩ := hm411
          simp [retQ, E404, hlt107, hc11, hc43, hc182, hc233, hc244, hc274, hc337, hc348, hc393, hc410]
        clear hm405
        simp [E404, hlt107, hc11, hc43, hc182, hc233, hc244, hc274, hc337, hc348, hc393, hc410]
        apply gb409
        refine AWp.skip ?_
        apply hk397
        refine AWp.sr [] fun K415 hk416 => ?_
        obtain ⟨x417, hx418, hm419⟩ := bind1_some hm412
        clear hm412
        try dsimp only at hm419
        simp [E404, hlt107, hc11, hc43, hc182, hc233, hc244, hc274, hc337, hc348, hc393, hc410]
        refine CallAt.fn (r_ref01_Copy T hx418) ?_
        simp [E404, hlt107, hc11, hc43, hc182, hc233, hc244, hc274, hc337, hc348, hc393, hc410]
        apply hk416
        refine AWp.ret ?_
        apply nr175
        simp only [Option.some.injEq, Prod.mk.injEq] at hm419
        obtain ⟨rfl, rfl⟩ := hm419
        simp [retQ, E404, hlt107, hc11, hc43, hc182, hc233, hc244, hc274, hc337, hc348, hc393, hc410]
      refine AWp.regionD [] false mixed (by decide +kernel) (by decide +kernel) ?_
      obtain ⟨x420, hx421, hm422⟩ := bind1_some hm400
      clear hm400
      try dsimp only at hm422
      obtain ⟨x423, hx424, hm425⟩ := bind1_some hm422
      clear hm422
      try dsimp only at hm425
      simp [E102, hlt107, hx421, hc11, hc43, hc182, hc233, hc244, hc274, hc337, hc348, hc393]
      refine CallAtD.fn (r_ref01_Same T hx424) (by simp) ?_
      rcases ite_some hm425 with ⟨hc426, hm427⟩ | ⟨hc426, hm428⟩
      rotate_left
      · clear hm425
        simp [E102, hlt107, hx421, hc11, hc43, hc182, hc233, hc244, hc274, hc337, hc348, hc393, hc426]
        refine hk403 _ _ ⟨true, g3_102, g4_102, ?_, ⟨?_, ?_, ?_, ?_, ?_, ?_, ?_⟩, hm428⟩ <;> first | rfl | simp [E102, hlt107, hx421, hc11, hc43, hc182, hc233, hc244, hc274, hc337, hc348, hc393, hc426]
      clear hm425
      obtain ⟨x429, hx430, hm431⟩ := bind1_some hm427
      clear hm427
      try dsimp only at hm431
      obtain ⟨x432, hx433, hm434⟩ := bind1_some hm431
      clear hm431
      try dsimp only at hm434
      simp [E102, hlt107, hx421, hx430, hc11, hc43, hc182, hc233, hc244, hc274, hc337, hc348, hc393, hc426]
      refine CallAtD.fn (r_ref01_Fun T hx433) (by simp) ?_
      obtain ⟨x435, hx436, hm437⟩ := bind1_some hm434
      clear hm434
      try dsimp only at hm437
      simp [E102, hlt107, hx421, hx430, hc11, hc43, hc182, hc233, hc244, hc274, hc337, hc348, hc393, hc426]
      refine CallAtD.fn (r_ref01_Fun T hx436) (by simp) ?_
      obtain ⟨x438, hx439, hm440⟩ := bind1_some hm437
      clear hm437
      try dsimp only at hm440
      simp [E102, hlt107, hx421, hx430, hc11, hc43, hc182, hc233, hc244, hc274, hc337, hc348, hc393, hc426]
      refine CallAtD.fn (r_ref01_Fun T hx439) (by simp) ?_
      obtain ⟨x441, hx442, hm443⟩ := bind1_some hm440
      clear hm440
      try dsimp only at hm443
      simp [E102, hlt107, hx421, hx430, hc11, hc43, hc182, hc233, hc244, hc274, hc337, hc348, hc393, hc426]
      refine CallAtD.fn (r_ref01_Same T hx442) (by simp) ?_
      rcases ite_some hm443 with ⟨hc444, hm445⟩ | ⟨hc444, hm446⟩
      rotate_left
      · clear hm443
        simp [E102, hlt107, hx421, hx430, hc11, hc43, hc182, hc233, hc244, hc274, hc337, hc348, hc393, hc426, hc444]
        refine hk403 _ _ ⟨true, g3_102, g4_102, ?_, ⟨?_, ?_, ?_, ?_, ?_, ?_, ?_⟩, hm446⟩ <;> first | rfl | simp [E102, hlt107, hx421, hx430, hc11, hc43, hc182, hc233, hc244, hc274, hc337, hc348, hc393, hc426, hc444]
      clear hm443
      obtain ⟨x447, hx448, hm449⟩ := bind1_some hm445
      clear hm445
      try dsimp only at hm449
      obtain ⟨x450, hx451, hm452⟩ := bind1_some hm449
      clear hm449
      try dsimp only at hm452
      simp [E102, hlt107, hx421, hx430, hx448, hc11, hc43, hc182, hc233, hc244, hc274, hc337, hc348, hc393, hc426, hc444]
      refine CallAtD.fn (r_ref01_Same T hx451) (by simp) ?_
      simp [E102, hlt107, hx421, hx430, hx448, hc11, hc43, hc182, hc233, hc244, hc274, hc337, hc348, hc393, hc426, hc444]
      refine hk403 _ _ ⟨(bnot x450), g3_102, g4_102, ?_, ⟨?_, ?_, ?_, ?_, ?_, ?_, ?_⟩, hm452⟩ <;> first | rfl | simp [E102, hlt107, hx421, hx430, hx448, hc11, hc43, hc182, hc233, hc244, hc274, hc337, hc348, hc393, hc426, hc444]
    clear hm350
    simp [E102, hlt107, hc11, hc43, hc182, hc233, hc244, hc274, hc337, hc348, hc393]
    apply gb392
    refine AWp.sr [] fun K453 hk454 => ?_
    simp [E102, hlt107, hc11, hc43, hc182, hc233, hc244, hc274, hc337, hc348, hc393]
    apply hk454
    refine AWp.condK fun A455 B456 ga457 gb458 => ?_
    rcases ite_some hm395 with ⟨hc459, hm460⟩ | ⟨hc459, hm461⟩
    · clear hm395
      simp [E102, hlt107, hc11, hc43, hc182, hc233, hc244, hc274, hc337, hc348, hc393, hc459]
      apply ga457
      refine AWp.seqK fun K462 hk463 => ?_
      refine AWp.regionD [] false mixed (by decide +kernel) (by decide +kernel) ?_
      obtain ⟨x464, hx465, hm466⟩ := bind1_some hm460
      clear hm460
      try dsimp only at hm466
      obtain ⟨x467, hx468, hm469⟩ := bind1_some hm466
      clear hm466
      try dsimp only at hm469
      obtain ⟨x470, hx471, hm472⟩ := bind1_some hm469
      clear hm469
      try dsimp only at hm472
      simp [E102, hlt107, hx465, hx468, hc11, hc43, hc182, hc233, hc244, hc274, hc337, hc348, hc393, hc459]
      refine CallAtD.fn (r_ref01_Two T hx471) (by simp) ?_
      obtain ⟨x473, x474, hx475, hm476⟩ := bind2_some hm472
      clear hm472
      try dsimp only at hm476
      simp [E102, hlt107, hx465, hx468, hc11, hc43, hc182, hc233, hc244, hc274, hc337, hc348, hc393, hc459]
      refine CallAtD.fn (r_ref02_ok T hx475) (by simp) ?_
      simp [E102, hlt107, hx465, hx468, hc11, hc43, hc182, hc233, hc244, hc274, hc337, hc348, hc393, hc459]
      apply hk463
      refine AWp.ret ?_
      apply nr175
      simp only [Option.some.injEq, Prod.mk.injEq] at hm476
      obtain ⟨rfl, rfl⟩ := hm476
      simp [retQ, E102, hlt107, hx465, hx468, hc11, hc43, hc182, hc233, hc244, hc274, hc337, hc348, hc393, hc459]
    clear hm395
    simp [E102, hlt107, hc11, hc43, hc182, hc233, hc244, hc274, hc337, hc348, hc393, hc459]
    apply gb458
    refine AWp.seqP (fun fr h => ∃ (tg0_486 : Tag) (g3_486 : Nat) (g4_486 : Nat), H = h ∧ (fr.env 3 = AV.lptr 3 g3_486 0 ∧ fr.env 4 = AV.lptr 4 g4_486 0 ∧ fr.env 8 = AV.slice tg0_486 (List.map Ty.av v101) ∧ fr.env 237 = AV.sc (.bool (sel (ieq a1.kind 11) true (ieq a1.kind 12))) ∧ fr.gen 3 = g3_486 ∧ fr.box 3 = some [AV.sc (.int .i64 a1.kind), AV.sc (.int .i64 a1.index), AV.sc (.int .i64 a1.typeF.kind), AV.slice .frz (List.map Ty.av a1.typeF.args), AV.slice .frz (List.map Tm.av a1.args)] ∧ fr.gen 4 = g4_486 ∧ fr.box 4 = some [AV.sc (.int .i64 0), AV.slice .full []]) ∧ OwnT fr.tab fr.tgen [86] tg0_486 (List.length v101)) (fun K477 hk478 => ?_) ?_
    · refine AWp.sr [] fun K479 hk480 => ?_
      simp [E102, hlt107, hc11, hc43, hc182, hc233, hc244, hc274, hc337, hc348, hc393, hc459]
      apply hk480
      refine AWp.condK fun A481 B482 ga483 gb484 => ?_
      rcases Bool.eq_false_or_eq_true (ieq a1.kind 11) with hc485 | hc485
      · simp [E102, hlt107, hc11, hc43, hc182, hc233, hc244, hc274, hc337, hc348, hc393, hc459, hc485]
        apply ga483
        refine AWp.skip ?_
        refine hk478 _ _ ⟨tg0_102, g3_102, g4_102, ?_, ⟨?_, ?_, ?_, ?_, ?_, ?_, ?_, ?_⟩, (OwnT.mono (D := [86]) o0_102 (by decide))⟩ <;> first | rfl | simp [E102, hlt107, hc11, hc43, hc182, hc233, hc244, hc274, hc337, hc348, hc393, hc459, hc485]
      simp [E102, hlt107, hc11, hc43, hc182, hc233, hc244, hc274, hc337, hc348, hc393, hc459, hc485]
      apply gb484
      refine AWp.region [] (by decide +kernel) ?_
      simp [E102, hlt107, hc11, hc43, hc182, hc233, hc244, hc274, hc337, hc348, hc393, hc459, hc485]
      refine hk478 _ _ ⟨tg0_102, g3_102, g4_102, ?_, ⟨?_, ?_, ?_, ?_, ?_, ?_, ?_, ?_⟩, (OwnT.mono (D := [86]) o0_102 (by decide))⟩ <;> first | rfl | simp [E102, hlt107, hc11, hc43, hc182, hc233, hc244, hc274, hc337, hc348, hc393, hc459, hc485]
    rintro fr486 h486 ⟨tg0_486, g3_486, g4_486, rfl, E486, o0_486⟩
    refine AWp.condK fun A487 B488 ga489 gb490 => ?_
    rcases ite_some hm461 with ⟨hc491, hm492⟩ | ⟨hc491, hm493⟩
    rotate_left
    · clear hm461
      simp [E486, hlt107, hc11, hc43, hc182, hc233, hc244, hc274, hc337, hc348, hc393, hc459, hc491]
      apply gb490
      refine AWp.skip ?_
      apply nn172
      apply hk168
      refine AWp.sr [] fun K494 hk495 => ?_
      obtain ⟨x496, hx497, hm498⟩ := bind1_some hm493
      clear hm493
      try dsimp only at hm498
      simp [E486, hlt107, hc11, hc43, hc182, hc233, hc244, hc274, hc337, hc348, hc393, hc459, hc491]
      refine CallAt.fn (r_ref01_Unit T hx497) ?_
      simp [E486, hlt107, hc11, hc43, hc182, hc233, hc244, hc274, hc337, hc348, hc393, hc459, hc491]
      apply hk495
      refine AWp.ret ?_
      simp only [Option.some.injEq, Prod.mk.injEq] at hm498
      obtain ⟨rfl, rfl⟩ := hm498
      simp [retQ, E486, hlt107, hc11, hc43, hc182, hc233, hc244, hc274, hc337, hc348, hc393, hc459, hc491]
    clear hm461
    simp [E486, hlt107, hc11, hc43, hc182, hc233, hc244, hc274, hc337, hc348, hc393, hc459, hc491]
    apply ga489
    refine AWp.seqK fun K499 hk500 => ?_
    refine AWp.sr [] fun K501 hk502 => ?_
    obtain ⟨x503, hx504, hm505⟩ := bind1_some hm492
    clear hm492
    try dsimp only at hm505
    simp [E486, hlt107, hx504, hc11, hc43, hc182, hc233, hc244, hc274, hc337, hc348, hc393, hc459, hc491]
    apply hk502
    refine AWp.condK fun A506 B507 ga508 gb509 => ?_
    rcases ite_some hm505 with ⟨hc510, hm511⟩ | ⟨hc510, hm512⟩
    · clear hm505
      simp [E486, hlt107, hx504, hc11, hc43, hc182, hc233, hc244, hc274, hc337, hc348, hc393, hc459, hc491, hc510]
      apply ga508
      refine AWp.sr [] fun K513 hk514 => ?_
      simp [E486, hlt107, hx504, hc11, hc43, hc182, hc233, hc244, hc274, hc337, hc348, hc393, hc459, hc491, hc510]
      apply hk514
      refine AWp.ret ?_
      apply nr175
      simp only [Option.some.injEq, Prod.mk.injEq] at hm511
      obtain ⟨rfl, rfl⟩ := hm511
      simp [retQ, E486, hlt107, hx504, hc11, hc43, hc182, hc233, hc244, hc274, hc337, hc348, hc393, hc459, hc491, hc510]
    clear hm505
    simp [E486, hlt107, hx504, hc11, hc43, hc182, hc233, hc244, hc274, hc337, hc348, hc393, hc459, hc491, hc510]
    apply gb509
    refine AWp.skip ?_
    apply hk500
    refine AWp.seqK fun K515 hk516 => ?_
    refine AWp.sr [] fun K517 hk518 => ?_
    simp [E486, hlt107, hx504, hc11, hc43, hc182, hc233, hc244, hc274, hc337, hc348, hc393, hc459, hc491, hc510]
    apply hk518
    refine AWp.condK fun A519 B520 ga521 gb522 => ?_
    rcases ite_some hm512 with ⟨hc523, hm524⟩ | ⟨hc523, hm525⟩
    · clear hm512
      simp [E486, hlt107, hx504, hc11, hc43, hc182, hc233, hc244, hc274, hc337, hc348, hc393, hc459, hc491, hc510, hc523]
      apply ga521
      refine AWp.sr [] fun K526 hk527 => ?_
      obtain ⟨x528, hx529, hm530⟩ := bind1_some hm524
      clear hm524
      try dsimp only at hm530
      simp [E486, hlt107, hx504, hx529, hc11, hc43, hc182, hc233, hc244, hc274, hc337, hc348, hc393, hc459, hc491, hc510, hc523]
      apply hk527
      refine AWp.ret ?_
      apply nr175
      simp only [Option.some.injEq, Prod.mk.injEq] at hm530
      obtain ⟨rfl, rfl⟩ := hm530
      simp [retQ, E486, hlt107, hx504, hx529, hc11, hc43, hc182, hc233, hc244, hc274, hc337, hc348, hc393, hc459, hc491, hc510, hc523]
    clear hm512
    simp [E486, hlt107, hx504, hc11, hc43, hc182, hc233, hc244, hc274, hc337, hc348, hc393, hc459, hc491, hc510, hc523]
    apply gb522
    refine AWp.skip ?_
    apply hk516
    refine AWp.sr [] fun K531 hk532 => ?_
    obtain ⟨x533, hx534, hm535⟩ := bind1_some hm525
    clear hm525
    try dsimp only at hm535
    simp [E486, hlt107, hx504, hx534, hc11, hc43, hc182, hc233, hc244, hc274, hc337, hc348, hc393, hc459, hc491, hc510, hc523]
    apply hk532
    refine AWp.ret ?_
    apply nr175
    simp only [Option.some.injEq, Prod.mk.injEq] at hm535
    obtain ⟨rfl, rfl⟩ := hm535
    simp [retQ, E486, hlt107, hx504, hx534, hc11, hc43, hc182, hc233, hc244, hc274, hc337, hc348, hc393, hc459, hc491, hc510, hc523]
theorem r_ref02_infer (T : Tabs) {H : Heap} {a0 : (List Ty)} {a1 : Tm} {r0 : Ty} {r1 : Int} {n : Nat} (hm : ref02_infer n a0 a1 = some (r0, r1)) : ACall Tryd.prog T 86 [AV.slice .frz (List.map Ty.av a0), Tm.av a1] H (AV.tuple [Ty.av r0, AV.sc (.int .i64 r1)]) H := (rg_ref02_infer T n) hm

theorem enters57 : entersB Tryd.prog 57 = true := by kernel_rfl

theorem r_ref02_Typed (T : Tabs) {H : Heap} {a0 : (List Ty)} {a1 : Tm} {r0 : Ty} {r1 : Int} (hm : ref02_Typed a0 a1 = some (r0, r1)) : ACall Tryd.prog T 57 [AV.slice .frz (List.map Ty.av a0), Tm.av a1] H (AV.tuple [Ty.av r0, AV.sc (.int .i64 r1)]) H := by
  rw [ref02_Typed] at hm
  refine ACallP.intro (fn := Tryd.f57) Tryd.func57 rfl enters57 (Nat.le_of_ble_eq_true rfl) ?_
  refine AWp.sr [] fun K1 hk2 => ?_
  simp
  apply hk2
  refine AWp.seqK fun K3 hk4 => ?_
  refine AWp.sr [] fun K5 hk6 => ?_
  obtain ⟨x7, hx8, hm9⟩ := bind1_some hm
  clear hm
  try dsimp only at hm9
  simp
  refine CallAt.fn (r_ref02_Check T hx8) ?_
  simp
  apply hk6
  refine AWp.sr [] fun K10 hk11 => ?_
  simp
  apply hk11
  refine AWp.condK fun A12 B13 ga14 gb15 => ?_
  rcases ite_some hm9 with ⟨hc16, hm17⟩ | ⟨hc16, hm18⟩
  · clear hm9
    simp [hc16]
    apply ga14
    refine AWp.sr [] fun K19 hk20 => ?_
    simp [hc16]
    apply hk20
    refine AWp.ret ?_
    simp only [Option.some.injEq, Prod.mk.injEq] at hm17
    obtain ⟨rfl, rfl⟩ := hm17
    simp [retQ, hc16]
  clear hm9
  simp [hc16]
  apply gb15
  refine AWp.skip ?_
  apply hk4
  refine AWp.sr [] fun K21 hk22 => ?_
  obtain ⟨x23, x24, hx25, hm26⟩ := bind2_some hm18
  clear hm18
  try dsimp only at hm26
  simp [hc16]
  refine CallAt.fn (r_ref02_infer T hx25) ?_
  simp [hc16]
  apply hk22
  refine AWp.ret ?_
  simp only [Option.some.injEq, Prod.mk.injEq] at hm26
  obtain ⟨rfl, rfl⟩ := hm26
  simp [retQ, hc16]

theorem enters19 : entersB Tryd.prog 19 = true := by kernel_rfl

theorem r_ref02_TypeOf (T : Tabs) {H : Heap} {a0 : (List Ty)} {a1 : Tm} {r0 : Ty} {r1 : Int} (hm : ref02_TypeOf a0 a1 = some (r0, r1)) : ACall Tryd.prog T 19 [AV.slice .frz (List.map Ty.av a0), Tm.av a1] H (AV.tuple [Ty.av r0, AV.sc (.int .i64 r1)]) H := by
  rw [ref02_TypeOf] at hm
  refine ACallP.intro (fn := Tryd.f19) Tryd.func19 rfl enters19 (Nat.le_of_ble_eq_true rfl) ?_
  refine AWp.sr [] fun K1 hk2 => ?_
  simp
  apply hk2
  refine AWp.seqK fun K3 hk4 => ?_
  refine AWp.sr [] fun K5 hk6 => ?_
  obtain ⟨x7, hx8, hm9⟩ := bind1_some hm
  clear hm
  try dsimp only at hm9
  simp
  refine CallAt.fn (r_ref01_Context T hx8) ?_
  simp
  apply hk6
  refine AWp.sr [] fun K10 hk11 => ?_
  simp
  apply hk11
  refine AWp.condK fun A12 B13 ga14 gb15 => ?_
  rcases ite_some hm9 with ⟨hc16, hm17⟩ | ⟨hc16, hm18⟩
  · clear hm9
    simp [hc16]
    apply ga14
    refine AWp.sr [] fun K19 hk20 => ?_
    simp [hc16]
    apply hk20
    refine AWp.ret ?_
    simp only [Option.some.injEq, Prod.mk.injEq] at hm17
    obtain ⟨rfl, rfl⟩ := hm17
    simp [retQ, hc16]
  clear hm9
  simp [hc16]
  apply gb15
  refine AWp.skip ?_
  apply hk4
  refine AWp.sr [] fun K21 hk22 => ?_
  obtain ⟨x23, x24, hx25, hm26⟩ := bind2_some hm18
  clear hm18
  try dsimp only at hm26
  simp [hc16]
  refine CallAt.fn (r_ref02_Typed T hx25) ?_
  simp [hc16]
  apply hk22
  refine AWp.ret ?_
  simp only [Option.some.injEq, Prod.mk.injEq] at hm26
  obtain ⟨rfl, rfl⟩ := hm26
  simp [retQ, hc16]

theorem enters88 : entersB Tryd.prog 88 = true := by kernel_rfl

theorem r_ref03_below (T : Tabs) {H : Heap} {a0 : Tm} {r0 : Int} (hm : ref03_below a0 = some r0) : ACall Tryd.prog T 88 [Tm.av a0] H (AV.sc (.int .i64 r0)) H := by
  rw [ref03_below] at hm
  refine ACallP.intro (fn := Tryd.f88) Tryd.func88 rfl enters88 (Nat.le_of_ble_eq_true rfl) ?_
  refine AWp.sr [] fun K1 hk2 => ?_
  simp
  apply hk2
  refine AWp.seqK fun K3 hk4 => ?_
  refine AWp.sr [] fun K5 hk6 => ?_
  simp
  apply hk6
  refine AWp.condK fun A7 B8 ga9 gb10 => ?_
  rcases ite_some hm with ⟨hc11, hm12⟩ | ⟨hc11, hm13⟩
  · clear hm
    simp [hc11]
    apply ga9
    refine AWp.sr [] fun K14 hk15 => ?_
    simp [hc11]
    apply hk15
    refine AWp.ret ?_
    obtain rfl := Option.some.inj hm12
    simp [retQ, hc11]
  clear hm
  simp [hc11]
  apply gb10
  refine AWp.skip ?_
  apply hk4
  refine AWp.sr [] fun K16 hk17 => ?_
  simp [hc11]
  apply hk17
  refine AWp.ret ?_
  obtain rfl := Option.some.inj hm13
  simp [retQ, hc11]

theorem enters22 : entersB Tryd.prog 22 = true := by kernel_rfl

theorem r_mk_Closed (T : Tabs) {H : Heap} {a0 : Smk_Deck} {r0 : Tm} {r1 : Ty} {do0 : Smk_Deck} {o0 : Nat} (ho0 : H[o0]? = some [AV.slice .frz (List.map (fun n => AV.sc (Value.int .i64 n)) a0.l), AV.sc (.int .i64 a0.atF)]) (hm : mk_Closed a0 = some (r0, r1, do0)) : ACall Tryd.prog T 22 [AV.gptr o0 0] H (AV.tuple [Tm.av r0, Ty.av r1]) (hset H o0 [AV.slice .frz (List.map (fun n => AV.sc (Value.int .i64 n)) do0.l), AV.sc (.int .i64 do0.atF)]) := by
  rw [mk_Closed] at hm
  have lo0 := inb_of_get ho0
  refine ACallP.at1 ho0 ?_
  refine ACallP.intro (fn := Tryd.f22) Tryd.func22 rfl enters22 (Nat.le_of_ble_eq_true rfl) ?_
  refine AWp.sr [] fun K1 hk2 => ?_
  simp [lo0]
  apply hk2
  refine AWp.sr [] fun K3 hk4 => ?_
  obtain ⟨x5, d6, hx7, hm8⟩ := bind2_some hm
  clear hm
  try dsimp only at hm8
  simp [lo0]
  refine CallAt.fn (r_mk_Type T (by simp [lo0]) hx7) ?_
  simp [lo0]
  apply hk4
  refine AWp.seqK fun K9 hk10 => ?_
  refine AWp.regionD [] false mixed (by decide +kernel) (by decide +kernel) ?_
  obtain ⟨x11, d12, hx13, hm14⟩ := bind2_some hm8
  clear hm8
  try dsimp only at hm14
  simp [lo0]
  refine CallAtD.fn (r_mk_Term T (by simp [lo0]) hx13) (by simp) ?_
  simp [lo0]
  apply hk10
  refine AWp.ret ?_
  simp only [Option.some.injEq, Prod.mk.injEq] at hm14
  obtain ⟨rfl, rfl, rfl⟩ := hm14
  simp [retQ, lo0]

theorem enters23 : entersB Tryd.prog 23 = true := by kernel_rfl

theorem rg_law04_canonical (T : Tabs) : ∀ (n : Nat), (∀ {H : Heap} {a0 : Tm} {a1 : Ty} {r0 : Bool} (hm : law04_canonical n a0 a1 = some r0), ACall Tryd.prog T 23 [Tm.av a0, Ty.av a1] H (AV.sc (.bool r0)) H) := by
  intro n
  induction n with
  | zero =>
    skip
    all_goals
      intros
      rename_i hm
      cases hm
  | succ n ih =>
    intro H a0 a1 r0 hm
    rw [law04_canonical] at hm
    refine ACallP.intro (fn := Tryd.f23) Tryd.func23 rfl enters23 (Nat.le_of_ble_eq_true rfl) ?_
    refine AWp.sr [] fun K1 hk2 => ?_
    simp
    apply hk2
    refine AWp.seqK fun K3 hk4 => ?_
    refine AWp.sr [] fun K5 hk6 => ?_
    simp
    apply hk6
    refine AWp.blockK fun Q7 nn8 ne9 nx10 nr11 => ?_
    refine AWp.sr [] fun K12 hk13 => ?_
    simp
    apply hk13
    refine AWp.condK fun A14 B15 ga16 gb17 => ?_
    rcases ite_some hm with ⟨hc18, hm19⟩ | ⟨hc18, hm20⟩
    · clear hm
      simp [hc18]
      apply ga16
      refine AWp.seqK fun K21 hk22 => ?_
      obtain ⟨F23, hF24, hm25⟩ := joinB_some hm19
      clear hm19
      try dsimp only at hm25
      obtain ⟨out26, hl27, hmB28⟩ := bind1_some hm25
      clear hm25
      refine AWp.blockK fun Q29 nn30 ne31 nx32 nr33 => ?_
      refine AWp.loopF (fun n34 fr h => ∃ (v35 : Int) (v36 : Int) (v37 : Int) (v38 : (List Ty)) (v39 : (List Tm)) (g2_40 : Nat), H = h ∧ (fr.env 2 = AV.lptr 2 g2_40 0 ∧ fr.gen 2 = g2_40 ∧ fr.box 2 = some [AV.sc (.int .i64 v35), AV.sc (.int .i64 v36), AV.sc (.int .i64 v37), AV.slice .frz (List.map Ty.av v38), AV.slice .frz (List.map Tm.av v39)]) ∧ loopN F23 n34 (v35, v36, v37, v38, v39) = some out26) FU ?_ ?_
      · refine ⟨a0.kind, a0.index, a0.typeF.kind, a0.typeF.args, a0.args, 1, ?_, ⟨?_, ?_, ?_⟩, hl27⟩ <;> first | rfl | simp [hc18]
      rintro n34 fr40 h40 ⟨v35, v36, v37, v38, v39, g2_40, rfl, E40, hl27⟩ K41 hK42
      rcases n34 with _ | n34
      · rw [loopN_zero] at hl27
        cases hl27
      rw [loopN_succ] at hl27
      obtain ⟨c43, hb44, hk45⟩ := bind1_some hl27
      clear hl27
      rw [hF24] at hb44
      try dsimp only at hb44
      rw [un5_mk] at hb44
      try dsimp only at hb44
      refine AWp.seqK fun K46 hk47 => ?_
      refine AWp.sr [] fun K48 hk49 => ?_
      simp [E40, hc18]
      apply hk49
      refine AWp.condK fun A50 B51 ga52 gb53 => ?_
      rcases ite_some hb44 with ⟨hc54, hm55⟩ | ⟨hc54, hm56⟩
      rotate_left
      · clear hb44
        simp [E40, hc18, hc54]
        apply gb53
        refine AWp.exit ?_
        apply ne31
        obtain rfl := Option.some.inj hm56
        rw [ctlK_brk] at hk45
        obtain rfl := Option.some.inj hk45
        rw [sumK_inl, un5_mk] at hmB28
        try dsimp only at hmB28
        apply hk22
        refine AWp.sr [] fun K57 hk58 => ?_
        simp [E40, hc18, hc54]
        apply hk58
        refine AWp.ret ?_
        apply nr11
        obtain rfl := Option.some.inj hmB28
        simp [retQ, E40, hc18, hc54]
      clear hb44
      simp [E40, hc18, hc54]
      apply ga52
      refine AWp.skip ?_
      apply hk47
      refine AWp.blockK fun Q59 nn60 ne61 nx62 nr63 => ?_
      refine AWp.region [] (by decide +kernel) ?_
      obtain ⟨x64, hx65, hm66⟩ := bind1_some hm55
      clear hm55
      try dsimp only at hm66
      simp [E40, hx65, hc18, hc54]
      apply nn60
      obtain rfl := Option.some.inj hm66
      rw [ctlK_next] at hk45
      refine hK42 _ _ n34 (Nat.lt_succ_self _) ⟨x64.kind, x64.index, x64.typeF.kind, x64.typeF.args, x64.args, g2_40, ?_, ⟨?_, ?_, ?_⟩, hk45⟩ <;> first | rfl | simp [E40, hx65, hc18, hc54]
    clear hm
    simp [hc18]
    apply gb17
    refine AWp.sr [] fun K67 hk68 => ?_
    simp [hc18]
    apply hk68
    refine AWp.condK fun A69 B70 ga71 gb72 => ?_
    rcases ite_some hm20 with ⟨hc73, hm74⟩ | ⟨hc73, hm75⟩
    rotate_left
    · clear hm20
      simp [hc18, hc73]
      apply gb72
      refine AWp.sr [] fun K76 hk77 => ?_
      simp [hc18, hc73]
      apply hk77
      refine AWp.condK fun A78 B79 ga80 gb81 => ?_
      rcases ite_some hm75 with ⟨hc82, hm83⟩ | ⟨hc82, hm84⟩
      · clear hm75
        simp [hc18, hc73, hc82]
        apply ga80
        refine AWp.sr [] fun K85 hk86 => ?_
        simp [hc18, hc73, hc82]
        apply hk86
        refine AWp.ret ?_
        apply nr11
        obtain rfl := Option.some.inj hm83
        simp [retQ, hc18, hc73, hc82]
      clear hm75
      simp [hc18, hc73, hc82]
      apply gb81
      refine AWp.sr [] fun K87 hk88 => ?_
      simp [hc18, hc73, hc82]
      apply hk88
      refine AWp.condK fun A89 B90 ga91 gb92 => ?_
      rcases ite_some hm84 with ⟨hc93, hm94⟩ | ⟨hc93, hm95⟩
      rotate_left
      · clear hm84
        simp [hc18, hc73, hc82, hc93]
        apply gb92
        refine AWp.skip ?_
        apply nn8
        apply hk4
        refine AWp.sr [] fun K96 hk97 => ?_
        simp [hc18, hc73, hc82, hc93]
        apply hk97
        refine AWp.ret ?_
        obtain rfl := Option.some.inj hm95
        simp [retQ, hc18, hc73, hc82, hc93]
      clear hm84
      simp [hc18, hc73, hc82, hc93]
      apply ga91
      obtain ⟨j98, hj99, hm100⟩ := joinB_some hm94
      clear hm94
      refine AWp.seqP (fun fr h => ∃ (v101 : Bool), H = h ∧ fr.env 4 = AV.sc (.bool v101) ∧ j98 v101 = some r0) (fun K102 hk103 => ?_) ?_
      rotate_left
      · clear hm100
        rintro fr104 h104 ⟨v101, rfl, E104, hm105⟩
        subst hj99
        refine AWp.ret ?_
        apply nr11
        obtain rfl := Option.some.inj hm105
        simp [retQ, E104, hc18, hc73, hc82, hc93]
      refine AWp.regionD [] false mixed (by decide +kernel) (by decide +kernel) ?_
      rcases ite_some hm100 with ⟨hc106, hm107⟩ | ⟨hc106, hm108⟩
      rotate_left
      · clear hm100
        simp [hc18, hc73, hc82, hc93, hc106]
        refine hk103 _ _ ⟨false, ?_, ?_, hm108⟩ <;> first | rfl | simp [hc18, hc73, hc82, hc93, hc106]
      clear hm100
      obtain ⟨x109, hx110, hm111⟩ := bind1_some hm107
      clear hm107
      try dsimp only at hm111
      obtain ⟨x112, hx113, hm114⟩ := bind1_some hm111
      clear hm111
      try dsimp only at hm114
      obtain ⟨x115, hx116, hm117⟩ := bind1_some hm114
      clear hm114
      try dsimp only at hm117
      simp [hx110, hx113, hc18, hc73, hc82, hc93, hc106]
      refine CallAtD.fn (ih hx116) (by simp) ?_
      rcases ite_some hm117 with ⟨hc118, hm119⟩ | ⟨hc118, hm120⟩
      rotate_left
      · clear hm117
        simp [hx110, hx113, hc18, hc73, hc82, hc93, hc106, hc118]
        refine hk103 _ _ ⟨false, ?_, ?_, hm120⟩ <;> first | rfl | simp [hx110, hx113, hc18, hc73, hc82, hc93, hc106, hc118]
      clear hm117
      obtain ⟨x121, hx122, hm123⟩ := bind1_some hm119
      clear hm119
      try dsimp only at hm123
      obtain ⟨x124, hx125, hm126⟩ := bind1_some hm123
      clear hm123
      try dsimp only at hm126
      obtain ⟨x127, hx128, hm129⟩ := bind1_some hm126
      clear hm126
      try dsimp only at hm129
      simp [hx110, hx113, hx122, hx125, hc18, hc73, hc82, hc93, hc106, hc118]
      refine CallAtD.fn (ih hx128) (by simp) ?_
      simp [hx110, hx113, hx122, hx125, hc18, hc73, hc82, hc93, hc106, hc118]
      refine hk103 _ _ ⟨x127, ?_, ?_, hm129⟩ <;> first | rfl | simp [hx110, hx113, hx122, hx125, hc18, hc73, hc82, hc93, hc106, hc118]
    clear hm20
    simp [hc18, hc73]
    apply ga71
    refine AWp.seqK fun K130 hk131 => ?_
    obtain ⟨F132, hF133, hm134⟩ := joinB_some hm74
    clear hm74
    try dsimp only at hm134
    obtain ⟨out135, hl136, hmB137⟩ := bind1_some hm134
    clear hm134
    refine AWp.blockK fun Q138 nn139 ne140 nx141 nr142 => ?_
    refine AWp.loopF (fun n143 fr h => ∃ (v144 : Int) (v145 : Int) (v146 : Int) (v147 : (List Ty)) (v148 : (List Tm)) (g2_149 : Nat), H = h ∧ (fr.env 2 = AV.lptr 2 g2_149 0 ∧ fr.gen 2 = g2_149 ∧ fr.box 2 = some [AV.sc (.int .i64 v144), AV.sc (.int .i64 v145), AV.sc (.int .i64 v146), AV.slice .frz (List.map Ty.av v147), AV.slice .frz (List.map Tm.av v148)]) ∧ loopN F132 n143 (v144, v145, v146, v147, v148) = some out135) FU ?_ ?_
    · refine ⟨a0.kind, a0.index, a0.typeF.kind, a0.typeF.args, a0.args, 1, ?_, ⟨?_, ?_, ?_⟩, hl136⟩ <;> first | rfl | simp [hc18, hc73]
    rintro n143 fr149 h149 ⟨v144, v145, v146, v147, v148, g2_149, rfl, E149, hl136⟩ K150 hK151
    rcases n143 with _ | n143
    · rw [loopN_zero] at hl136
      cases hl136
    rw [loopN_succ] at hl136
    obtain ⟨c152, hb153, hk154⟩ := bind1_some hl136
    clear hl136
    rw [hF133] at hb153
    try dsimp only at hb153
    rw [un5_mk] at hb153
    try dsimp only at hb153
    refine AWp.seqK fun K155 hk156 => ?_
    refine AWp.sr [] fun K157 hk158 => ?_
    simp [E149, hc18, hc73]
    apply hk158
    refine AWp.condK fun A159 B160 ga161 gb162 => ?_
    rcases ite_some hb153 with ⟨hc163, hm164⟩ | ⟨hc163, hm165⟩
    rotate_left
    · clear hb153
      simp [E149, hc18, hc73, hc163]
      apply gb162
      refine AWp.exit ?_
      apply ne140
      obtain rfl := Option.some.inj hm165
      rw [ctlK_brk] at hk154
      obtain rfl := Option.some.inj hk154
      rw [sumK_inl, un5_mk] at hmB137
      try dsimp only at hmB137
      apply hk131
      refine AWp.sr [] fun K166 hk167 => ?_
      simp [E149, hc18, hc73, hc163]
      apply hk167
      refine AWp.ret ?_
      apply nr11
      obtain rfl := Option.some.inj hmB137
      simp [retQ, E149, hc18, hc73, hc163]
    clear hb153
    simp [E149, hc18, hc73, hc163]
    apply ga161
    refine AWp.skip ?_
    apply hk156
    refine AWp.blockK fun Q168 nn169 ne170 nx171 nr172 => ?_
    refine AWp.seqK fun K173 hk174 => ?_
    refine AWp.seqK fun K175 hk176 => ?_
    refine AWp.regionD [] false mixed (by decide +kernel) (by decide +kernel) ?_
    obtain ⟨x177, hx178, hm179⟩ := bind1_some hm164
    clear hm164
    try dsimp only at hm179
    obtain ⟨x180, hx181, hm182⟩ := bind1_some hm179
    clear hm179
    try dsimp only at hm182
    simp [E149, hx178, hc18, hc73, hc163]
    refine CallAtD.fn (r_ref01_Nat T hx181) (by simp) ?_
    obtain ⟨x183, hx184, hm185⟩ := bind1_some hm182
    clear hm182
    try dsimp only at hm185
    simp [E149, hx178, hc18, hc73, hc163]
    refine CallAtD.fn (ih hx184) (by simp) ?_
    simp [E149, hx178, hc18, hc73, hc163]
    apply hk176
    refine AWp.condK fun A186 B187 ga188 gb189 => ?_
    rcases ite_some hm185 with ⟨hc190, hm191⟩ | ⟨hc190, hm192⟩
    rotate_left
    · clear hm185
      simp [E149, hx178, hc18, hc73, hc163, hc190]
      apply ga188
      refine AWp.sr [] fun K193 hk194 => ?_
      simp [E149, hx178, hc18, hc73, hc163, hc190]
      apply hk194
      refine AWp.ret ?_
      apply nr172
      apply nr142
      apply nr11
      obtain rfl := Option.some.inj hm192
      rw [ctlK_ret] at hk154
      obtain rfl := Option.some.inj hk154
      rw [sumK_inr] at hmB137
      try dsimp only at hmB137
      obtain rfl := Option.some.inj hmB137
      simp [retQ, E149, hx178, hc18, hc73, hc163, hc190]
    clear hm185
    simp [E149, hx178, hc18, hc73, hc163, hc190]
    apply gb189
    refine AWp.skip ?_
    apply hk174
    refine AWp.region [] (by decide +kernel) ?_
    obtain ⟨x195, hx196, hm197⟩ := bind1_some hm191
    clear hm191
    try dsimp only at hm197
    simp [E149, hx178, hx196, hc18, hc73, hc163, hc190]
    apply nn169
    obtain rfl := Option.some.inj hm197
    rw [ctlK_next] at hk154
    refine hK151 _ _ n143 (Nat.lt_succ_self _) ⟨x195.kind, x195.index, x195.typeF.kind, x195.typeF.args, x195.args, g2_149, ?_, ⟨?_, ?_, ?_⟩, hk154⟩ <;> first | rfl | simp [E149, hx178, hx196, hc18, hc73, hc163, hc190]
theorem r_law04_canonical (T : Tabs) {H : Heap} {a0 : Tm} {a1 : Ty} {r0 : Bool} {n : Nat} (hm : law04_canonical n a0 a1 = some r0) : ACall Tryd.prog T 23 [Tm.av a0, Ty.av a1] H (AV.sc (.bool r0)) H := (rg_law04_canonical T n) hm

theorem enters4 : entersB Tryd.prog 4 = true := by kernel_rfl

theorem r_law04_ReduceCloses (T : Tabs) (hT : T 0 = some (AV.agg (List.map (fun n => AV.sc (Value.int .i64 n)) tree_arities))) {a0 : (List Int)} {r0 : Bool} (hm : law04_ReduceCloses a0 = some r0) : ACallP Tryd.prog T 4 [AV.slice .frz (List.map (fun n => AV.sc (Value.int .i64 n)) a0)] [] (fun x _ => x = AV.sc (.bool r0)) := by
  rw [law04_ReduceCloses] at hm
  refine ACallP.intro (fn := Tryd.f4) Tryd.func4 rfl enters4 (Nat.le_of_ble_eq_true rfl) ?_
  refine AWp.sr [] fun K1 hk2 => ?_
  simp [hT]
  apply hk2
  refine AWp.seqK fun K3 hk4 => ?_
  refine AWp.sr [] fun K5 hk6 => ?_
  obtain ⟨x7, hx8, hm9⟩ := bind1_some hm
  clear hm
  try dsimp only at hm9
  simp [hT]
  refine CallAt.fn (r_law04_sane T hT hx8) ?_
  simp [hT]
  apply hk6
  refine AWp.condK fun A10 B11 ga12 gb13 => ?_
  rcases ite_some hm9 with ⟨hc14, hm15⟩ | ⟨hc14, hm16⟩
  rotate_left
  · clear hm9
    simp [hT, hc14]
    apply ga12
    refine AWp.sr [] fun K17 hk18 => ?_
    simp [hT, hc14]
    apply hk18
    refine AWp.ret ?_
    obtain rfl := Option.some.inj hm16
    simp [retQ, hT, hc14]
  clear hm9
  simp [hT, hc14]
  apply gb13
  refine AWp.skip ?_
  apply hk4
  refine AWp.seqK fun K19 hk20 => ?_
  refine AWp.sr [] fun K21 hk22 => ?_
  obtain ⟨x23, hx24, hm25⟩ := bind1_some hm15
  clear hm15
  try dsimp only at hm25
  simp [hT, hc14]
  refine CallAt.fn (r_mk_Few T hx24) ?_
  simp [hT, hc14]
  apply hk22
  refine AWp.condK fun A26 B27 ga28 gb29 => ?_
  rcases ite_some hm25 with ⟨hc30, hm31⟩ | ⟨hc30, hm32⟩
  rotate_left
  · clear hm25
    simp [hT, hc14, hc30]
    apply ga28
    refine AWp.sr [] fun K33 hk34 => ?_
    simp [hT, hc14, hc30]
    apply hk34
    refine AWp.ret ?_
    obtain rfl := Option.some.inj hm32
    simp [retQ, hT, hc14, hc30]
  clear hm25
  simp [hT, hc14, hc30]
  apply gb29
  refine AWp.skip ?_
  apply hk20
  refine AWp.sr [] fun K35 hk36 => ?_
  obtain ⟨x37, hx38, hm39⟩ := bind1_some hm31
  clear hm31
  try dsimp only at hm39
  simp [hT, hc14, hc30]
  refine CallAt.fn (r_mk_New T hx38) ?_
  obtain ⟨x40, x41, d42, hx43, hm44⟩ := bind3_some hm39
  clear hm39
  try dsimp only at hm44
  simp [hT, hc14, hc30]
  refine CallAt.fn (r_mk_Closed T (by simp) hx43) ?_
  simp [hT, hc14, hc30]
  apply hk36
  refine AWp.sr [] fun K45 hk46 => ?_
  obtain ⟨x47, x48, x49, hx50, hm51⟩ := bind3_some hm44
  clear hm44
  try dsimp only at hm51
  simp [hT, hc14, hc30]
  refine CallAt.fn (r_reduce_Normal T hT hx50) ?_
  simp [hT, hc14, hc30]
  apply hk46
  refine AWp.seqK fun K52 hk53 => ?_
  refine AWp.sr [] fun K54 hk55 => ?_
  simp [hT, hc14, hc30]
  apply hk55
  refine AWp.condK fun A56 B57 ga58 gb59 => ?_
  rcases ite_some hm51 with ⟨hc60, hm61⟩ | ⟨hc60, hm62⟩
  · clear hm51
    simp [hT, hc14, hc30, hc60]
    apply ga58
    refine AWp.seqP (fun fr h => hset [[]] 0 [AV.slice .frz (List.map (fun n => AV.sc (Value.int .i64 n)) d42.l), AV.sc (.int .i64 d42.atF)] = h ∧ fr.env 2 = AV.sc (.bool (sel (ieq x49 4) true (ieq x49 5)))) (fun K63 hk64 => ?_) ?_
    rotate_left
    · rintro fr65 h65 ⟨rfl, E65⟩
      refine AWp.ret ?_
      obtain rfl := Option.some.inj hm61
      simp [retQ, E65, hT, hc14, hc30, hc60]
    refine AWp.region [] (by decide +kernel) ?_
    rcases Bool.eq_false_or_eq_true (ieq x49 4) with hc66 | hc66
    · simp [hT, hc14, hc30, hc60, hc66]
      refine hk64 _ _ ⟨?_, ?_⟩ <;> first | rfl | simp [hT, hc14, hc30, hc60, hc66]
    simp [hT, hc14, hc30, hc60, hc66]
    refine hk64 _ _ ⟨?_, ?_⟩ <;> first | rfl | simp [hT, hc14, hc30, hc60, hc66]
  clear hm51
  simp [hT, hc14, hc30, hc60]
  apply gb59
  refine AWp.skip ?_
  apply hk53
  refine AWp.seqK fun K67 hk68 => ?_
  refine AWp.seqP (fun fr h => ∃ (g4_72 : Nat) (g5_72 : Nat), hset [[]] 0 [AV.slice .frz (List.map (fun n => AV.sc (Value.int .i64 n)) d42.l), AV.sc (.int .i64 d42.atF)] = h ∧ (fr.env 4 = AV.lptr 4 g4_72 0 ∧ fr.env 5 = AV.lptr 5 g5_72 0 ∧ fr.env 38 = AV.sc (.bool (sel (ilt x48 0) true (igt x48 400))) ∧ fr.gen 4 = g4_72 ∧ fr.box 4 = some [AV.sc (.int .i64 x41.kind), AV.slice .frz (List.map Ty.av x41.args)] ∧ fr.gen 5 = g5_72 ∧ fr.box 5 = some [AV.sc (.int .i64 x47.kind), AV.sc (.int .i64 x47.index), AV.sc (.int .i64 x47.typeF.kind), AV.slice .frz (List.map Ty.av x47.typeF.args), AV.slice .frz (List.map Tm.av x47.args)])) (fun K69 hk70 => ?_) ?_
  · refine AWp.region [] (by decide +kernel) ?_
    rcases Bool.eq_false_or_eq_true (ilt x48 0) with hc71 | hc71
    · simp [hT, hc14, hc30, hc60, hc71]
      refine hk70 _ _ ⟨1, 1, ?_, ⟨?_, ?_, ?_, ?_, ?_, ?_, ?_⟩⟩ <;> first | rfl | simp [hT, hc14, hc30, hc60, hc71]
    simp [hT, hc14, hc30, hc60, hc71]
    refine hk70 _ _ ⟨1, 1, ?_, ⟨?_, ?_, ?_, ?_, ?_, ?_, ?_⟩⟩ <;> first | rfl | simp [hT, hc14, hc30, hc60, hc71]
  rintro fr72 h72 ⟨g4_72, g5_72, rfl, E72⟩
  refine AWp.condK fun A73 B74 ga75 gb76 => ?_
  rcases ite_some hm62 with ⟨hc77, hm78⟩ | ⟨hc77, hm79⟩
  · clear hm62
    simp [E72, hT, hc14, hc30, hc60, hc77]
    apply ga75
    refine AWp.sr [] fun K80 hk81 => ?_
    simp [E72, hT, hc14, hc30, hc60, hc77]
    apply hk81
    refine AWp.ret ?_
    obtain rfl := Option.some.inj hm78
    simp [retQ, E72, hT, hc14, hc30, hc60, hc77]
  clear hm62
  simp [E72, hT, hc14, hc30, hc60, hc77]
  apply gb76
  refine AWp.skip ?_
  apply hk68
  refine AWp.sr [] fun K82 hk83 => ?_
  obtain ⟨x84, hx85, hm86⟩ := bind1_some hm79
  clear hm79
  try dsimp only at hm86
  simp [E72, hT, hc14, hc30, hc60, hc77]
  refine CallAt.fn (r_law04_canonical T hx85) ?_
  simp [E72, hT, hc14, hc30, hc60, hc77]
  apply hk83
  refine AWp.ret ?_
  obtain rfl := Option.some.inj hm86
  simp [retQ, E72, hT, hc14, hc30, hc60, hc77]

theorem enters5 : entersB Tryd.prog 5 = true := by kernel_rfl

theorem r_law04_ReduceAdds (T : Tabs) (hT : T 0 = some (AV.agg (List.map (fun n => AV.sc (Value.int .i64 n)) tree_arities))) {a0 : (List Int)} {a1 : Int} {r0 : Bool} (hm : law04_ReduceAdds a0 a1 = some r0) : ACallP Tryd.prog T 5 [AV.slice .frz (List.map (fun n => AV.sc (Value.int .i64 n)) a0), AV.sc (.int .u8 a1)] [] (fun x _ => x = AV.sc (.bool r0)) := by
  rw [law04_ReduceAdds] at hm
  refine ACallP.intro (fn := Tryd.f5) Tryd.func5 rfl enters5 (Nat.le_of_ble_eq_true rfl) ?_
  refine AWp.sr [] fun K1 hk2 => ?_
  simp [hT]
  apply hk2
  refine AWp.seqK fun K3 hk4 => ?_
  refine AWp.sr [] fun K5 hk6 => ?_
  obtain ⟨x7, hx8, hm9⟩ := bind1_some hm
  clear hm
  try dsimp only at hm9
  simp [hT]
  refine CallAt.fn (r_law04_sane T hT hx8) ?_
  simp [hT]
  apply hk6
  refine AWp.condK fun A10 B11 ga12 gb13 => ?_
  rcases ite_some hm9 with ⟨hc14, hm15⟩ | ⟨hc14, hm16⟩
  rotate_left
  · clear hm9
    simp [hT, hc14]
    apply ga12
    refine AWp.sr [] fun K17 hk18 => ?_
    simp [hT, hc14]
    apply hk18
    refine AWp.ret ?_
    obtain rfl := Option.some.inj hm16
    simp [retQ, hT, hc14]
  clear hm9
  simp [hT, hc14]
  apply gb13
  refine AWp.skip ?_
  apply hk4
  refine AWp.seqK fun K19 hk20 => ?_
  refine AWp.sr [] fun K21 hk22 => ?_
  obtain ⟨x23, hx24, hm25⟩ := bind1_some hm15
  clear hm15
  try dsimp only at hm25
  simp [hT, hc14]
  refine CallAt.fn (r_mk_Few T hx24) ?_
  simp [hT, hc14]
  apply hk22
  refine AWp.condK fun A26 B27 ga28 gb29 => ?_
  rcases ite_some hm25 with ⟨hc30, hm31⟩ | ⟨hc30, hm32⟩
  rotate_left
  · clear hm25
    simp [hT, hc14, hc30]
    apply ga28
    refine AWp.sr [] fun K33 hk34 => ?_
    simp [hT, hc14, hc30]
    apply hk34
    refine AWp.ret ?_
    obtain rfl := Option.some.inj hm32
    simp [retQ, hT, hc14, hc30]
  clear hm25
  simp [hT, hc14, hc30]
  apply gb29
  refine AWp.skip ?_
  apply hk20
  refine AWp.sr [] fun K35 hk36 => ?_
  obtain ⟨x37, hx38, hm39⟩ := bind1_some hm31
  clear hm31
  try dsimp only at hm39
  simp [hT, hc14, hc30]
  refine CallAt.fn (r_mk_New T hx38) ?_
  obtain ⟨x40, x41, d42, hx43, hm44⟩ := bind3_some hm39
  clear hm39
  try dsimp only at hm44
  simp [hT, hc14, hc30]
  refine CallAt.fn (r_mk_Closed T (by simp) hx43) ?_
  simp [hT, hc14, hc30]
  apply hk36
  refine AWp.sr [] fun K45 hk46 => ?_
  obtain ⟨x47, x48, x49, hx50, hm51⟩ := bind3_some hm44
  clear hm44
  try dsimp only at hm51
  simp [hT, hc14, hc30]
  refine CallAt.fn (r_reduce_Normal T hT hx50) ?_
  simp [hT, hc14, hc30]
  apply hk46
  refine AWp.seqK fun K52 hk53 => ?_
  refine AWp.sr [] fun K54 hk55 => ?_
  simp [hT, hc14, hc30]
  apply hk55
  refine AWp.condK fun A56 B57 ga58 gb59 => ?_
  rcases ite_some hm51 with ⟨hc60, hm61⟩ | ⟨hc60, hm62⟩
  · clear hm51
    simp [hT, hc14, hc30, hc60]
    apply ga58
    refine AWp.seqP (fun fr h => hset [[]] 0 [AV.slice .frz (List.map (fun n => AV.sc (Value.int .i64 n)) d42.l), AV.sc (.int .i64 d42.atF)] = h ∧ fr.env 4 = AV.sc (.bool (sel (ieq x49 4) true (ieq x49 5)))) (fun K63 hk64 => ?_) ?_
    rotate_left
    · rintro fr65 h65 ⟨rfl, E65⟩
      refine AWp.ret ?_
      obtain rfl := Option.some.inj hm61
      simp [retQ, E65, hT, hc14, hc30, hc60]
    refine AWp.region [] (by decide +kernel) ?_
    rcases Bool.eq_false_or_eq_true (ieq x49 4) with hc66 | hc66
    · simp [hT, hc14, hc30, hc60, hc66]
      refine hk64 _ _ ⟨?_, ?_⟩ <;> first | rfl | simp [hT, hc14, hc30, hc60, hc66]
    simp [hT, hc14, hc30, hc60, hc66]
    refine hk64 _ _ ⟨?_, ?_⟩ <;> first | rfl | simp [hT, hc14, hc30, hc60, hc66]
  clear hm51
  simp [hT, hc14, hc30, hc60]
  apply gb59
  refine AWp.skip ?_
  apply hk53
  refine AWp.sr [] fun K67 hk68 => ?_
  obtain ⟨x69, x70, x71, hx72, hm73⟩ := bind3_some hm62
  clear hm62
  try dsimp only at hm73
  simp [hT, hc14, hc30, hc60]
  refine CallAt.fn (r_reduce_Normal T hT hx72) ?_
  simp [hT, hc14, hc30, hc60]
  apply hk68
  refine AWp.seqK fun K74 hk75 => ?_
  obtain ⟨j76, hj77, hm78⟩ := joinB_some hm73
  clear hm73
  refine AWp.seqP (fun fr h => ∃ (v79 : Bool) (g5_91 : Nat), hset [[]] 0 [AV.slice .frz (List.map (fun n => AV.sc (Value.int .i64 n)) d42.l), AV.sc (.int .i64 d42.atF)] = h ∧ (fr.env 5 = AV.lptr 5 g5_91 0 ∧ fr.env 8 = AV.sc (.int .i64 x48) ∧ fr.env 63 = AV.sc (.bool v79) ∧ fr.gen 5 = g5_91 ∧ fr.box 5 = some [AV.sc (.int .i64 x40.kind), AV.sc (.int .i64 x40.index), AV.sc (.int .i64 x40.typeF.kind), AV.slice .frz (List.map Ty.av x40.typeF.args), AV.slice .frz (List.map Tm.av x40.args)]) ∧ j76 v79 = some r0) (fun K80 hk81 => ?_) ?_
  · refine AWp.region [] (by decide +kernel) ?_
    rcases ite_some hm78 with ⟨hc82, hm83⟩ | ⟨hc82, hm84⟩
    · clear hm78
      simp [hT, hc14, hc30, hc60, hc82]
      refine hk81 _ _ ⟨true, 1, ?_, ⟨?_, ?_, ?_, ?_, ?_⟩, hm83⟩ <;> first | rfl | simp [hT, hc14, hc30, hc60, hc82]
    clear hm78
    rcases ite_some hm84 with ⟨hc85, hm86⟩ | ⟨hc85, hm87⟩
    · clear hm84
      simp [hT, hc14, hc30, hc60, hc82, hc85]
      refine hk81 _ _ ⟨true, 1, ?_, ⟨?_, ?_, ?_, ?_, ?_⟩, hm86⟩ <;> first | rfl | simp [hT, hc14, hc30, hc60, hc82, hc85]
    clear hm84
    obtain ⟨x88, hx89, hm90⟩ := bind1_some hm87
    clear hm87
    try dsimp only at hm90
    simp [hT, hc14, hc30, hc60, hc82, hc85]
    refine CallAt.fn (r_ref02_Same T hx89) ?_
    simp [hT, hc14, hc30, hc60, hc82, hc85]
    refine hk81 _ _ ⟨(bnot x88), 1, ?_, ⟨?_, ?_, ?_, ?_, ?_⟩, hm90⟩ <;> first | rfl | simp [hT, hc14, hc30, hc60, hc82, hc85]
  clear hm78
  rintro fr91 h91 ⟨v79, g5_91, rfl, E91, hm92⟩
  subst hj77
  refine AWp.condK fun A93 B94 ga95 gb96 => ?_
  rcases ite_some hm92 with ⟨hc97, hm98⟩ | ⟨hc97, hm99⟩
  · clear hm92
    simp [E91, hT, hc14, hc30, hc60, hc97]
    apply ga95
    refine AWp.sr [] fun K100 hk101 => ?_
    simp [E91, hT, hc14, hc30, hc60, hc97]
    apply hk101
    refine AWp.ret ?_
    obtain rfl := Option.some.inj hm98
    simp [retQ, E91, hT, hc14, hc30, hc60, hc97]
  clear hm92
  simp [E91, hT, hc14, hc30, hc60, hc97]
  apply gb96
  refine AWp.skip ?_
  apply hk75
  refine AWp.sr [] fun K102 hk103 => ?_
  obtain ⟨x104, x105, x106, hx107, hm108⟩ := bind3_some hm99
  clear hm99
  try dsimp only at hm108
  simp [E91, hT, hc14, hc30, hc60, hc97]
  refine CallAt.fn (r_reduce_Normal T hT hx107) ?_
  simp [E91, hT, hc14, hc30, hc60, hc97]
  apply hk103
  refine AWp.seqP (fun fr h => hset [[]] 0 [AV.slice .frz (List.map (fun n => AV.sc (Value.int .i64 n)) d42.l), AV.sc (.int .i64 d42.atF)] = h ∧ fr.env 4 = AV.sc (.bool (sel (ieq x48 0) (sel (ieq x106 1) true (sel (igt x48 0) (ieq x106 5) false)) (sel (igt x48 0) (ieq x106 5) false)))) (fun K109 hk110 => ?_) ?_
  rotate_left
  · rintro fr111 h111 ⟨rfl, E111⟩
    refine AWp.ret ?_
    obtain rfl := Option.some.inj hm108
    simp [retQ, E111, hT, hc14, hc30, hc60, hc97]
  refine AWp.region [] (by decide +kernel) ?_
  rcases Bool.eq_false_or_eq_true (ieq x48 0) with hc112 | hc112
  rotate_left
  · rcases Bool.eq_false_or_eq_true (igt x48 0) with hc113 | hc113
    · simp [E91, hT, hc14, hc30, hc60, hc97, hc112, hc113]
      refine hk110 _ _ ⟨?_, ?_⟩ <;> first | rfl | simp [E91, hT, hc14, hc30, hc60, hc97, hc112, hc113]
    simp [E91, hT, hc14, hc30, hc60, hc97, hc112, hc113]
    refine hk110 _ _ ⟨?_, ?_⟩ <;> first | rfl | simp [E91, hT, hc14, hc30, hc60, hc97, hc112, hc113]
  rcases Bool.eq_false_or_eq_true (ieq x106 1) with hc114 | hc114
  · simp [E91, hT, hc14, hc30, hc60, hc97, hc112, hc114]
    refine hk110 _ _ ⟨?_, ?_⟩ <;> first | rfl | simp [E91, hT, hc14, hc30, hc60, hc97, hc112, hc114]
  rcases Bool.eq_false_or_eq_true (igt x48 0) with hc115 | hc115
  · simp [E91, hT, hc14, hc30, hc60, hc97, hc112, hc114, hc115]
    refine hk110 _ _ ⟨?_, ?_⟩ <;> first | rfl | simp [E91, hT, hc14, hc30, hc60, hc97, hc112, hc114, hc115]
  simp [E91, hT, hc14, hc30, hc60, hc97, hc112, hc114, hc115]
  refine hk110 _ _ ⟨?_, ?_⟩ <;> first | rfl | simp [E91, hT, hc14, hc30, hc60, hc97, hc112, hc114, hc115]

theorem enters6 : entersB Tryd.prog 6 = true := by kernel_rfl

theorem r_law04_ReduceParts (T : Tabs) (hT : T 0 = some (AV.agg (List.map (fun n => AV.sc (Value.int .i64 n)) tree_arities))) {a0 : (List Int)} {r0 : Bool} (hm : law04_ReduceParts a0 = some r0) : ACallP Tryd.prog T 6 [AV.slice .frz (List.map (fun n => AV.sc (Value.int .i64 n)) a0)] [] (fun x _ => x = AV.sc (.bool r0)) := by
  rw [law04_ReduceParts] at hm
  refine ACallP.intro (fn := Tryd.f6) Tryd.func6 rfl enters6 (Nat.le_of_ble_eq_true rfl) ?_
  refine AWp.sr [] fun K1 hk2 => ?_
  simp [hT]
  apply hk2
  refine AWp.seqK fun K3 hk4 => ?_
  refine AWp.sr [] fun K5 hk6 => ?_
  obtain ⟨x7, hx8, hm9⟩ := bind1_some hm
  clear hm
  try dsimp only at hm9
  simp [hT]
  refine CallAt.fn (r_law04_sane T hT hx8) ?_
  simp [hT]
  apply hk6
  refine AWp.condK fun A10 B11 ga12 gb13 => ?_
  rcases ite_some hm9 with ⟨hc14, hm15⟩ | ⟨hc14, hm16⟩
  rotate_left
  · clear hm9
    simp [hT, hc14]
    apply ga12
    refine AWp.sr [] fun K17 hk18 => ?_
    simp [hT, hc14]
    apply hk18
    refine AWp.ret ?_
    obtain rfl := Option.some.inj hm16
    simp [retQ, hT, hc14]
  clear hm9
  simp [hT, hc14]
  apply gb13
  refine AWp.skip ?_
  apply hk4
  refine AWp.seqK fun K19 hk20 => ?_
  refine AWp.sr [] fun K21 hk22 => ?_
  obtain ⟨x23, hx24, hm25⟩ := bind1_some hm15
  clear hm15
  try dsimp only at hm25
  simp [hT, hc14]
  refine CallAt.fn (r_mk_Few T hx24) ?_
  simp [hT, hc14]
  apply hk22
  refine AWp.condK fun A26 B27 ga28 gb29 => ?_
  rcases ite_some hm25 with ⟨hc30, hm31⟩ | ⟨hc30, hm32⟩
  rotate_left
  · clear hm25
    simp [hT, hc14, hc30]
    apply ga28
    refine AWp.sr [] fun K33 hk34 => ?_
    simp [hT, hc14, hc30]
    apply hk34
    refine AWp.ret ?_
    obtain rfl := Option.some.inj hm32
    simp [retQ, hT, hc14, hc30]
  clear hm25
  simp [hT, hc14, hc30]
  apply gb29
  refine AWp.skip ?_
  apply hk20
  refine AWp.sr [] fun K35 hk36 => ?_
  obtain ⟨x37, hx38, hm39⟩ := bind1_some hm31
  clear hm31
  try dsimp only at hm39
  simp [hT, hc14, hc30]
  refine CallAt.fn (r_mk_New T hx38) ?_
  simp [hT, hc14, hc30]
  apply hk36
  refine AWp.sr [] fun K40 hk41 => ?_
  obtain ⟨x42, d43, hx44, hm45⟩ := bind2_some hm39
  clear hm39
  try dsimp only at hm45
  simp [hT, hc14, hc30]
  refine CallAt.fn (r_mk_Context T (by simp) hx44) ?_
  simp [hT, hc14, hc30]
  apply hk41
  refine AWp.sr [] fun K46 hk47 => ?_
  obtain ⟨x48, d49, hx50, hm51⟩ := bind2_some hm45
  clear hm45
  try dsimp only at hm51
  simp [hT, hc14, hc30]
  refine CallAt.fn (r_mk_Type T (by simp) hx50) ?_
  simp [hT, hc14, hc30]
  apply hk47
  refine AWp.seqK fun K52 hk53 => ?_
  refine AWp.regionD [] false mixed (by decide +kernel) (by decide +kernel) ?_
  obtain ⟨x54, d55, hx56, hm57⟩ := bind2_some hm51
  clear hm51
  try dsimp only at hm57
  simp [hT, hc14, hc30]
  refine CallAtD.fn (r_mk_Type T (by simp) hx56) (by simp) ?_
  obtain ⟨x58, d59, hx60, hm61⟩ := bind2_some hm57
  clear hm57
  try dsimp only at hm61
  simp [hT, hc14, hc30]
  refine CallAtD.fn (r_mk_Term T (by simp) hx60) (by simp) ?_
  obtain ⟨ha62, hm63⟩ := chk_some hm61
  clear hm61
  simp [hT, hc14, hc30]
  refine AppAt.own (f := Ty.av) [] x42 (OwnT.full (D := [])) ap27 (by intro x; simp) ha62 (by first | rfl | simp) (by first | rfl | simp) ?_
  obtain ⟨ha64, hm65⟩ := chk_some hm63
  clear hm63
  simp [hT, hc14, hc30]
  refine AppAt.own (f := Ty.av) (lapp [] x42) [x48] (OwnT.new (D := [35]) (d := 35) (by decide)) ap27 (by intro x; simp) ha64 (by first | rfl | simp) (by first | rfl | simp) ?_
  obtain ⟨x66, d67, hx68, hm69⟩ := bind2_some hm65
  clear hm65
  try dsimp only at hm69
  simp [hT, hc14, hc30]
  refine CallAtD.fn (r_mk_Type T (by simp) hx68) (by simp) ?_
  obtain ⟨x70, d71, hx72, hm73⟩ := bind2_some hm69
  clear hm69
  try dsimp only at hm73
  simp [hT, hc14, hc30]
  refine CallAtD.fn (r_mk_Term T (by simp) hx72) (by simp) ?_
  simp [hT, hc14, hc30]
  apply hk53
  refine AWp.sr [] fun K74 hk75 => ?_
  obtain ⟨x76, x77, x78, hx79, hm80⟩ := bind3_some hm73
  clear hm73
  try dsimp only at hm80
  simp [hT, hc14, hc30]
  refine CallAt.fn (r_reduce_Normal T hT hx79) ?_
  simp [hT, hc14, hc30]
  apply hk75
  refine AWp.sr [] fun K81 hk82 => ?_
  obtain ⟨x83, x84, x85, hx86, hm87⟩ := bind3_some hm80
  clear hm80
  try dsimp only at hm87
  simp [hT, hc14, hc30]
  refine CallAt.fn (r_reduce_Normal T hT hx86) ?_
  simp [hT, hc14, hc30]
  apply hk82
  refine AWp.seqK fun K88 hk89 => ?_
  refine AWp.seqP (fun fr h => ∃ (g5_93 : Nat) (g6_93 : Nat) (g7_93 : Nat) (g8_93 : Nat) (g11_93 : Nat), hset [[]] 0 [AV.slice .frz (List.map (fun n => AV.sc (Value.int .i64 n)) d71.l), AV.sc (.int .i64 d71.atF)] = h ∧ (fr.env 5 = AV.lptr 5 g5_93 0 ∧ fr.env 6 = AV.lptr 6 g6_93 0 ∧ fr.env 7 = AV.lptr 7 g7_93 0 ∧ fr.env 8 = AV.lptr 8 g8_93 0 ∧ fr.env 9 = AV.sc (.int .i64 x77) ∧ fr.env 10 = AV.sc (.int .i64 x78) ∧ fr.env 11 = AV.lptr 11 g11_93 0 ∧ fr.env 12 = AV.sc (.int .i64 x84) ∧ fr.env 13 = AV.sc (.int .i64 x85) ∧ fr.env 59 = AV.sc (.bool (sel (ine x78 0) true (ine x85 0))) ∧ fr.gen 5 = g5_93 ∧ fr.box 5 = some [AV.sc (.int .i64 x48.kind), AV.slice .frz (List.map Ty.av x48.args)] ∧ fr.gen 6 = g6_93 ∧ fr.box 6 = some [AV.sc (.int .i64 x58.kind), AV.sc (.int .i64 x58.index), AV.sc (.int .i64 x58.typeF.kind), AV.slice .frz (List.map Ty.av x58.typeF.args), AV.slice .frz (List.map Tm.av x58.args)] ∧ fr.gen 7 = g7_93 ∧ fr.box 7 = some [AV.sc (.int .i64 x70.kind), AV.sc (.int .i64 x70.index), AV.sc (.int .i64 x70.typeF.kind), AV.slice .frz (List.map Ty.av x70.typeF.args), AV.slice .frz (List.map Tm.av x70.args)] ∧ fr.gen 8 = g8_93 ∧ fr.box 8 = some [AV.sc (.int .i64 x76.kind), AV.sc (.int .i64 x76.index), AV.sc (.int .i64 x76.typeF.kind), AV.slice .frz (List.map Ty.av x76.typeF.args), AV.slice .frz (List.map Tm.av x76.args)] ∧ fr.gen 11 = g11_93 ∧ fr.box 11 = some [AV.sc (.int .i64 x83.kind), AV.sc (.int .i64 x83.index), AV.sc (.int .i64 x83.typeF.kind), AV.slice .frz (List.map Ty.av x83.typeF.args), AV.slice .frz (List.map Tm.av x83.args)])) (fun K90 hk91 => ?_) ?_
  · refine AWp.region [] (by decide +kernel) ?_
    rcases Bool.eq_false_or_eq_true (ine x78 0) with hc92 | hc92
    · simp [hT, hc14, hc30, hc92]
      refine hk91 _ _ ⟨1, 1, 1, 1, 1, ?_, ⟨?_, ?_, ?_, ?_, ?_, ?_, ?_, ?_, ?_, ?_, ?_, ?_, ?_, ?_, ?_, ?_, ?_, ?_, ?_, ?_⟩⟩ <;> first | rfl | simp [hT, hc14, hc30, hc92]
    simp [hT, hc14, hc30, hc92]
    refine hk91 _ _ ⟨1, 1, 1, 1, 1, ?_, ⟨?_, ?_, ?_, ?_, ?_, ?_, ?_, ?_, ?_, ?_, ?_, ?_, ?_, ?_, ?_, ?_, ?_, ?_, ?_, ?_⟩⟩ <;> first | rfl | simp [hT, hc14, hc30, hc92]
  rintro fr93 h93 ⟨g5_93, g6_93, g7_93, g8_93, g11_93, rfl, E93⟩
  refine AWp.condK fun A94 B95 ga96 gb97 => ?_
  rcases ite_some hm87 with ⟨hc98, hm99⟩ | ⟨hc98, hm100⟩
  rotate_left
  · clear hm87
    simp [E93, hT, hc14, hc30, hc98]
    apply gb97
    refine AWp.skip ?_
    apply hk89
    refine AWp.seqK fun K101 hk102 => ?_
    refine AWp.regionD [] false mixed (by decide +kernel) (by decide +kernel) ?_
    obtain ⟨x103, hx104, hm105⟩ := bind1_some hm100
    clear hm100
    try dsimp only at hm105
    simp [E93, hT, hc14, hc30, hc98]
    refine CallAtD.fn (r_ref02_T T hx104) (by simp) ?_
    obtain ⟨x106, hx107, hm108⟩ := bind1_some hm105
    clear hm105
    try dsimp only at hm108
    simp [E93, hT, hc14, hc30, hc98]
    refine CallAtD.fn (r_ref02_N T hx107) (by simp) ?_
    obtain ⟨x109, x110, x111, hx112, hm113⟩ := bind3_some hm108
    clear hm108
    try dsimp only at hm113
    simp [E93, hT, hc14, hc30, hc98]
    refine CallAtD.fn (r_reduce_Normal T hT hx112) (by simp) ?_
    simp [E93, hT, hc14, hc30, hc98]
    apply hk102
    refine AWp.seqK fun K114 hk115 => ?_
    refine AWp.sr [] fun K116 hk117 => ?_
    simp [E93, hT, hc14, hc30, hc98]
    apply hk117
    refine AWp.condK fun A118 B119 ga120 gb121 => ?_
    rcases ite_some hm113 with ⟨hc122, hm123⟩ | ⟨hc122, hm124⟩
    · clear hm113
      simp [E93, hT, hc14, hc30, hc98, hc122]
      apply ga120
      refine AWp.sr [] fun K125 hk126 => ?_
      simp [E93, hT, hc14, hc30, hc98, hc122]
      apply hk126
      refine AWp.ret ?_
      obtain rfl := Option.some.inj hm123
      simp [retQ, E93, hT, hc14, hc30, hc98, hc122]
    clear hm113
    simp [E93, hT, hc14, hc30, hc98, hc122]
    apply gb121
    refine AWp.skip ?_
    apply hk115
    obtain ⟨j127, hj128, hm129⟩ := joinB_some hm124
    clear hm124
    refine AWp.seqP (fun fr h => ∃ (v130 : Bool), hset [[]] 0 [AV.slice .frz (List.map (fun n => AV.sc (Value.int .i64 n)) d71.l), AV.sc (.int .i64 d71.atF)] = h ∧ fr.env 2 = AV.sc (.bool v130) ∧ j127 v130 = some r0) (fun K131 hk132 => ?_) ?_
    rotate_left
    · clear hm129
      rintro fr133 h133 ⟨v130, rfl, E133, hm134⟩
      subst hj128
      refine AWp.ret ?_
      obtain rfl := Option.some.inj hm134
      simp [retQ, E133, hT, hc14, hc30, hc98, hc122]
    refine AWp.regionD [] false mixed (by decide +kernel) (by decide +kernel) ?_
    rcases ite_some hm129 with ⟨hc135, hm136⟩ | ⟨hc135, hm137⟩
    rotate_left
    · clear hm129
      simp [E93, hT, hc14, hc30, hc98, hc122, hc135]
      refine hk132 _ _ ⟨false, ?_, ?_, hm137⟩ <;> first | rfl | simp [E93, hT, hc14, hc30, hc98, hc122, hc135]
    clear hm129
    obtain ⟨x138, hx139, hm140⟩ := bind1_some hm136
    clear hm136
    try dsimp only at hm140
    simp [E93, hT, hc14, hc30, hc98, hc122, hc135]
    refine CallAtD.fn (r_ref02_T T hx139) (by simp) ?_
    obtain ⟨x141, hx142, hm143⟩ := bind1_some hm140
    clear hm140
    try dsimp only at hm143
    simp [E93, hT, hc14, hc30, hc98, hc122, hc135]
    refine CallAtD.fn (r_ref02_N T hx142) (by simp) ?_
    obtain ⟨x144, hx145, hm146⟩ := bind1_some hm143
    clear hm143
    try dsimp only at hm146
    simp [E93, hT, hc14, hc30, hc98, hc122, hc135]
    refine CallAtD.fn (r_ref02_Same T hx145) (by simp) ?_
    simp [E93, hT, hc14, hc30, hc98, hc122, hc135]
    refine hk132 _ _ ⟨x144, ?_, ?_, hm146⟩ <;> first | rfl | simp [E93, hT, hc14, hc30, hc98, hc122, hc135]
  clear hm87
  simp [E93, hT, hc14, hc30, hc98]
  apply ga96
  refine AWp.seqP (fun fr h => hset [[]] 0 [AV.slice .frz (List.map (fun n => AV.sc (Value.int .i64 n)) d71.l), AV.sc (.int .i64 d71.atF)] = h ∧ fr.env 2 = AV.sc (.bool (sel (ieq x78 0) (sel (ieq x85 0) true (sel (ieq x85 4) true (ieq x85 5))) (sel (ieq x78 4) (sel (ieq x85 0) true (sel (ieq x85 4) true (ieq x85 5))) (sel (ieq x78 5) (sel (ieq x85 0) true (sel (ieq x85 4) true (ieq x85 5))) false))))) (fun K147 hk148 => ?_) ?_
  rotate_left
  · rintro fr149 h149 ⟨rfl, E149⟩
    refine AWp.ret ?_
    obtain rfl := Option.some.inj hm99
    simp [retQ, E149, hT, hc14, hc30, hc98]
  refine AWp.region [] (by decide +kernel) ?_
  rcases Bool.eq_false_or_eq_true (ieq x78 0) with hc150 | hc150
  · rcases Bool.eq_false_or_eq_true (ieq x85 0) with hc151 | hc151
    · simp [E93, hT, hc14, hc30, hc98, hc150, hc151]
      refine hk148 _ _ ⟨?_, ?_⟩ <;> first | rfl | simp [E93, hT, hc14, hc30, hc98, hc150, hc151]
    rcases Bool.eq_false_or_eq_true (ieq x85 4) with hc152 | hc152
    · simp [E93, hT, hc14, hc30, hc98, hc150, hc151, hc152]
      refine hk148 _ _ ⟨?_, ?_⟩ <;> first | rfl | simp [E93, hT, hc14, hc30, hc98, hc150, hc151, hc152]
    simp [E93, hT, hc14, hc30, hc98, hc150, hc151, hc152]
    refine hk148 _ _ ⟨?_, ?_⟩ <;> first | rfl | simp [E93, hT, hc14, hc30, hc98, hc150, hc151, hc152]
  rcases Bool.eq_false_or_eq_true (ieq x78 4) with hc153 | hc153
  · rcases Bool.eq_false_or_eq_true (ieq x85 0) with hc154 | hc154
    · simp [E93, hT, hc14, hc30, hc98, hc150, hc153, hc154]
      refine hk148 _ _ ⟨?_, ?_⟩ <;> first | rfl | simp [E93, hT, hc14, hc30, hc98, hc150, hc153, hc154]
    rcases Bool.eq_false_or_eq_true (ieq x85 4) with hc155 | hc155
    · simp [E93, hT, hc14, hc30, hc98, hc150, hc153, hc154, hc155]
      refine hk148 _ _ ⟨?_, ?_⟩ <;> first | rfl | simp [E93, hT, hc14, hc30, hc98, hc150, hc153, hc154, hc155]
    simp [E93, hT, hc14, hc30, hc98, hc150, hc153, hc154, hc155]
    refine hk148 _ _ ⟨?_, ?_⟩ <;> first | rfl | simp [E93, hT, hc14, hc30, hc98, hc150, hc153, hc154, hc155]
  rcases Bool.eq_false_or_eq_true (ieq x78 5) with hc156 | hc156
  rotate_left
  · simp [E93, hT, hc14, hc30, hc98, hc150, hc153, hc156]
    refine hk148 _ _ ⟨?_, ?_⟩ <;> first | rfl | simp [E93, hT, hc14, hc30, hc98, hc150, hc153, hc156]
  rcases Bool.eq_false_or_eq_true (ieq x85 0) with hc157 | hc157
  · simp [E93, hT, hc14, hc30, hc98, hc150, hc153, hc156, hc157]
    refine hk148 _ _ ⟨?_, ?_⟩ <;> first | rfl | simp [E93, hT, hc14, hc30, hc98, hc150, hc153, hc156, hc157]
  rcases Bool.eq_false_or_eq_true (ieq x85 4) with hc158 | hc158
  · simp [E93, hT, hc14, hc30, hc98, hc150, hc153, hc156, hc157, hc158]
    refine hk148 _ _ ⟨?_, ?_⟩ <;> first | rfl | simp [E93, hT, hc14, hc30, hc98, hc150, hc153, hc156, hc157, hc158]
  simp [E93, hT, hc14, hc30, hc98, hc150, hc153, hc156, hc157, hc158]
  refine hk148 _ _ ⟨?_, ?_⟩ <;> first | rfl | simp [E93, hT, hc14, hc30, hc98, hc150, hc153, hc156, hc157, hc158]

theorem enters104 : entersB Tryd.prog 104 = true := by kernel_rfl

theorem rg_tree_SameType (T : Tabs) : ∀ (n : Nat), (∀ {H : Heap} {a0 : Ty} {a1 : Ty} {r0 : Bool} (hm : tree_SameType n a0 a1 = some r0), ACall Tryd.prog T 104 [Ty.av a0, Ty.av a1] H (AV.sc (.bool r0)) H) := by
  intro n
  induction n with
  | zero =>
    skip
    all_goals
      intros
      rename_i hm
      cases hm
  | succ n ih =>
    intro H a0 a1 r0 hm
    rw [tree_SameType] at hm
    refine ACallP.intro (fn := Tryd.f104) Tryd.func104 rfl enters104 (Nat.le_of_ble_eq_true rfl) ?_
    refine AWp.sr [] fun K1 hk2 => ?_
    simp
    apply hk2
    refine AWp.seqK fun K3 hk4 => ?_
    refine AWp.seqP (fun fr h => ∃ (g2_8 : Nat) (g3_8 : Nat), H = h ∧ (fr.env 2 = AV.lptr 2 g2_8 0 ∧ fr.env 3 = AV.lptr 3 g3_8 0 ∧ fr.env 20 = AV.sc (.bool (sel (ine a0.kind a1.kind) true (ine (llen a0.args) (llen a1.args)))) ∧ fr.gen 2 = g2_8 ∧ fr.box 2 = some [AV.sc (.int .i64 a0.kind), AV.slice .frz (List.map Ty.av a0.args)] ∧ fr.gen 3 = g3_8 ∧ fr.box 3 = some [AV.sc (.int .i64 a1.kind), AV.slice .frz (List.map Ty.av a1.args)])) (fun K5 hk6 => ?_) ?_
    · refine AWp.region [] (by decide +kernel) ?_
      rcases Bool.eq_false_or_eq_true (ine a0.kind a1.kind) with hc7 | hc7
      · simp [hc7]
        refine hk6 _ _ ⟨1, 1, ?_, ⟨?_, ?_, ?_, ?_, ?_, ?_, ?_⟩⟩ <;> first | rfl | simp [hc7]
      simp [hc7]
      refine hk6 _ _ ⟨1, 1, ?_, ⟨?_, ?_, ?_, ?_, ?_, ?_, ?_⟩⟩ <;> first | rfl | simp [hc7]
    rintro fr8 h8 ⟨g2_8, g3_8, rfl, E8⟩
    refine AWp.condK fun A9 B10 ga11 gb12 => ?_
    rcases ite_some hm with ⟨hc13, hm14⟩ | ⟨hc13, hm15⟩
    · clear hm
      simp [E8, hc13]
      apply ga11
      refine AWp.sr [] fun K16 hk17 => ?_
      simp [E8, hc13]
      apply hk17
      refine AWp.ret ?_
      obtain rfl := Option.some.inj hm14
      simp [retQ, E8, hc13]
    clear hm
    simp [E8, hc13]
    apply gb12
    refine AWp.skip ?_
    apply hk4
    refine AWp.seqK fun K18 hk19 => ?_
    refine AWp.sr [] fun K20 hk21 => ?_
    simp [E8, hc13]
    apply hk21
    obtain ⟨hok22, hm23⟩ := chk_some hm15
    clear hm15
    obtain ⟨F24, hF25, hm26⟩ := joinB_some hm23
    clear hm23
    try dsimp only at hm26
    obtain ⟨out27, hl28, hmB29⟩ := bind1_some hm26
    clear hm26
    refine AWp.blockK fun Q30 nn31 ne32 nx33 nr34 => ?_
    refine AWp.loopF (fun n35 fr h => ∃ (i36 : Nat) (j37 : Int) (g3_38 : Nat), H = h ∧ (fr.env 3 = AV.lptr 3 g3_38 0 ∧ fr.env 22 = AV.slice .frz (List.map Ty.av a0.args) ∧ fr.env 23 = AV.sc (.int .i64 (llen a0.args)) ∧ fr.env 24 = AV.sc (.int .i64 j37) ∧ fr.gen 3 = g3_38 ∧ fr.box 3 = some [AV.sc (.int .i64 a1.kind), AV.slice .frz (List.map Ty.av a1.args)]) ∧ j37 = (i36 : Int) ∧ i36 + n35 = List.length a0.args ∧ forR F24 (List.drop i36 a0.args) i36 () = some out27) (List.length a0.args) ?_ ?_
    · refine ⟨0, 0, g3_8, ?_, ⟨?_, ?_, ?_, ?_, ?_, ?_⟩, rfl, (by simp), hl28⟩ <;> first | rfl | simp [E8, hc13]
    rintro n35 fr38 h38 ⟨i36, j37, g3_38, rfl, E38, hj39, hi40, hl28⟩ K41 hK42
    rcases n35 with _ | n35
    · have hlt43 := ilt_notJ (l := a0.args) hj39 (by omega)
      refine AWp.sr [] fun K44 hk45 => ?_
      simp [E38, hlt43, hc13]
      apply hk45
      refine AWp.seqK fun K46 hk47 => ?_
      refine AWp.condK fun A48 B49 ga50 gb51 => ?_
      simp [E38, hlt43, hc13]
      apply gb51
      refine AWp.exit ?_
      apply ne32
      rw [List.drop_eq_nil_of_le (by omega), forR_nil] at hl28
      obtain rfl := Option.some.inj hl28
      rw [sumK_inl] at hmB29
      try dsimp only at hmB29
      apply hk19
      refine AWp.sr [] fun K52 hk53 => ?_
      simp [E38, hlt43, hc13]
      apply hk53
      refine AWp.ret ?_
      obtain rfl := Option.some.inj hmB29
      simp [retQ, E38, hlt43, hc13]
    have hlt43 := ilt_ofJ (l := a0.args) hj39 (by omega)
    obtain ⟨x54, hdn35, hg55⟩ := drop_ltJ (l := a0.args) hj39 (by omega)
    rw [hdn35, forR_cons] at hl28
    obtain ⟨c56, hb57, hk58⟩ := bind1_some hl28
    clear hl28
    rw [hF25, ← hj39] at hb57
    try dsimp only at hb57
    refine AWp.sr [] fun K59 hk60 => ?_
    simp [E38, hlt43, hg55, hc13]
    apply hk60
    refine AWp.seqK fun K61 hk62 => ?_
    refine AWp.condK fun A63 B64 ga65 gb66 => ?_
    simp [E38, hlt43, hg55, hc13]
    apply ga65
    refine AWp.skip ?_
    apply hk62
    refine AWp.seqK fun K67 hk68 => ?_
    refine AWp.blockK fun Q69 nn70 ne71 nx72 nr73 => ?_
    refine AWp.sr [] fun K74 hk75 => ?_
    simp [E38, hlt43, hg55, hc13]
    apply hk75
    refine AWp.seqK fun K76 hk77 => ?_
    refine AWp.regionD [] false mixed (by decide +kernel) (by decide +kernel) ?_
    obtain ⟨x78, hx79, hm80⟩ := bind1_some hb57
    clear hb57
    try dsimp only at hm80
    obtain ⟨x81, hx82, hm83⟩ := bind1_some hm80
    clear hm80
    try dsimp only at hm83
    simp [E38, hlt43, hg55, hx79, hc13]
    refine CallAtD.fn (ih hx82) (by simp) ?_
    simp [E38, hlt43, hg55, hx79, hc13]
    apply hk77
    refine AWp.condK fun A84 B85 ga86 gb87 => ?_
    rcases ite_some hm83 with ⟨hc88, hm89⟩ | ⟨hc88, hm90⟩
    rotate_left
    · clear hm83
      simp [E38, hlt43, hg55, hx79, hc13, hc88]
      apply ga86
      refine AWp.sr [] fun K91 hk92 => ?_
      simp [E38, hlt43, hg55, hx79, hc13, hc88]
      apply hk92
      refine AWp.ret ?_
      apply nr73
      apply nr34
      obtain rfl := Option.some.inj hm90
      rw [ctlK_ret] at hk58
      obtain rfl := Option.some.inj hk58
      rw [sumK_inr] at hmB29
      try dsimp only at hmB29
      obtain rfl := Option.some.inj hmB29
      simp [retQ, E38, hlt43, hg55, hx79, hc13, hc88]
    clear hm83
    simp [E38, hlt43, hg55, hx79, hc13, hc88]
    apply gb87
    refine AWp.skip ?_
    apply nn70
    apply hk68
    refine AWp.region [] (by decide +kernel) ?_
    simp [E38, hlt43, hg55, hx79, hc13, hc88]
    obtain rfl := Option.some.inj hm89
    rw [ctlK_next] at hk58
    refine hK42 _ _ n35 (Nat.lt_succ_self _) ⟨(i36 + 1), (iadd .i64 j37 1), g3_38, ?_, ⟨?_, ?_, ?_, ?_, ?_, ?_⟩, (iadd_idxJ hj39 (by omega) hok22), (by omega), hk58⟩ <;> first | rfl | simp [E38, hlt43, hg55, hx79, hc13, hc88]
theorem r_tree_SameType (T : Tabs) {H : Heap} {a0 : Ty} {a1 : Ty} {r0 : Bool} {n : Nat} (hm : tree_SameType n a0 a1 = some r0) : ACall Tryd.prog T 104 [Ty.av a0, Ty.av a1] H (AV.sc (.bool r0)) H := (rg_tree_SameType T n) hm

theorem enters89 : entersB Tryd.prog 89 = true := by kernel_rfl

theorem rg_tree_SameTerm (T : Tabs) : ∀ (n : Nat), (∀ {H : Heap} {a0 : Tm} {a1 : Tm} {r0 : Bool} (hm : tree_SameTerm n a0 a1 = some r0), ACall Tryd.prog T 89 [Tm.av a0, Tm.av a1] H (AV.sc (.bool r0)) H) := by
  intro n
  induction n with
  | zero =>
    skip
    all_goals
      intros
      rename_i hm
      cases hm
  | succ n ih =>
    intro H a0 a1 r0 hm
    rw [tree_SameTerm] at hm
    refine ACallP.intro (fn := Tryd.f89) Tryd.func89 rfl enters89 (Nat.le_of_ble_eq_true rfl) ?_
    refine AWp.sr [] fun K1 hk2 => ?_
    simp
    apply hk2
    refine AWp.seqK fun K3 hk4 => ?_
    obtain ⟨j5, hj6, hm7⟩ := joinB_some hm
    clear hm
    refine AWp.seqP (fun fr h => ∃ (v8 : Bool) (g2_23 : Nat) (g3_23 : Nat), H = h ∧ (fr.env 2 = AV.lptr 2 g2_23 0 ∧ fr.env 3 = AV.lptr 3 g3_23 0 ∧ fr.env 35 = AV.sc (.bool v8) ∧ fr.gen 2 = g2_23 ∧ fr.box 2 = some [AV.sc (.int .i64 a0.kind), AV.sc (.int .i64 a0.index), AV.sc (.int .i64 a0.typeF.kind), AV.slice .frz (List.map Ty.av a0.typeF.args), AV.slice .frz (List.map Tm.av a0.args)] ∧ fr.gen 3 = g3_23 ∧ fr.box 3 = some [AV.sc (.int .i64 a1.kind), AV.sc (.int .i64 a1.index), AV.sc (.int .i64 a1.typeF.kind), AV.slice .frz (List.map Ty.av a1.typeF.args), AV.slice .frz (List.map Tm.av a1.args)]) ∧ j5 v8 = some r0) (fun K9 hk10 => ?_) ?_
    · refine AWp.region [] (by decide +kernel) ?_
      rcases ite_some hm7 with ⟨hc11, hm12⟩ | ⟨hc11, hm13⟩
      · clear hm7
        simp [hc11]
        refine hk10 _ _ ⟨true, 1, 1, ?_, ⟨?_, ?_, ?_, ?_, ?_, ?_, ?_⟩, hm12⟩ <;> first | rfl | simp [hc11]
      clear hm7
      rcases ite_some hm13 with ⟨hc14, hm15⟩ | ⟨hc14, hm16⟩
      · clear hm13
        simp [hc11, hc14]
        refine hk10 _ _ ⟨true, 1, 1, ?_, ⟨?_, ?_, ?_, ?_, ?_, ?_, ?_⟩, hm15⟩ <;> first | rfl | simp [hc11, hc14]
      clear hm13
      obtain ⟨x17, hx18, hm19⟩ := bind1_some hm16
      clear hm16
      try dsimp only at hm19
      simp [hc11, hc14]
      refine CallAt.fn (r_tree_SameType T hx18) ?_
      rcases ite_some hm19 with ⟨hc20, hm21⟩ | ⟨hc20, hm22⟩
      rotate_left
      · clear hm19
        simp [hc11, hc14, hc20]
        refine hk10 _ _ ⟨true, 1, 1, ?_, ⟨?_, ?_, ?_, ?_, ?_, ?_, ?_⟩, hm22⟩ <;> first | rfl | simp [hc11, hc14, hc20]
      clear hm19
      simp [hc11, hc14, hc20]
      refine hk10 _ _ ⟨(ine (llen a0.args) (llen a1.args)), 1, 1, ?_, ⟨?_, ?_, ?_, ?_, ?_, ?_, ?_⟩, hm21⟩ <;> first | rfl | simp [hc11, hc14, hc20]
    clear hm7
    rintro fr23 h23 ⟨v8, g2_23, g3_23, rfl, E23, hm24⟩
    subst hj6
    refine AWp.condK fun A25 B26 ga27 gb28 => ?_
    rcases ite_some hm24 with ⟨hc29, hm30⟩ | ⟨hc29, hm31⟩
    · clear hm24
      simp [E23, hc29]
      apply ga27
      refine AWp.sr [] fun K32 hk33 => ?_
      simp [E23, hc29]
      apply hk33
      refine AWp.ret ?_
      obtain rfl := Option.some.inj hm30
      simp [retQ, E23, hc29]
    clear hm24
    simp [E23, hc29]
    apply gb28
    refine AWp.skip ?_
    apply hk4
    refine AWp.seqK fun K34 hk35 => ?_
    refine AWp.sr [] fun K36 hk37 => ?_
    simp [E23, hc29]
    apply hk37
    obtain ⟨hok38, hm39⟩ := chk_some hm31
    clear hm31
    obtain ⟨F40, hF41, hm42⟩ := joinB_some hm39
    clear hm39
    try dsimp only at hm42
    obtain ⟨out43, hl44, hmB45⟩ := bind1_some hm42
    clear hm42
    refine AWp.blockK fun Q46 nn47 ne48 nx49 nr50 => ?_
    refine AWp.loopF (fun n51 fr h => ∃ (i52 : Nat) (j53 : Int) (g3_54 : Nat), H = h ∧ (fr.env 3 = AV.lptr 3 g3_54 0 ∧ fr.env 37 = AV.slice .frz (List.map Tm.av a0.args) ∧ fr.env 38 = AV.sc (.int .i64 (llen a0.args)) ∧ fr.env 39 = AV.sc (.int .i64 j53) ∧ fr.gen 3 = g3_54 ∧ fr.box 3 = some [AV.sc (.int .i64 a1.kind), AV.sc (.int .i64 a1.index), AV.sc (.int .i64 a1.typeF.kind), AV.slice .frz (List.map Ty.av a1.typeF.args), AV.slice .frz (List.map Tm.av a1.args)]) ∧ j53 = (i52 : Int) ∧ i52 + n51 = List.length a0.args ∧ forR F40 (List.drop i52 a0.args) i52 () = some out43) (List.length a0.args) ?_ ?_
    · refine ⟨0, 0, g3_23, ?_, ⟨?_, ?_, ?_, ?_, ?_, ?_⟩, rfl, (by simp), hl44⟩ <;> first | rfl | simp [E23, hc29]
    rintro n51 fr54 h54 ⟨i52, j53, g3_54, rfl, E54, hj55, hi56, hl44⟩ K57 hK58
    rcases n51 with _ | n51
    · have hlt59 := ilt_notJ (l := a0.args) hj55 (by omega)
      refine AWp.sr [] fun K60 hk61 => ?_
      simp [E54, hlt59, hc29]
      apply hk61
      refine AWp.seqK fun K62 hk63 => ?_
      refine AWp.condK fun A64 B65 ga66 gb67 => ?_
      simp [E54, hlt59, hc29]
      apply gb67
      refine AWp.exit ?_
      apply ne48
      rw [List.drop_eq_nil_of_le (by omega), forR_nil] at hl44
      obtain rfl := Option.some.inj hl44
      rw [sumK_inl] at hmB45
      try dsimp only at hmB45
      apply hk35
      refine AWp.sr [] fun K68 hk69 => ?_
      simp [E54, hlt59, hc29]
      apply hk69
      refine AWp.ret ?_
      obtain rfl := Option.some.inj hmB45
      simp [retQ, E54, hlt59, hc29]
    have hlt59 := ilt_ofJ (l := a0.args) hj55 (by omega)
    obtain ⟨x70, hdn51, hg71⟩ := drop_ltJ (l := a0.args) hj55 (by omega)
    rw [hdn51, forR_cons] at hl44
    obtain ⟨c72, hb73, hk74⟩ := bind1_some hl44
    clear hl44
    rw [hF41, ← hj55] at hb73
    try dsimp only at hb73
    refine AWp.sr [] fun K75 hk76 => ?_
    simp [E54, hlt59, hg71, hc29]
    apply hk76
    refine AWp.seqK fun K77 hk78 => ?_
    refine AWp.condK fun A79 B80 ga81 gb82 => ?_
    simp [E54, hlt59, hg71, hc29]
    apply ga81
    refine AWp.skip ?_
    apply hk78
    refine AWp.seqK fun K83 hk84 => ?_
    refine AWp.blockK fun Q85 nn86 ne87 nx88 nr89 => ?_
    refine AWp.sr [] fun K90 hk91 => ?_
    simp [E54, hlt59, hg71, hc29]
    apply hk91
    refine AWp.seqK fun K92 hk93 => ?_
    refine AWp.regionD [] false mixed (by decide +kernel) (by decide +kernel) ?_
    obtain ⟨x94, hx95, hm96⟩ := bind1_some hb73
    clear hb73
    try dsimp only at hm96
    obtain ⟨x97, hx98, hm99⟩ := bind1_some hm96
    clear hm96
    try dsimp only at hm99
    simp [E54, hlt59, hg71, hx95, hc29]
    refine CallAtD.fn (ih hx98) (by simp) ?_
    simp [E54, hlt59, hg71, hx95, hc29]
    apply hk93
    refine AWp.condK fun A100 B101 ga102 gb103 => ?_
    rcases ite_some hm99 with ⟨hc104, hm105⟩ | ⟨hc104, hm106⟩
    rotate_left
    · clear hm99
      simp [E54, hlt59, hg71, hx95, hc29, hc104]
      apply ga102
      refine AWp.sr [] fun K107 hk108 => ?_
      simp [E54, hlt59, hg71, hx95, hc29, hc104]
      apply hk108
      refine AWp.ret ?_
      apply nr89
      apply nr50
      obtain rfl := Option.some.inj hm106
      rw [ctlK_ret] at hk74
      obtain rfl := Option.some.inj hk74
      rw [sumK_inr] at hmB45
      try dsimp only at hmB45
      obtain rfl := Option.some.inj hmB45
      simp [retQ, E54, hlt59, hg71, hx95, hc29, hc104]
    clear hm99
    simp [E54, hlt59, hg71, hx95, hc29, hc104]
    apply gb103
    refine AWp.skip ?_
    apply nn86
    apply hk84
    refine AWp.region [] (by decide +kernel) ?_
    simp [E54, hlt59, hg71, hx95, hc29, hc104]
    obtain rfl := Option.some.inj hm105
    rw [ctlK_next] at hk74
    refine hK58 _ _ n51 (Nat.lt_succ_self _) ⟨(i52 + 1), (iadd .i64 j53 1), g3_54, ?_, ⟨?_, ?_, ?_, ?_, ?_, ?_⟩, (iadd_idxJ hj55 (by omega) hok38), (by omega), hk74⟩ <;> first | rfl | simp [E54, hlt59, hg71, hx95, hc29, hc104]
theorem r_tree_SameTerm (T : Tabs) {H : Heap} {a0 : Tm} {a1 : Tm} {r0 : Bool} {n : Nat} (hm : tree_SameTerm n a0 a1 = some r0) : ACall Tryd.prog T 89 [Tm.av a0, Tm.av a1] H (AV.sc (.bool r0)) H := (rg_tree_SameTerm T n) hm

theorem enters63 : entersB Tryd.prog 63 = true := by kernel_rfl

theorem r_terms_Same (T : Tabs) {H : Heap} {a0 : Tm} {a1 : Tm} {r0 : Bool} (hm : terms_Same a0 a1 = some r0) : ACall Tryd.prog T 63 [Tm.av a0, Tm.av a1] H (AV.sc (.bool r0)) H := by
  rw [terms_Same] at hm
  refine ACallP.intro (fn := Tryd.f63) Tryd.func63 rfl enters63 (Nat.le_of_ble_eq_true rfl) ?_
  refine AWp.sr [] fun K1 hk2 => ?_
  simp
  apply hk2
  refine AWp.sr [] fun K3 hk4 => ?_
  obtain ⟨x5, hx6, hm7⟩ := bind1_some hm
  clear hm
  try dsimp only at hm7
  simp
  refine CallAt.fn (r_tree_SameTerm T hx6) ?_
  simp
  apply hk4
  refine AWp.ret ?_
  obtain rfl := Option.some.inj hm7
  simp [retQ]

end Go.Proofs.YtnabbjnhemmkhaaDoor
