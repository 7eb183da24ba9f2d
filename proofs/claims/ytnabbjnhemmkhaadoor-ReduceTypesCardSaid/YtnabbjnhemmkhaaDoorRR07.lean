/- The program's functions do what the models say. -/
import Derived.Test.YtnabbjnhemmkhaaDoorRR06
import Derived.Test.YtnabbjnhemmkhaaDoorRM
set_option maxRecDepth 20000
set_option maxHeartbeats 4000000
set_option linter.unusedSimpArgs false
set_option linter.unusedVariables false
namespace Go.Proofs.YtnabbjnhemmkhaaDoor
open Go Go.Abs Go.Mdl

theorem enters86 : entersB Tryd.prog 86 = true := by kernel_rfl

theorem rg_ref02_infer (T : Tabs) : ∀ (n : Nat), (∀ {H : Heap} {a0 : (List Ty)} {a1 : Tm} {r0 : Ty} {r1 : Int} (hm : ref02_infer n a0 a1 = some (r0, r1)), ACall Tryd.prog T 86 [AV.slice .frz (List.map Ty.av a0), Tm.av a1] H (AV.tuple [Ty.av r0, AV.sc (.int .i64 r1)]) H) := by
  intro n
  induction n with
  | zero =>
    skip
    all_goals
      intros
      rename_i hm
      cases hm
  | succ n ih =>
    intro H a0 a1 r0 r1 hm
    rw [ref02_infer] at hm
    refine ACallP.intro (fn := Tryd.f86) Tryd.func86 rfl enters86 (Nat.le_of_ble_eq_true rfl) ?_
    refine AWp.sr [] fun K1 hk2 => ?_
    simp
    apply hk2
    refine AWp.seqK fun K3 hk4 => ?_
    refine AWp.sr [] fun K5 hk6 => ?_
    simp
    apply hk6
    refine AWp.condK fun A7 B8 ga9 gb10 => ?_
    rcases ite_some hm with ⟨hc11, hm12⟩ | ⟨hc11, hm13⟩
    · clear hm
      simp [hc11]
      apply ga9
      refine AWp.seqK fun K14 hk15 => ?_
      refine AWp.sr [] fun K16 hk17 => ?_
      simp [hc11]
      apply hk17
      refine AWp.condK fun A18 B19 ga20 gb21 => ?_
      rcases ite_some hm12 with ⟨hc22, hm23⟩ | ⟨hc22, hm24⟩
      · clear hm12
        simp [hc11, hc22]
        apply ga20
        refine AWp.sr [] fun K25 hk26 => ?_
        simp [hc11, hc22]
        apply hk26
        refine AWp.ret ?_
        simp only [Option.some.injEq, Prod.mk.injEq] at hm23
        obtain ⟨rfl, rfl⟩ := hm23
        simp [retQ, hc11, hc22]
      clear hm12
      simp [hc11, hc22]
      apply gb21
      refine AWp.skip ?_
      apply hk15
      refine AWp.sr [] fun K27 hk28 => ?_
      obtain ⟨x29, hx30, hm31⟩ := bind1_some hm24
      clear hm24
      try dsimp only at hm31
      obtain ⟨x32, hx33, hm34⟩ := bind1_some hm31
      clear hm31
      try dsimp only at hm34
      simp [hx30, hc11, hc22]
      refine CallAt.fn (r_ref01_Copy T hx33) ?_
      simp [hx30, hc11, hc22]
      apply hk28
      refine AWp.ret ?_
      simp only [Option.some.injEq, Prod.mk.injEq] at hm34
      obtain ⟨rfl, rfl⟩ := hm34
      simp [retQ, hx30, hc11, hc22]
    clear hm
    simp [hc11]
    apply gb10
    refine AWp.skip ?_
    apply hk4
    refine AWp.seqK fun K35 hk36 => ?_
    refine AWp.sr [] fun K37 hk38 => ?_
    simp [hc11]
    apply hk38
    refine AWp.condK fun A39 B40 ga41 gb42 => ?_
    rcases ite_some hm13 with ⟨hc43, hm44⟩ | ⟨hc43, hm45⟩
    · clear hm13
      simp [hc11, hc43]
      apply ga41
      refine AWp.seqK fun K46 hk47 => ?_
      refine AWp.regionD [] false mixed (by decide +kernel) (by decide +kernel) ?_
      obtain ⟨ha48, hm49⟩ := chk_some hm44
      clear hm44
      simp [hc11, hc43]
      refine AppAt.own (f := Ty.av) a0 [a1.typeF] (OwnT.full (D := [])) ap27 (by intro x; simp) ha48 (by first | rfl | simp) (by first | rfl | simp) ?_
      obtain ⟨x50, hx51, hm52⟩ := bind1_some hm49
      clear hm49
      try dsimp only at hm52
      obtain ⟨x53, x54, hx55, hm56⟩ := bind2_some hm52
      clear hm52
      try dsimp only at hm56
      simp [hx51, hc11, hc43]
      refine CallAtD.fn (ih hx55) (by simp) ?_
      simp [hx51, hc11, hc43]
      apply hk47
      refine AWp.seqK fun K57 hk58 => ?_
      refine AWp.sr [] fun K59 hk60 => ?_
      simp [hx51, hc11, hc43]
      apply hk60
      refine AWp.condK fun A61 B62 ga63 gb64 => ?_
      rcases ite_some hm56 with ⟨hc65, hm66⟩ | ⟨hc65, hm67⟩
      · clear hm56
        simp [hx51, hc11, hc43, hc65]
        apply ga63
        refine AWp.sr [] fun K68 hk69 => ?_
        simp [hx51, hc11, hc43, hc65]
        apply hk69
        refine AWp.ret ?_
        simp only [Option.some.injEq, Prod.mk.injEq] at hm66
        obtain ⟨rfl, rfl⟩ := hm66
        simp [retQ, hx51, hc11, hc43, hc65]
      clear hm56
      simp [hx51, hc11, hc43, hc65]
      apply gb64
      refine AWp.skip ?_
      apply hk58
      refine AWp.sr [] fun K70 hk71 => ?_
      obtain ⟨x72, hx73, hm74⟩ := bind1_some hm67
      clear hm67
      try dsimp only at hm74
      simp [hx51, hc11, hc43, hc65]
      refine CallAt.fn (r_ref01_Fun T hx73) ?_
      obtain ⟨x75, x76, hx77, hm78⟩ := bind2_some hm74
      clear hm74
      try dsimp only at hm78
      simp [hx51, hc11, hc43, hc65]
      refine CallAt.fn (r_ref02_ok T hx77) ?_
      simp [hx51, hc11, hc43, hc65]
      apply hk71
      refine AWp.ret ?_
      simp only [Option.some.injEq, Prod.mk.injEq] at hm78
      obtain ⟨rfl, rfl⟩ := hm78
      simp [retQ, hx51, hc11, hc43, hc65]
    clear hm13
    simp [hc11, hc43]
    apply gb42
    refine AWp.skip ?_
    apply hk36
    refine AWp.sr [] fun K79 hk80 => ?_
    simp [hc11, hc43]
    apply hk80
    refine AWp.seqK fun K81 hk82 => ?_
    refine AWp.sr [] fun K83 hk84 => ?_
    simp [hc11, hc43]
    apply hk84
    obtain ⟨hok85, hm86⟩ := chk_some hm45
    clear hm45
    obtain ⟨F87, hF88, hm89⟩ := joinB_some hm86
    clear hm86
    try dsimp only at hm89
    obtain ⟨out90, hl91, hmB92⟩ := bind1_some hm89
    clear hm89
    refine AWp.blockK fun Q93 nn94 ne95 nx96 nr97 => ?_
    refine AWp.loopF (fun n98 fr h => ∃ (i99 : Nat) (j100 : Int) (v101 : (List Ty)) (tg0_102 : Tag) (g3_102 : Nat) (g4_102 : Nat), H = h ∧ (fr.env 0 = AV.slice .frz (List.map Ty.av a0) ∧ fr.env 3 = AV.lptr 3 g3_102 0 ∧ fr.env 4 = AV.lptr 4 g4_102 0 ∧ fr.env 8 = AV.slice tg0_102 (List.map Ty.av v101) ∧ fr.env 67 = AV.slice .frz (List.map Tm.av a1.args) ∧ fr.env 68 = AV.sc (.int .i64 (llen a1.args)) ∧ fr.env 69 = AV.sc (.int .i64 j100) ∧ fr.gen 3 = g3_102 ∧ fr.box 3 = some [AV.sc (.int .i64 a1.kind), AV.sc (.int .i64 a1.index), AV.sc (.int .i64 a1.typeF.kind), AV.slice .frz (List.map Ty.av a1.typeF.args), AV.slice .frz (List.map Tm.av a1.args)] ∧ fr.gen 4 = g4_102 ∧ fr.box 4 = some [AV.sc (.int .i64 0), AV.slice .full []]) ∧ OwnT fr.tab fr.tgen [86] tg0_102 (List.length v101) ∧ j100 = (i99 : Int) ∧ i99 + n98 = List.length a1.args ∧ forR F87 (List.drop i99 a1.args) i99 v101 = some out90) (List.length a1.args) ?_ ?_
    · refine ⟨0, 0, [], .full, 1, 1, ?_, ⟨?_, ?_, ?_, ?_, ?_, ?_, ?_, ?_, ?_, ?_, ?_⟩, OwnT.full, rfl, (by simp), hl91⟩ <;> first | rfl | simp [hc11, hc43]
    rintro n98 fr102 h102 ⟨i99, j100, v101, tg0_102, g3_102, g4_102, rfl, E102, o0_102, hj103, hi104, hl91⟩ K105 hK106
    rcases n98 with _ | n98
    rotate_left
    · have hlt107 := ilt_ofJ (l := a1.args) hj103 (by omega)
      obtain ⟨x108, hdn98, hg109⟩ := drop_ltJ (l := a1.args) hj103 (by omega)
      rw [hdn98, forR_cons] at hl91
      obtain ⟨c110, hb111, hk112⟩ := bind1_some hl91
      clear hl91
      rw [hF88, ← hj103] at hb111
      try dsimp only at hb111
      refine AWp.sr [] fun K113 hk114 => ?_
      simp [E102, hlt107, hg109, hc11, hc43]
      apply hk114
      refine AWp.seqK fun K115 hk116 => ?_
      refine AWp.condK fun A117 B118 ga119 gb120 => ?_
      simp [E102, hlt107, hg109, hc11, hc43]
      apply ga119
      refine AWp.skip ?_
      apply hk116
      refine AWp.seqK fun K121 hk122 => ?_
      refine AWp.blockK fun Q123 nn124 ne125 nx126 nr127 => ?_
      refine AWp.sr [] fun K128 hk129 => ?_
      simp [E102, hlt107, hg109, hc11, hc43]
      apply hk129
      refine AWp.sr [] fun K130 hk131 => ?_
      obtain ⟨x132, x133, hx134, hm135⟩ := bind2_some hb111
      clear hb111
      try dsimp only at hm135
      simp [E102, hlt107, hg109, hc11, hc43]
      refine CallAt.fn (ih hx134) ?_
      simp [E102, hlt107, hg109, hc11, hc43]
      apply hk131
      refine AWp.seqK fun K136 hk137 => ?_
      refine AWp.sr [] fun K138 hk139 => ?_
      simp [E102, hlt107, hg109, hc11, hc43]
      apply hk139
      refine AWp.condK fun A140 B141 ga142 gb143 => ?_
      rcases ite_some hm135 with ⟨hc144, hm145⟩ | ⟨hc144, hm146⟩
      · clear hm135
        simp [E102, hlt107, hg109, hc11, hc43, hc144]
        apply ga142
        refine AWp.sr [] fun K147 hk148 => ?_
        simp [E102, hlt107, hg109, hc11, hc43, hc144]
        apply hk148
        refine AWp.ret ?_
        apply nr127
        apply nr97
        obtain rfl := Option.some.inj hm145
        rw [ctlK_ret] at hk112
        obtain rfl := Option.some.inj hk112
        rw [sumK_inr] at hmB92
        try dsimp only at hmB92
        simp only [Option.some.injEq, Prod.mk.injEq] at hmB92
        obtain ⟨rfl, rfl⟩ := hmB92
        simp [retQ, E102, hlt107, hg109, hc11, hc43, hc144]
      clear hm135
      simp [E102, hlt107, hg109, hc11, hc43, hc144]
      apply gb143
      refine AWp.skip ?_
      apply hk137
      refine AWp.region [] (by decide +kernel) ?_
      obtain ⟨ha149, hm150⟩ := chk_some hm146
      clear hm146
      simp [E102, hlt107, hg109, hc11, hc43, hc144]
      refine AppAt2.own (f := Ty.av) v101 [x132] o0_102 ap27 (by intro x; simp) ha149 (by first | rfl | simp) (by first | rfl | simp) ?_
      simp [E102, hlt107, hg109, hc11, hc43, hc144]
      apply nn124
      apply hk122
      refine AWp.region [] (by decide +kernel) ?_
      simp [E102, hlt107, hg109, hc11, hc43, hc144]
      obtain rfl := Option.some.inj hm150
      rw [ctlK_next] at hk112
      refine hK106 _ _ n98 (Nat.lt_succ_self _) ⟨(i99 + 1), (iadd .i64 j100 1), (lapp v101 [x132]), (.loc 86 (fr102.tgen 86 + 1)), g3_102, g4_102, ?_, ⟨?_, ?_, ?_, ?_, ?_, ?_, ?_, ?_, ?_, ?_, ?_⟩, (OwnT.mono (D := [86]) (OwnT.new (D := [86]) (d := 86) (by decide)) (by decide)), (iadd_idxJ hj103 (by omega) hok85), (by omega), hk112⟩ <;> first | rfl | simp [E102, hlt107, hg109, hc11, hc43, hc144]
    have hlt107 := ilt_notJ (l := a1.args) hj103 (by omega)
    refine AWp.sr [] fun K151 hk152 => ?_
    simp [E102, hlt107, hc11, hc43]
    apply hk152
    refine AWp.seqK fun K153 hk154 => ?_
    refine AWp.condK fun A155 B156 ga157 gb158 => ?_
    simp [E102, hlt107, hc11, hc43]
    apply gb158
    refine AWp.exit ?_
    apply ne95
    rw [List.drop_eq_nil_of_le (by omega), forR_nil] at hl91
    obtain rfl := Option.some.inj hl91
    rw [sumK_inl] at hmB92
    try dsimp only at hmB92
    apply hk82
    refine AWp.sr [] fun K159 hk160 => ?_
    obtain ⟨x161, hx162, hm163⟩ := bind1_some hmB92
    clear hmB92
    try dsimp only at hm163
    simp [E102, hlt107, hc11, hc43]
    refine CallAt.fn (r_ref01_Nat T hx162) ?_
    obtain ⟨x164, hx165, hm166⟩ := bind1_some hm163
    clear hm163
    try dsimp only at hm166
    simp [E102, hlt107, hc11, hc43]
    refine CallAt.fn (r_ref01_List T hx165) ?_
    simp [E102, hlt107, hc11, hc43]
    apply hk160
    refine AWp.seqK fun K167 hk168 => ?_
    refine AWp.sr [] fun K169 hk170 => ?_
    simp [E102, hlt107, hc11, hc43]
    apply hk170
    refine AWp.blockK fun Q171 nn172 ne173 nx174 nr175 => ?_
    refine AWp.sr [] fun K176 hk177 => ?_
    simp [E102, hlt107, hc11, hc43]
    apply hk177
    refine AWp.condK fun A178 B179 ga180 gb181 => ?_
    rcases ite_some hm166 with ⟨hc182, hm183⟩ | ⟨hc182, hm184⟩
    · clear hm166
      simp [E102, hlt107, hc11, hc43, hc182]
      apply ga180
      refine AWp.seqK fun K185 hk186 => ?_
      obtain ⟨j187, hj188, hm189⟩ := joinB_some hm183
      clear hm183
      refine AWp.seqP (fun fr h => ∃ (v190 : Bool) (tg0_193 : Tag) (g4_193 : Nat), H = h ∧ (fr.env 4 = AV.lptr 4 g4_193 0 ∧ fr.env 8 = AV.slice tg0_193 (List.map Ty.av v101) ∧ fr.env 111 = AV.sc (.bool v190) ∧ fr.gen 4 = g4_193 ∧ fr.box 4 = some [AV.sc (.int .i64 0), AV.slice .full []]) ∧ OwnT fr.tab fr.tgen [86] tg0_193 (List.length v101) ∧ j187 v190 = some (r0, r1)) (fun K191 hk192 => ?_) ?_
      rotate_left
      · clear hm189
        rintro fr193 h193 ⟨v190, tg0_193, g4_193, rfl, E193, o0_193, hm194⟩
        subst hj188
        refine AWp.condK fun A195 B196 ga197 gb198 => ?_
        rcases ite_some hm194 with ⟨hc199, hm200⟩ | ⟨hc199, hm201⟩
        · clear hm194
          simp [E193, hlt107, hc11, hc43, hc182, hc199]
          apply ga197
          refine AWp.sr [] fun K202 hk203 => ?_
          simp [E193, hlt107, hc11, hc43, hc182, hc199]
          apply hk203
          refine AWp.ret ?_
          apply nr175
          simp only [Option.some.injEq, Prod.mk.injEq] at hm200
          obtain ⟨rfl, rfl⟩ := hm200
          simp [retQ, E193, hlt107, hc11, hc43, hc182, hc199]
        clear hm194
        simp [E193, hlt107, hc11, hc43, hc182, hc199]
        apply gb198
        refine AWp.skip ?_
        apply hk186
        refine AWp.sr [] fun K204 hk205 => ?_
        obtain ⟨x206, hx207, hm208⟩ := bind1_some hm201
        clear hm201
        try dsimp only at hm208
        obtain ⟨x209, hx210, hm211⟩ := bind1_some hm208
        clear hm208
        try dsimp only at hm211
        simp [E193, hlt107, hx207, hx210, hc11, hc43, hc182, hc199]
        apply hk205
        refine AWp.ret ?_
        apply nr175
        simp only [Option.some.injEq, Prod.mk.injEq] at hm211
        obtain ⟨rfl, rfl⟩ := hm211
        simp [retQ, E193, hlt107, hx207, hx210, hc11, hc43, hc182, hc199]
      refine AWp.regionD [] false mixed (by decide +kernel) (by decide +kernel) ?_
      obtain ⟨x212, hx213, hm214⟩ := bind1_some hm189
      clear hm189
      try dsimp only at hm214
      rcases ite_some hm214 with ⟨hc215, hm216⟩ | ⟨hc215, hm217⟩
      · clear hm214
        simp [E102, hlt107, hx213, hc11, hc43, hc182, hc215]
        refine hk192 _ _ ⟨true, tg0_102, g4_102, ?_, ⟨?_, ?_, ?_, ?_, ?_⟩, (OwnT.mono (D := [86]) o0_102 (by decide)), hm216⟩ <;> first | rfl | simp [E102, hlt107, hx213, hc11, hc43, hc182, hc215]
      clear hm214
      obtain ⟨x218, hx219, hm220⟩ := bind1_some hm217
      clear hm217
      try dsimp only at hm220
      obtain ⟨x221, hx222, hm223⟩ := bind1_some hm220
      clear hm220
      try dsimp only at hm223
      obtain ⟨x224, hx225, hm226⟩ := bind1_some hm223
      clear hm223
      try dsimp only at hm226
      simp [E102, hlt107, hx213, hx219, hx222, hc11, hc43, hc182, hc215]
      refine CallAtD.fn (r_ref01_Same T hx225) (by simp) ?_
      simp [E102, hlt107, hx213, hx219, hx222, hc11, hc43, hc182, hc215]
      refine hk192 _ _ ⟨(bnot x224), tg0_102, g4_102, ?_, ⟨?_, ?_, ?_, ?_, ?_⟩, (OwnT.mono (D := [86]) o0_102 (by decide)), hm226⟩ <;> first | rfl | simp [E102, hlt107, hx213, hx219, hx222, hc11, hc43, hc182, hc215]
    clear hm166
    simp [E102, hlt107, hc11, hc43, hc182]
    apply gb181
    refine AWp.sr [] fun K227 hk228 => ?_
    simp [E102, hlt107, hc11, hc43, hc182]
    apply hk228
    refine AWp.condK fun A229 B230 ga231 gb232 => ?_
    rcases ite_some hm184 with ⟨hc233, hm234⟩ | ⟨hc233, hm235⟩
    · clear hm184
      simp [E102, hlt107, hc11, hc43, hc182, hc233]
      apply ga231
      refine AWp.sr [] fun K236 hk237 => ?_
      simp [E102, hlt107, hc11, hc43, hc182, hc233]
      apply hk237
      refine AWp.ret ?_
      apply nr175
      simp only [Option.some.injEq, Prod.mk.injEq] at hm234
      obtain ⟨rfl, rfl⟩ := hm234
      simp [retQ, E102, hlt107, hc11, hc43, hc182, hc233]
    clear hm184
    simp [E102, hlt107, hc11, hc43, hc182, hc233]
    apply gb232
    refine AWp.sr [] fun K238 hk239 => ?_
    simp [E102, hlt107, hc11, hc43, hc182, hc233]
    apply hk239
    refine AWp.condK fun A240 B241 ga242 gb243 => ?_
    rcases ite_some hm235 with ⟨hc244, hm245⟩ | ⟨hc244, hm246⟩
    · clear hm235
      simp [E102, hlt107, hc11, hc43, hc182, hc233, hc244]
      apply ga242
      refine AWp.seqK fun K247 hk248 => ?_
      refine AWp.seqK fun K249 hk250 => ?_
      refine AWp.regionD [] false mixed (by decide +kernel) (by decide +kernel) ?_
      obtain ⟨x251, hx252, hm253⟩ := bind1_some hm245
      clear hm245
      try dsimp only at hm253
      obtain ⟨x254, hx255, hm256⟩ := bind1_some hm253
      clear hm253
      try dsimp only at hm256
      simp [E102, hlt107, hx252, hc11, hc43, hc182, hc233, hc244]
      refine CallAtD.fn (r_ref01_Same T hx255) (by simp) ?_
      simp [E102, hlt107, hx252, hc11, hc43, hc182, hc233, hc244]
      apply hk250
      refine AWp.condK fun A257 B258 ga259 gb260 => ?_
      rcases ite_some hm256 with ⟨hc261, hm262⟩ | ⟨hc261, hm263⟩
      rotate_left
      · clear hm256
        simp [E102, hlt107, hx252, hc11, hc43, hc182, hc233, hc244, hc261]
        apply ga259
        refine AWp.sr [] fun K264 hk265 => ?_
        simp [E102, hlt107, hx252, hc11, hc43, hc182, hc233, hc244, hc261]
        apply hk265
        refine AWp.ret ?_
        apply nr175
        simp only [Option.some.injEq, Prod.mk.injEq] at hm263
        obtain ⟨rfl, rfl⟩ := hm263
        simp [retQ, E102, hlt107, hx252, hc11, hc43, hc182, hc233, hc244, hc261]
      clear hm256
      simp [E102, hlt107, hx252, hc11, hc43, hc182, hc233, hc244, hc261]
      apply gb260
      refine AWp.skip ?_
      apply hk248
      refine AWp.sr [] fun K266 hk267 => ?_
      simp [E102, hlt107, hx252, hc11, hc43, hc182, hc233, hc244, hc261]
      apply hk267
      refine AWp.ret ?_
      apply nr175
      simp only [Option.some.injEq, Prod.mk.injEq] at hm262
      obtain ⟨rfl, rfl⟩ := hm262
      simp [retQ, E102, hlt107, hx252, hc11, hc43, hc182, hc233, hc244, hc261]
    clear hm235
    simp [E102, hlt107, hc11, hc43, hc182, hc233, hc244]
    apply gb243
    refine AWp.sr [] fun K268 hk269 => ?_
    simp [E102, hlt107, hc11, hc43, hc182, hc233, hc244]
    apply hk269
    refine AWp.condK fun A270 B271 ga272 gb273 => ?_
    rcases ite_some hm246 with ⟨hc274, hm275⟩ | ⟨hc274, hm276⟩
    · clear hm246
      simp [E102, hlt107, hc11, hc43, hc182, hc233, hc244, hc274]
      apply ga272
      refine AWp.seqK fun K277 hk278 => ?_
      obtain ⟨j279, hj280, hm281⟩ := joinB_some hm275
      clear hm275
      refine AWp.seqP (fun fr h => ∃ (v282 : Bool) (g3_285 : Nat) (g4_285 : Nat), H = h ∧ (fr.env 3 = AV.lptr 3 g3_285 0 ∧ fr.env 4 = AV.lptr 4 g4_285 0 ∧ fr.env 162 = AV.sc (.bool v282) ∧ fr.gen 3 = g3_285 ∧ fr.box 3 = some [AV.sc (.int .i64 a1.kind), AV.sc (.int .i64 a1.index), AV.sc (.int .i64 a1.typeF.kind), AV.slice .frz (List.map Ty.av a1.typeF.args), AV.slice .frz (List.map Tm.av a1.args)] ∧ fr.gen 4 = g4_285 ∧ fr.box 4 = some [AV.sc (.int .i64 0), AV.slice .full []]) ∧ j279 v282 = some (r0, r1)) (fun K283 hk284 => ?_) ?_
      rotate_left
      · clear hm281
        rintro fr285 h285 ⟨v282, g3_285, g4_285, rfl, E285, hm286⟩
        subst hj280
        refine AWp.condK fun A287 B288 ga289 gb290 => ?_
        rcases ite_some hm286 with ⟨hc291, hm292⟩ | ⟨hc291, hm293⟩
        · clear hm286
          simp [E285, hlt107, hc11, hc43, hc182, hc233, hc244, hc274, hc291]
          apply ga289
          refine AWp.sr [] fun K294 hk295 => ?_
          simp [E285, hlt107, hc11, hc43, hc182, hc233, hc244, hc274, hc291]
          apply hk295
          refine AWp.ret ?_
          apply nr175
          simp only [Option.some.injEq, Prod.mk.injEq] at hm292
          obtain ⟨rfl, rfl⟩ := hm292
          simp [retQ, E285, hlt107, hc11, hc43, hc182, hc233, hc244, hc274, hc291]
        clear hm286
        simp [E285, hlt107, hc11, hc43, hc182, hc233, hc244, hc274, hc291]
        apply gb290
        refine AWp.skip ?_
        apply hk278
        refine AWp.sr [] fun K296 hk297 => ?_
        obtain ⟨x298, hx299, hm300⟩ := bind1_some hm293
        clear hm293
        try dsimp only at hm300
        simp [E285, hlt107, hc11, hc43, hc182, hc233, hc244, hc274, hc291]
        refine CallAt.fn (r_ref01_Copy T hx299) ?_
        simp [E285, hlt107, hc11, hc43, hc182, hc233, hc244, hc274, hc291]
        apply hk297
        refine AWp.ret ?_
        apply nr175
        simp only [Option.some.injEq, Prod.mk.injEq] at hm300
        obtain ⟨rfl, rfl⟩ := hm300
        simp [retQ, E285, hlt107, hc11, hc43, hc182, hc233, hc244, hc274, hc291]
      refine AWp.regionD [] false mixed (by decide +kernel) (by decide +kernel) ?_
      obtain ⟨x301, hx302, hm303⟩ := bind1_some hm281
      clear hm281
      try dsimp only at hm303
      obtain ⟨x304, hx305, hm306⟩ := bind1_some hm303
      clear hm303
      try dsimp only at hm306
      simp [E102, hlt107, hx302, hc11, hc43, hc182, hc233, hc244, hc274]
      refine CallAtD.fn (r_ref01_Same T hx305) (by simp) ?_
      rcases ite_some hm306 with ⟨hc307, hm308⟩ | ⟨hc307, hm309⟩
      rotate_left
      · clear hm306
        simp [E102, hlt107, hx302, hc11, hc43, hc182, hc233, hc244, hc274, hc307]
        refine hk284 _ _ ⟨true, g3_102, g4_102, ?_, ⟨?_, ?_, ?_, ?_, ?_, ?_, ?_⟩, hm309⟩ <;> first | rfl | simp [E102, hlt107, hx302, hc11, hc43, hc182, hc233, hc244, hc274, hc307]
      clear hm306
      obtain ⟨x310, hx311, hm312⟩ := bind1_some hm308
      clear hm308
      try dsimp only at hm312
      obtain ⟨x313, hx314, hm315⟩ := bind1_some hm312
      clear hm312
      try dsimp only at hm315
      simp [E102, hlt107, hx302, hx311, hc11, hc43, hc182, hc233, hc244, hc274, hc307]
      refine CallAtD.fn (r_ref01_Fun T hx314) (by simp) ?_
      obtain ⟨x316, hx317, hm318⟩ := bind1_some hm315
      clear hm315
      try dsimp only at hm318
      simp [E102, hlt107, hx302, hx311, hc11, hc43, hc182, hc233, hc244, hc274, hc307]
      refine CallAtD.fn (r_ref01_Fun T hx317) (by simp) ?_
      obtain ⟨x319, hx320, hm321⟩ := bind1_some hm318
      clear hm318
      try dsimp only at hm321
      simp [E102, hlt107, hx302, hx311, hc11, hc43, hc182, hc233, hc244, hc274, hc307]
      refine CallAtD.fn (r_ref01_Same T hx320) (by simp) ?_
      rcases ite_some hm321 with ⟨hc322, hm323⟩ | ⟨hc322, hm324⟩
      rotate_left
      · clear hm321
        simp [E102, hlt107, hx302, hx311, hc11, hc43, hc182, hc233, hc244, hc274, hc307, hc322]
        refine hk284 _ _ ⟨true, g3_102, g4_102, ?_, ⟨?_, ?_, ?_, ?_, ?_, ?_, ?_⟩, hm324⟩ <;> first | rfl | simp [E102, hlt107, hx302, hx311, hc11, hc43, hc182, hc233, hc244, hc274, hc307, hc322]
      clear hm321
      obtain ⟨x325, hx326, hm327⟩ := bind1_some hm323
      clear hm323
      try dsimp only at hm327
      obtain ⟨x328, hx329, hm330⟩ := bind1_some hm327
      clear hm327
      try dsimp only at hm330
      simp [E102, hlt107, hx302, hx311, hx326, hc11, hc43, hc182, hc233, hc244, hc274, hc307, hc322]
      refine CallAtD.fn (r_ref01_Same T hx329) (by simp) ?_
      simp [E102, hlt107, hx302, hx311, hx326, hc11, hc43, hc182, hc233, hc244, hc274, hc307, hc322]
      refine hk284 _ _ ⟨(bnot x328), g3_102, g4_102, ?_, ⟨?_, ?_, ?_, ?_, ?_, ?_, ?_⟩, hm330⟩ <;> first | rfl | simp [E102, hlt107, hx302, hx311, hx326, hc11, hc43, hc182, hc233, hc244, hc274, hc307, hc322]
    clear hm246
    simp [E102, hlt107, hc11, hc43, hc182, hc233, hc244, hc274]
    apply gb273
    refine AWp.sr [] fun K331 hk332 => ?_
    simp [E102, hlt107, hc11, hc43, hc182, hc233, hc244, hc274]
    apply hk332
    refine AWp.condK fun A333 B334 ga335 gb336 => ?_
    rcases ite_some hm276 with ⟨hc337, hm338⟩ | ⟨hc337, hm339⟩
    · clear hm276
      simp [E102, hlt107, hc11, hc43, hc182, hc233, hc244, hc274, hc337]
      apply ga335
      refine AWp.sr [] fun K340 hk341 => ?_
      simp [E102, hlt107, hc11, hc43, hc182, hc233, hc244, hc274, hc337]
      apply hk341
      refine AWp.ret ?_
      apply nr175
      simp only [Option.some.injEq, Prod.mk.injEq] at hm338
      obtain ⟨rfl, rfl⟩ := hm338
      simp [retQ, E102, hlt107, hc11, hc43, hc182, hc233, hc244, hc274, hc337]
    clear hm276
    simp [E102, hlt107, hc11, hc43, hc182, hc233, hc244, hc274, hc337]
    apply gb336
    refine AWp.sr [] fun K342 hk343 => ?_
    simp [E102, hlt107, hc11, hc43, hc182, hc233, hc244, hc274, hc337]
    apply hk343
    refine AWp.condK fun A344 B345 ga346 gb347 => ?_
    rcases ite_some hm339 with ⟨hc348, hm349⟩ | ⟨hc348, hm350⟩
    · clear hm339
      simp [E102, hlt107, hc11, hc43, hc182, hc233, hc244, hc274, hc337, hc348]
      apply ga346
      refine AWp.seqK fun K351 hk352 => ?_
      obtain ⟨j353, hj354, hm355⟩ := joinB_some hm349
      clear hm349
      refine AWp.seqP (fun fr h => ∃ (v356 : Bool) (g4_359 : Nat) (g14_359 : Nat), H = h ∧ (fr.env 4 = AV.lptr 4 g4_359 0 ∧ fr.env 14 = AV.lptr 14 g14_359 0 ∧ fr.env 185 = AV.sc (.bool v356) ∧ fr.gen 4 = g4_359 ∧ fr.box 4 = some [AV.sc (.int .i64 0), AV.slice .full []] ∧ fr.gen 14 = g14_359 ∧ fr.box 14 = some [AV.sc (.int .i64 x164.kind), AV.slice .frz (List.map Ty.av x164.args)]) ∧ j353 v356 = some (r0, r1)) (fun K357 hk358 => ?_) ?_
      rotate_left
      · clear hm355
        rintro fr359 h359 ⟨v356, g4_359, g14_359, rfl, E359, hm360⟩
        subst hj354
        refine AWp.condK fun A361 B362 ga363 gb364 => ?_
        rcases ite_some hm360 with ⟨hc365, hm366⟩ | ⟨hc365, hm367⟩
        · clear hm360
          simp [E359, hlt107, hc11, hc43, hc182, hc233, hc244, hc274, hc337, hc348, hc365]
          apply ga363
          refine AWp.sr [] fun K368 hk369 => ?_
          simp [E359, hlt107, hc11, hc43, hc182, hc233, hc244, hc274, hc337, hc348, hc365]
          apply hk369
          refine AWp.ret ?_
          apply nr175
          simp only [Option.some.injEq, Prod.mk.injEq] at hm366
          obtain ⟨rfl, rfl⟩ := hm366
          simp [retQ, E359, hlt107, hc11, hc43, hc182, hc233, hc244, hc274, hc337, hc348, hc365]
        clear hm360
        simp [E359, hlt107, hc11, hc43, hc182, hc233, hc244, hc274, hc337, hc348, hc365]
        apply gb364
        refine AWp.skip ?_
        apply hk352
        refine AWp.sr [] fun K370 hk371 => ?_
        simp [E359, hlt107, hc11, hc43, hc182, hc233, hc244, hc274, hc337, hc348, hc365]
        apply hk371
        refine AWp.ret ?_
        apply nr175
        simp only [Option.some.injEq, Prod.mk.injEq] at hm367
        obtain ⟨rfl, rfl⟩ := hm367
        simp [retQ, E359, hlt107, hc11, hc43, hc182, hc233, hc244, hc274, hc337, hc348, hc365]
      refine AWp.regionD [] false mixed (by decide +kernel) (by decide +kernel) ?_
      obtain ⟨x372, hx373, hm374⟩ := bind1_some hm355
      clear hm355
      try dsimp only at hm374
      obtain ⟨x375, hx376, hm377⟩ := bind1_some hm374
      clear hm374
      try dsimp only at hm377
      simp [E102, hlt107, hx373, hc11, hc43, hc182, hc233, hc244, hc274, hc337, hc348]
      refine CallAtD.fn (r_ref01_Same T hx376) (by simp) ?_
      rcases ite_some hm377 with ⟨hc378, hm379⟩ | ⟨hc378, hm380⟩
      rotate_left
      · clear hm377
        simp [E102, hlt107, hx373, hc11, hc43, hc182, hc233, hc244, hc274, hc337, hc348, hc378]
        refine hk358 _ _ ⟨true, g4_102, (fr102.gen 14 + 1), ?_, ⟨?_, ?_, ?_, ?_, ?_, ?_, ?_⟩, hm380⟩ <;> first | rfl | simp [E102, hlt107, hx373, hc11, hc43, hc182, hc233, hc244, hc274, hc337, hc348, hc378]
      clear hm377
      obtain ⟨x381, hx382, hm383⟩ := bind1_some hm379
      clear hm379
      try dsimp only at hm383
      obtain ⟨x384, hx385, hm386⟩ := bind1_some hm383
      clear hm383
      try dsimp only at hm386
      simp [E102, hlt107, hx373, hx382, hc11, hc43, hc182, hc233, hc244, hc274, hc337, hc348, hc378]
      refine CallAtD.fn (r_ref01_Same T hx385) (by simp) ?_
      simp [E102, hlt107, hx373, hx382, hc11, hc43, hc182, hc233, hc244, hc274, hc337, hc348, hc378]
      refine hk358 _ _ ⟨(bnot x384), g4_102, (fr102.gen 14 + 1), ?_, ⟨?_, ?_, ?_, ?_, ?_, ?_, ?_⟩, hm386⟩ <;> first | rfl | simp [E102, hlt107, hx373, hx382, hc11, hc43, hc182, hc233, hc244, hc274, hc337, hc348, hc378]
    clear hm339
    simp [E102, hlt107, hc11, hc43, hc182, hc233, hc244, hc274, hc337, hc348]
    apply gb347
    refine AWp.sr [] fun K387 hk388 => ?_
    simp [E102, hlt107, hc11, hc43, hc182, hc233, hc244, hc274, hc337, hc348]
    apply hk388
    refine AWp.condK fun A389 B390 ga391 gb392 => ?_
    rcases ite_some hm350 with ⟨hc393, hm394⟩ | ⟨hc393, hm395⟩
    · clear hm350
      simp [E102, hlt107, hc11, hc43, hc182, hc233, hc244, hc274, hc337, hc348, hc393]
      apply ga391
      refine AWp.seqK fun K396 hk397 => ?_
      obtain ⟨j398, hj399, hm400⟩ := joinB_some hm394
      clear hm394
      refine AWp.seqP (fun fr h => ∃ (v401 : Bool) (g3_404 : Nat) (g4_404 : Nat), H = h ∧ (fr.env 3 = AV.lptr 3 g3_404 0 ∧ fr.env 4 = AV.lptr 4 g4_404 0 ∧ fr.env 220 = AV.sc (.bool v401) ∧ fr.gen 3 = g3_404 ∧ fr.box 3 = some [AV.sc (.int .i64 a1.kind), AV.sc (.int .i64 a1.index), AV.sc (.int .i64 a1.typeF.kind), AV.slice .frz (List.map Ty.av a1.typeF.args), AV.slice .frz (List.map Tm.av a1.args)] ∧ fr.gen 4 = g4_404 ∧ fr.box 4 = some [AV.sc (.int .i64 0), AV.slice .full []]) ∧ j398 v401 = some (r0, r1)) (fun K402 hk403 => ?_) ?_
      rotate_left
      · clear hm400
        rintro fr404 h404 ⟨v401, g3_404, g4_404, rfl, E404, hm405⟩
        subst hj399
        refine AWp.condK fun A406 B407 ga408 gb409 => ?_
        rcases ite_some hm405 with ⟨hc410, hm411⟩ | ⟨hc410, hm412⟩
        · clear hm405
          simp [E404, hlt107, hc11, hc43, hc182, hc233, hc244, hc274, hc337, hc348, hc393, hc410]
          apply ga408
          refine AWp.sr [] fun K413 hk414 => ?_
          simp [E404, hlt107, hc11, hc43, hc182, hc233, hc244, hc274, hc337, hc348, hc393, hc410]
          apply hk414
          refine AWp.ret ?_
          apply nr175
          simp only [Option.some.injEq, Prod.mk.injEq] at hm411
          obtain ⟨rfl, rfl⟩ := hm411
          simp [retQ, E404, hlt107, hc11, hc43, hc182, hc233, hc244, hc274, hc337, hc348, hc393, hc410]
        clear hm405
        simp [E404, hlt107, hc11, hc43, hc182, hc233, hc244, hc274, hc337, hc348, hc393, hc410]
        apply gb409
        refine AWp.skip ?_
        apply hk397
        refine AWp.sr [] fun K415 hk416 => ?_
        obtain ⟨x417, hx418, hm419⟩ := bind1_some hm412
        clear hm412
        try dsimp only at hm419
        simp [E404, hlt107, hc11, hc43, hc182, hc233, hc244, hc274, hc337, hc348, hc393, hc410]
        refine CallAt.fn (r_ref01_Copy T hx418) ?_
        simp [E404, hlt107, hc11, hc43, hc182, hc233, hc244, hc274, hc337, hc348, hc393, hc410]
        apply hk416
        refine AWp.ret ?_
        apply nr175
        simp only [Option.some.injEq, Prod.mk.injEq] at hm419
        obtain ⟨rfl, rfl⟩ := hm419
        simp [retQ, E404, hlt107, hc11, hc43, hc182, hc233, hc244, hc274, hc337, hc348, hc393, hc410]
      refine AWp.regionD [] false mixed (by decide +kernel) (by decide +kernel) ?_
      obtain ⟨x420, hx421, hm422⟩ := bind1_some hm400
      clear hm400
      try dsimp only at hm422
      obtain ⟨x423, hx424, hm425⟩ := bind1_some hm422
      clear hm422
      try dsimp only at hm425
      simp [E102, hlt107, hx421, hc11, hc43, hc182, hc233, hc244, hc274, hc337, hc348, hc393]
      refine CallAtD.fn (r_ref01_Same T hx424) (by simp) ?_
      rcases ite_some hm425 with ⟨hc426, hm427⟩ | ⟨hc426, hm428⟩
      rotate_left
      · clear hm425
        simp [E102, hlt107, hx421, hc11, hc43, hc182, hc233, hc244, hc274, hc337, hc348, hc393, hc426]
        refine hk403 _ _ ⟨true, g3_102, g4_102, ?_, ⟨?_, ?_, ?_, ?_, ?_, ?_, ?_⟩, hm428⟩ <;> first | rfl | simp [E102, hlt107, hx421, hc11, hc43, hc182, hc233, hc244, hc274, hc337, hc348, hc393, hc426]
      clear hm425
      obtain ⟨x429, hx430, hm431⟩ := bind1_some hm427
      clear hm427
      try dsimp only at hm431
      obtain ⟨x432, hx433, hm434⟩ := bind1_some hm431
      clear hm431
      try dsimp only at hm434
      simp [E102, hlt107, hx421, hx430, hc11, hc43, hc182, hc233, hc244, hc274, hc337, hc348, hc393, hc426]
      refine CallAtD.fn (r_ref01_Fun T hx433) (by simp) ?_
      obtain ⟨x435, hx436, hm437⟩ := bind1_some hm434
      clear hm434
      try dsimp only at hm437
      simp [E102, hlt107, hx421, hx430, hc11, hc43, hc182, hc233, hc244, hc274, hc337, hc348, hc393, hc426]
      refine CallAtD.fn (r_ref01_Fun T hx436) (by simp) ?_
      obtain ⟨x438, hx439, hm440⟩ := bind1_some hm437
      clear hm437
      try dsimp only at hm440
      simp [E102, hlt107, hx421, hx430, hc11, hc43, hc182, hc233, hc244, hc274, hc337, hc348, hc393, hc426]
      refine CallAtD.fn (r_ref01_Fun T hx439) (by simp) ?_
      obtain ⟨x441, hx442, hm443⟩ := bind1_some hm440
      clear hm440
      try dsimp only at hm443
      simp [E102, hlt107, hx421, hx430, hc11, hc43, hc182, hc233, hc244, hc274, hc337, hc348, hc393, hc426]
      refine CallAtD.fn (r_ref01_Same T hx442) (by simp) ?_
      rcases ite_some hm443 with ⟨hc444, hm445⟩ | ⟨hc444, hm446⟩
      rotate_left
      · clear hm443
        simp [E102, hlt107, hx421, hx430, hc11, hc43, hc182, hc233, hc244, hc274, hc337, hc348, hc393, hc426, hc444]
        refine hk403 _ _ ⟨true, g3_102, g4_102, ?_, ⟨?_, ?_, ?_, ?_, ?_, ?_, ?_⟩, hm446⟩ <;> first | rfl | simp [E102, hlt107, hx421, hx430, hc11, hc43, hc182, hc233, hc244, hc274, hc337, hc348, hc393, hc426, hc444]
      clear hm443
      obtain ⟨x447, hx448, hm449⟩ := bind1_some hm445
      clear hm445
      try dsimp only at hm449
      obtain ⟨x450, hx451, hm452⟩ := bind1_some hm449
      clear hm449
      try dsimp only at hm452
      simp [E102, hlt107, hx421, hx430, hx448, hc11, hc43, hc182, hc233, hc244, hc274, hc337, hc348, hc393, hc426, hc444]
      refine CallAtD.fn (r_ref01_Same T hx451) (by simp) ?_
      simp [E102, hlt107, hx421, hx430, hx448, hc11, hc43, hc182, hc233, hc244, hc274, hc337, hc348, hc393, hc426, hc444]
      refine hk403 _ _ ⟨(bnot x450), g3_102, g4_102, ?_, ⟨?_, ?_, ?_, ?_, ?_, ?_, ?_⟩, hm452⟩ <;> first | rfl | simp [E102, hlt107, hx421, hx430, hx448, hc11, hc43, hc182, hc233, hc244, hc274, hc337, hc348, hc393, hc426, hc444]
    clear hm350
    simp [E102, hlt107, hc11, hc43, hc182, hc233, hc244, hc274, hc337, hc348, hc393]
    apply gb392
    refine AWp.sr [] fun K453 hk454 => ?_
    simp [E102, hlt107, hc11, hc43, hc182, hc233, hc244, hc274, hc337, hc348, hc393]
    apply hk454
    refine AWp.condK fun A455 B456 ga457 gb458 => ?_
    rcases ite_some hm395 with ⟨hc459, hm460⟩ | ⟨hc459, hm461⟩
    · clear hm395
      simp [E102, hlt107, hc11, hc43, hc182, hc233, hc244, hc274, hc337, hc348, hc393, hc459]
      apply ga457
      refine AWp.seqK fun K462 hk463 => ?_
      refine AWp.regionD [] false mixed (by decide +kernel) (by decide +kernel) ?_
      obtain ⟨x464, hx465, hm466⟩ := bind1_some hm460
      clear hm460
      try dsimp only at hm466
      obtain ⟨x467, hx468, hm469⟩ := bind1_some hm466
      clear hm466
      try dsimp only at hm469
      obtain ⟨x470, hx471, hm472⟩ := bind1_some hm469
      clear hm469
      try dsimp only at hm472
      simp [E102, hlt107, hx465, hx468, hc11, hc43, hc182, hc233, hc244, hc274, hc337, hc348, hc393, hc459]
      refine CallAtD.fn (r_ref01_Two T hx471) (by simp) ?_
      obtain ⟨x473, x474, hx475, hm476⟩ := bind2_some hm472
      clear hm472
      try dsimp only at hm476
      simp [E102, hlt107, hx465, hx468, hc11, hc43, hc182, hc233, hc244, hc274, hc337, hc348, hc393, hc459]
      refine CallAtD.fn (r_ref02_ok T hx475) (by simp) ?_
      simp [E102, hlt107, hx465, hx468, hc11, hc43, hc182, hc233, hc244, hc274, hc337, hc348, hc393, hc459]
      apply hk463
      refine AWp.ret ?_
      apply nr175
      simp only [Option.some.injEq, Prod.mk.injEq] at hm476
      obtain ⟨rfl, rfl⟩ := hm476
      simp [retQ, E102, hlt107, hx465, hx468, hc11, hc43, hc182, hc233, hc244, hc274, hc337, hc348, hc393, hc459]
    clear hm395
    simp [E102, hlt107, hc11, hc43, hc182, hc233, hc244, hc274, hc337, hc348, hc393, hc459]
    apply gb458
    refine AWp.seqP (fun fr h => ∃ (tg0_486 : Tag) (g3_486 : Nat) (g4_486 : Nat), H = h ∧ (fr.env 3 = AV.lptr 3 g3_486 0 ∧ fr.env 4 = AV.lptr 4 g4_486 0 ∧ fr.env 8 = AV.slice tg0_486 (List.map Ty.av v101) ∧ fr.env 237 = AV.sc (.bool (sel (ieq a1.kind 11) true (ieq a1.kind 12))) ∧ fr.gen 3 = g3_486 ∧ fr.box 3 = some [AV.sc (.int .i64 a1.kind), AV.sc (.int .i64 a1.index), AV.sc (.int .i64 a1.typeF.kind), AV.slice .frz (List.map Ty.av a1.typeF.args), AV.slice .frz (List.map Tm.av a1.args)] ∧ fr.gen 4 = g4_486 ∧ fr.box 4 = some [AV.sc (.int .i64 0), AV.slice .full []]) ∧ OwnT fr.tab fr.tgen [86] tg0_486 (List.length v101)) (fun K477 hk478 => ?_) ?_
    · refine AWp.sr [] fun K479 hk480 => ?_
      simp [E102, hlt107, hc11, hc43, hc182, hc233, hc244, hc274, hc337, hc348, hc393, hc459]
      apply hk480
      refine AWp.condK fun A481 B482 ga483 gb484 => ?_
      rcases Bool.eq_false_or_eq_true (ieq a1.kind 11) with hc485 | hc485
      · simp [E102, hlt107, hc11, hc43, hc182, hc233, hc244, hc274, hc337, hc348, hc393, hc459, hc485]
        apply ga483
        refine AWp.skip ?_
        refine hk478 _ _ ⟨tg0_102, g3_102, g4_102, ?_, ⟨?_, ?_, ?_, ?_, ?_, ?_, ?_, ?_⟩, (OwnT.mono (D := [86]) o0_102 (by decide))⟩ <;> first | rfl | simp [E102, hlt107, hc11, hc43, hc182, hc233, hc244, hc274, hc337, hc348, hc393, hc459, hc485]
      simp [E102, hlt107, hc11, hc43, hc182, hc233, hc244, hc274, hc337, hc348, hc393, hc459, hc485]
      apply gb484
      refine AWp.region [] (by decide +kernel) ?_
      simp [E102, hlt107, hc11, hc43, hc182, hc233, hc244, hc274, hc337, hc348, hc393, hc459, hc485]
      refine hk478 _ _ ⟨tg0_102, g3_102, g4_102, ?_, ⟨?_, ?_, ?_, ?_, ?_, ?_, ?_, ?_⟩, (OwnT.mono (D := [86]) o0_102 (by decide))⟩ <;> first | rfl | simp [E102, hlt107, hc11, hc43, hc182, hc233, hc244, hc274, hc337, hc348, hc393, hc459, hc485]
    rintro fr486 h486 ⟨tg0_486, g3_486, g4_486, rfl, E486, o0_486⟩
    refine AWp.condK fun A487 B488 ga489 gb490 => ?_
    rcases ite_some hm461 with ⟨hc491, hm492⟩ | ⟨hc491, hm493⟩
    rotate_left
    · clear hm461
      simp [E486, hlt107, hc11, hc43, hc182, hc233, hc244, hc274, hc337, hc348, hc393, hc459, hc491]
      apply gb490
      refine AWp.skip ?_
      apply nn172
      apply hk168
      refine AWp.sr [] fun K494 hk495 => ?_
      obtain ⟨x496, hx497, hm498⟩ := bind1_some hm493
      clear hm493
      try dsimp only at hm498
      simp [E486, hlt107, hc11, hc43, hc182, hc233, hc244, hc274, hc337, hc348, hc393, hc459, hc491]
      refine CallAt.fn (r_ref01_Unit T hx497) ?_
      simp [E486, hlt107, hc11, hc43, hc182, hc233, hc244, hc274, hc337, hc348, hc393, hc459, hc491]
      apply hk495
      refine AWp.ret ?_
      simp only [Option.some.injEq, Prod.mk.injEq] at hm498
      obtain ⟨rfl, rfl⟩ := hm498
      simp [retQ, E486, hlt107, hc11, hc43, hc182, hc233, hc244, hc274, hc337, hc348, hc393, hc459, hc491]
    clear hm461
    simp [E486, hlt107, hc11, hc43, hc182, hc233, hc244, hc274, hc337, hc348, hc393, hc459, hc491]
    apply ga489
    refine AWp.seqK fun K499 hk500 => ?_
    refine AWp.sr [] fun K501 hk502 => ?_
    obtain ⟨x503, hx504, hm505⟩ := bind1_some hm492
    clear hm492
    try dsimp only at hm505
    simp [E486, hlt107, hx504, hc11, hc43, hc182, hc233, hc244, hc274, hc337, hc348, hc393, hc459, hc491]
    apply hk502
    refine AWp.condK fun A506 B507 ga508 gb509 => ?_
    rcases ite_some hm505 with ⟨hc510, hm511⟩ | ⟨hc510, hm512⟩
    · clear hm505
      simp [E486, hlt107, hx504, hc11, hc43, hc182, hc233, hc244, hc274, hc337, hc348, hc393, hc459, hc491, hc510]
      apply ga508
      refine AWp.sr [] fun K513 hk514 => ?_
      simp [E486, hlt107, hx504, hc11, hc43, hc182, hc233, hc244, hc274, hc337, hc348, hc393, hc459, hc491, hc510]
      apply hk514
      refine AWp.ret ?_
      apply nr175
      simp only [Option.some.injEq, Prod.mk.injEq] at hm511
      obtain ⟨rfl, rfl⟩ := hm511
      simp [retQ, E486, hlt107, hx504, hc11, hc43, hc182, hc233, hc244, hc274, hc337, hc348, hc393, hc459, hc491, hc510]
    clear hm505
    simp [E486, hlt107, hx504, hc11, hc43, hc182, hc233, hc244, hc274, hc337, hc348, hc393, hc459, hc491, hc510]
    apply gb509
    refine AWp.skip ?_
    apply hk500
    refine AWp.seqK fun K515 hk516 => ?_
    refine AWp.sr [] fun K517 hk518 => ?_
    simp [E486, hlt107, hx504, hc11, hc43, hc182, hc233, hc244, hc274, hc337, hc348, hc393, hc459, hc491, hc510]
    apply hk518
    refine AWp.condK fun A519 B520 ga521 gb522 => ?_
    rcases ite_some hm512 with ⟨hc523, hm524⟩ | ⟨hc523, hm525⟩
    · clear hm512
      simp [E486, hlt107, hx504, hc11, hc43, hc182, hc233, hc244, hc274, hc337, hc348, hc393, hc459, hc491, hc510, hc523]
      apply ga521
      refine AWp.sr [] fun K526 hk527 => ?_
      obtain ⟨x528, hx529, hm530⟩ := bind1_some hm524
      clear hm524
      try dsimp only at hm530
      simp [E486, hlt107, hx504, hx529, hc11, hc43, hc182, hc233, hc244, hc274, hc337, hc348, hc393, hc459, hc491, hc510, hc523]
      apply hk527
      refine AWp.ret ?_
      apply nr175
      simp only [Option.some.injEq, Prod.mk.injEq] at hm530
      obtain ⟨rfl, rfl⟩ := hm530
      simp [retQ, E486, hlt107, hx504, hx529, hc11, hc43, hc182, hc233, hc244, hc274, hc337, hc348, hc393, hc459, hc491, hc510, hc523]
    clear hm512
    simp [E486, hlt107, hx504, hc11, hc43, hc182, hc233, hc244, hc274, hc337, hc348, hc393, hc459, hc491, hc510, hc523]
    apply gb522
    refine AWp.skip ?_
    apply hk516
    refine AWp.sr [] fun K531 hk532 => ?_
    obtain ⟨x533, hx534, hm535⟩ := bind1_some hm525
    clear hm525
    try dsimp only at hm535
    simp [E486, hlt107, hx504, hx534, hc11, hc43, hc182, hc233, hc244, hc274, hc337, hc348, hc393, hc459, hc491, hc510, hc523]
    apply hk532
    refine AWp.ret ?_
    apply nr175
    simp only [Option.some.injEq, Prod.mk.injEq] at hm535
    obtain ⟨rfl, rfl⟩ := hm535
    simp [retQ, E486, hlt107, hx504, hx534, hc11, hc43, hc182, hc233, hc244, hc274, hc337, hc348, hc393, hc459, hc491, hc510, hc523]
theorem r_ref02_infer (T : Tabs) {H : Heap} {a0 : (List Ty)} {a1 : Tm} {r0 : Ty} {r1 : Int} {n : Nat} (hm : ref02_infer n a0 a1 = some (r0, r1)) : ACall Tryd.prog T 86 [AV.slice .frz (List.map Ty.av a0), Tm.av a1] H (AV.tuple [Ty.av r0, AV.sc (.int .i64 r1)]) H := (rg_ref02_infer T n) hm

theorem enters57 : entersB Tryd.prog 57 = true := by kernel_rfl

theorem r_ref02_Typed (T : Tabs) {H : Heap} {a0 : (List Ty)} {a1 : Tm} {r0 : Ty} {r1 : Int} (hm : ref02_Typed a0 a1 = some (r0, r1)) : ACall Tryd.prog T 57 [AV.slice .frz (List.map Ty.av a0), Tm.av a1] H (AV.tuple [Ty.av r0, AV.sc (.int .i64 r1)]) H := by
  rw [ref02_Typed] at hm
  refine ACallP.intro (fn := Tryd.f57) Tryd.func57 rfl enters57 (Nat.le_of_ble_eq_true rfl) ?_
  refine AWp.sr [] fun K1 hk2 => ?_
  simp
  apply hk2
  refine AWp.seqK fun K3 hk4 => ?_
  refine AWp.sr [] fun K5 hk6 => ?_
  obtain ⟨x7, hx8, hm9⟩ := bind1_some hm
  clear hm
  try dsimp only at hm9
  simp
  refine CallAt.fn (r_ref02_Check T hx8) ?_
  simp
  apply hk6
  refine AWp.sr [] fun K10 hk11 => ?_
  simp
  apply hk11
  refine AWp.condK fun A12 B13 ga14 gb15 => ?_
  rcases ite_some hm9 with ⟨hc16, hm17⟩ | ⟨hc16, hm18⟩
  · clear hm9
    simp [hc16]
    apply ga14
    refine AWp.sr [] fun K19 hk20 => ?_
    simp [hc16]
    apply hk20
    refine AWp.ret ?_
    simp only [Option.some.injEq, Prod.mk.injEq] at hm17
    obtain ⟨rfl, rfl⟩ := hm17
    simp [retQ, hc16]
  clear hm9
  simp [hc16]
  apply gb15
  refine AWp.skip ?_
  apply hk4
  refine AWp.sr [] fun K21 hk22 => ?_
  obtain ⟨x23, x24, hx25, hm26⟩ := bind2_some hm18
  clear hm18
  try dsimp only at hm26
  simp [hc16]
  refine CallAt.fn (r_ref02_infer T hx25) ?_
  simp [hc16]
  apply hk22
  refine AWp.ret ?_
  simp only [Option.some.injEq, Prod.mk.injEq] at hm26
  obtain ⟨rfl, rfl⟩ := hm26
  simp [retQ, hc16]

theorem enters19 : entersB Tryd.prog 19 = true := by kernel_rfl

theorem r_ref02_TypeOf (T : Tabs) {H : Heap} {a0 : (List Ty)} {a1 : Tm} {r0 : Ty} {r1 : Int} (hm : ref02_TypeOf a0 a1 = some (r0, r1)) : ACall Tryd.prog T 19 [AV.slice .frz (List.map Ty.av a0), Tm.av a1] H (AV.tuple [Ty.av r0, AV.sc (.int .i64 r1)]) H := by
  rw [ref02_TypeOf] at hm
  refine ACallP.intro (fn := Tryd.f19) Tryd.func19 rfl enters19 (Nat.le_of_ble_eq_true rfl) ?_
  refine AWp.sr [] fun K1 hk2 => ?_
  simp
  apply hk2
  refine AWp.seqK fun K3 hk4 => ?_
  refine AWp.sr [] fun K5 hk6 => ?_
  obtain ⟨x7, hx8, hm9⟩ := bind1_some hm
  clear hm
  try dsimp only at hm9
  simp
  refine CallAt.fn (r_ref01_Context T hx8) ?_
  simp
  apply hk6
  refine AWp.sr [] fun K10 hk11 => ?_
  simp
  apply hk11
  refine AWp.condK fun A12 B13 ga14 gb15 => ?_
  rcases ite_some hm9 with ⟨hc16, hm17⟩ | ⟨hc16, hm18⟩
  · clear hm9
    simp [hc16]
    apply ga14
    refine AWp.sr [] fun K19 hk20 => ?_
    simp [hc16]
    apply hk20
    refine AWp.ret ?_
    simp only [Option.some.injEq, Prod.mk.injEq] at hm17
    obtain ⟨rfl, rfl⟩ := hm17
    simp [retQ, hc16]
  clear hm9
  simp [hc16]
  apply gb15
  refine AWp.skip ?_
  apply hk4
  refine AWp.sr [] fun K21 hk22 => ?_
  obtain ⟨x23, x24, hx25, hm26⟩ := bind2_some hm18
  clear hm18
  try dsimp only at hm26
  simp [hc16]
  refine CallAt.fn (r_ref02_Typed T hx25) ?_
  simp [hc16]
  apply hk22
  refine AWp.ret ?_
  simp only [Option.some.injEq, Prod.mk.injEq] at hm26
  obtain ⟨rfl, rfl⟩ := hm26
  simp [retQ, hc16]

theorem enters88 : entersB Tryd.prog 88 = true := by kernel_rfl

theorem r_ref03_below (T : Tabs) {H : Heap} {a0 : Tm} {r0 : Int} (hm : ref03_below a0 = some r0) : ACall Tryd.prog T 88 [Tm.av a0] H (AV.sc (.int .i64 r0)) H := by
  rw [ref03_below] at hm
  refine ACallP.intro (fn := Tryd.f88) Tryd.func88 rfl enters88 (Nat.le_of_ble_eq_true rfl) ?_
  refine AWp.sr [] fun K1 hk2 => ?_
  simp
  apply hk2
  refine AWp.seqK fun K3 hk4 => ?_
  refine AWp.sr [] fun K5 hk6 => ?_
  simp
  apply hk6
  refine AWp.condK fun A7 B8 ga9 gb10 => ?_
  rcases ite_some hm with ⟨hc11, hm12⟩ | ⟨hc11, hm13⟩
  · clear hm
    simp [hc11]
    apply ga9
    refine AWp.sr [] fun K14 hk15 => ?_
    simp [hc11]
    apply hk15
    refine AWp.ret ?_
    obtain rfl := Option.some.inj hm12
    simp [retQ, hc11]
  clear hm
  simp [hc11]
  apply gb10
  refine AWp.skip ?_
  apply hk4
  refine AWp.sr [] fun K16 hk17 => ?_
  simp [hc11]
  apply hk17
  refine AWp.ret ?_
  obtain rfl := Option.some.inj hm13
  simp [retQ, hc11]

theorem enters59 : entersB Tryd.prog 59 = true := by kernel_rfl

theorem rg_ref03_Mark (T : Tabs) : ∀ (n : Nat), (∀ {H : Heap} {a0 : Tm} {a1 : Int} {a2 : (List (Int × Bool))} {do2 : (List (Int × Bool))} {o2 : Nat} (ho2 : H[o2]? = some [mapC (fun b => AV.sc (Value.bool b)) a2]) (hm : ref03_Mark n a0 a1 a2 = some do2), ACall Tryd.prog T 59 [Tm.av a0, AV.sc (.int .i64 a1), AV.mptr o2] H (AV.tuple []) (hset H o2 [mapC (fun b => AV.sc (Value.bool b)) do2])) := by
  intro n
  induction n with
  | zero =>
    skip
    all_goals
      intros
      rename_i hm
      cases hm
  | succ n ih =>
    intro H a0 a1 a2 do2 o2 ho2 hm
    rw [ref03_Mark] at hm
    have lo2 := inb_of_get ho2
    refine ACallP.at1 ho2 ?_
    refine ACallP.intro (fn := Tryd.f59) Tryd.func59 rfl enters59 (Nat.le_of_ble_eq_true rfl) ?_
    refine AWp.sr [] fun K1 hk2 => ?_
    simp [lo2]
    apply hk2
    obtain ⟨j3, hj4, hm5⟩ := joinB_some hm
    clear hm
    refine AWp.seqP (fun fr h => ∃ (v6 : (List (Int × Bool))) (g3_20 : Nat), hset H o2 [mapC (fun b => AV.sc (Value.bool b)) v6] = h ∧ (fr.env 1 = AV.sc (.int .i64 a1) ∧ fr.env 2 = AV.mptr o2 ∧ fr.env 3 = AV.lptr 3 g3_20 0 ∧ fr.gen 3 = g3_20 ∧ fr.box 3 = some [AV.sc (.int .i64 a0.kind), AV.sc (.int .i64 a0.index), AV.sc (.int .i64 a0.typeF.kind), AV.slice .frz (List.map Ty.av a0.typeF.args), AV.slice .frz (List.map Tm.av a0.args)]) ∧ j3 v6 = some do2) (fun K7 hk8 => ?_) ?_
    · refine AWp.seqP (fun fr h => ∃ (g3_12 : Nat), hset H o2 [mapC (fun b => AV.sc (Value.bool b)) a2] = h ∧ (fr.env 1 = AV.sc (.int .i64 a1) ∧ fr.env 2 = AV.mptr o2 ∧ fr.env 3 = AV.lptr 3 g3_12 0 ∧ fr.env 16 = AV.sc (.bool (sel (ieq a0.kind 1) (ige a0.index a1) false)) ∧ fr.gen 3 = g3_12 ∧ fr.box 3 = some [AV.sc (.int .i64 a0.kind), AV.sc (.int .i64 a0.index), AV.sc (.int .i64 a0.typeF.kind), AV.slice .frz (List.map Ty.av a0.typeF.args), AV.slice .frz (List.map Tm.av a0.args)])) (fun K9 hk10 => ?_) ?_
      · refine AWp.region [] (by decide +kernel) ?_
        rcases Bool.eq_false_or_eq_true (ieq a0.kind 1) with hc11 | hc11
        · simp [lo2, hc11]
          refine hk10 _ _ ⟨1, ?_, ⟨?_, ?_, ?_, ?_, ?_, ?_⟩⟩ <;> first | rfl | simp [lo2, hc11]
        simp [lo2, hc11]
        refine hk10 _ _ ⟨1, ?_, ⟨?_, ?_, ?_, ?_, ?_, ?_⟩⟩ <;> first | rfl | simp [lo2, hc11]
      rintro fr12 h12 ⟨g3_12, rfl, E12⟩
      refine AWp.condK fun A13 B14 ga15 gb16 => ?_
      rcases ite_some hm5 with ⟨hc17, hm18⟩ | ⟨hc17, hm19⟩
      rotate_left
      · clear hm5
        simp [E12, lo2, hc17]
        apply gb16
        refine AWp.skip ?_
        refine hk8 _ _ ⟨a2, g3_12, ?_, ⟨?_, ?_, ?_, ?_, ?_⟩, hm19⟩ <;> first | rfl | simp [E12, lo2, hc17]
      clear hm5
      simp [E12, lo2, hc17]
      apply ga15
      refine AWp.region [] (by decide +kernel) ?_
      simp [E12, lo2, hc17]
      refine MapU.i64 (f := (fun b => AV.sc (Value.bool b))) a2 true und82 und3 (by simp [E12, lo2, hc17]) (by simp [E12, lo2, hc17]) ?_
      simp [E12, lo2, hc17]
      refine hk8 _ _ ⟨(mput a2 (isub .i64 a0.index a1) true), g3_12, ?_, ⟨?_, ?_, ?_, ?_, ?_⟩, hm18⟩ <;> first | rfl | simp [E12, lo2, hc17]
    clear hm5
    rintro fr20 h20 ⟨v6, g3_20, rfl, E20, hm21⟩
    subst hj4
    refine AWp.sr [] fun K22 hk23 => ?_
    simp [E20, lo2]
    apply hk23
    obtain ⟨hok24, hm25⟩ := chk_some hm21
    clear hm21
    obtain ⟨F26, hF27, hm28⟩ := joinB_some hm25
    clear hm25
    try dsimp only at hm28
    obtain ⟨out29, hl30, hmB31⟩ := bind1_some hm28
    clear hm28
    refine AWp.blockK fun Q32 nn33 ne34 nx35 nr36 => ?_
    refine AWp.loopF (fun n37 fr h => ∃ (i38 : Nat) (j39 : Int) (v40 : (List (Int × Bool))) (g3_41 : Nat), hset H o2 [mapC (fun b => AV.sc (Value.bool b)) v40] = h ∧ (fr.env 1 = AV.sc (.int .i64 a1) ∧ fr.env 2 = AV.mptr o2 ∧ fr.env 3 = AV.lptr 3 g3_41 0 ∧ fr.env 23 = AV.slice .frz (List.map Tm.av a0.args) ∧ fr.env 24 = AV.sc (.int .i64 (llen a0.args)) ∧ fr.env 25 = AV.sc (.int .i64 j39) ∧ fr.gen 3 = g3_41 ∧ fr.box 3 = some [AV.sc (.int .i64 a0.kind), AV.sc (.int .i64 a0.index), AV.sc (.int .i64 a0.typeF.kind), AV.slice .frz (List.map Ty.av a0.typeF.args), AV.slice .frz (List.map Tm.av a0.args)]) ∧ j39 = (i38 : Int) ∧ i38 + n37 = List.length a0.args ∧ forR F26 (List.drop i38 a0.args) i38 v40 = some out29) (List.length a0.args) ?_ ?_
    · refine ⟨0, 0, v6, g3_20, ?_, ⟨?_, ?_, ?_, ?_, ?_, ?_, ?_, ?_⟩, rfl, (by simp), hl30⟩ <;> first | rfl | simp [E20, lo2]
    rintro n37 fr41 h41 ⟨i38, j39, v40, g3_41, rfl, E41, hj42, hi43, hl30⟩ K44 hK45
    rcases n37 with _ | n37
    · have hlt46 := ilt_notJ (l := a0.args) hj42 (by omega)
      refine AWp.sr [] fun K47 hk48 => ?_
      simp [E41, lo2, hlt46]
      apply hk48
      refine AWp.seqK fun K49 hk50 => ?_
      refine AWp.condK fun A51 B52 ga53 gb54 => ?_
      simp [E41, lo2, hlt46]
      apply gb54
      refine AWp.exit ?_
      apply ne34
      rw [List.drop_eq_nil_of_le (by omega), forR_nil] at hl30
      obtain rfl := Option.some.inj hl30
      rw [sumK_inl] at hmB31
      try dsimp only at hmB31
      obtain rfl := Option.some.inj hmB31
      simp [retQ, E41, lo2, hlt46]
    have hlt46 := ilt_ofJ (l := a0.args) hj42 (by omega)
    obtain ⟨x55, hdn37, hg56⟩ := drop_ltJ (l := a0.args) hj42 (by omega)
    rw [hdn37, forR_cons] at hl30
    obtain ⟨c57, hb58, hk59⟩ := bind1_some hl30
    clear hl30
    rw [hF27, ← hj42] at hb58
    try dsimp only at hb58
    refine AWp.sr [] fun K60 hk61 => ?_
    simp [E41, lo2, hlt46, hg56]
    apply hk61
    refine AWp.seqK fun K62 hk63 => ?_
    refine AWp.condK fun A64 B65 ga66 gb67 => ?_
    simp [E41, lo2, hlt46, hg56]
    apply ga66
    refine AWp.skip ?_
    apply hk63
    refine AWp.seqK fun K68 hk69 => ?_
    refine AWp.blockK fun Q70 nn71 ne72 nx73 nr74 => ?_
    refine AWp.sr [] fun K75 hk76 => ?_
    simp [E41, lo2, hlt46, hg56]
    apply hk76
    refine AWp.regionD [] false mixed (by decide +kernel) (by decide +kernel) ?_
    obtain ⟨x77, hx78, hm79⟩ := bind1_some hb58
    clear hb58
    try dsimp only at hm79
    simp [E41, lo2, hlt46, hg56]
    refine CallAtD.fn (r_ref03_below T hx78) (by simp) ?_
    obtain ⟨d80, hx81, hm82⟩ := bind1_some hm79
    clear hm79
    try dsimp only at hm82
    simp [E41, lo2, hlt46, hg56]
    refine CallAtD.fn (ih (by simp [lo2]) hx81) (by simp) ?_
    simp [E41, lo2, hlt46, hg56]
    apply nn71
    apply hk69
    refine AWp.region [] (by decide +kernel) ?_
    simp [E41, lo2, hlt46, hg56]
    obtain rfl := Option.some.inj hm82
    rw [ctlK_next] at hk59
    refine hK45 _ _ n37 (Nat.lt_succ_self _) ⟨(i38 + 1), (iadd .i64 j39 1), d80, g3_41, ?_, ⟨?_, ?_, ?_, ?_, ?_, ?_, ?_, ?_⟩, (iadd_idxJ hj42 (by omega) hok24), (by omega), hk59⟩ <;> first | rfl | simp [E41, lo2, hlt46, hg56]
theorem r_ref03_Mark (T : Tabs) {H : Heap} {a0 : Tm} {a1 : Int} {a2 : (List (Int × Bool))} {do2 : (List (Int × Bool))} {o2 : Nat} (ho2 : H[o2]? = some [mapC (fun b => AV.sc (Value.bool b)) a2]) {n : Nat} (hm : ref03_Mark n a0 a1 a2 = some do2) : ACall Tryd.prog T 59 [Tm.av a0, AV.sc (.int .i64 a1), AV.mptr o2] H (AV.tuple []) (hset H o2 [mapC (fun b => AV.sc (Value.bool b)) do2]) := (rg_ref03_Mark T n) ho2 hm

theorem enters60 : entersB Tryd.prog 60 = true := by kernel_rfl

/-- The slot of the slice: still nil, or a row. -/
def SoSl (fr : Fr) (L : List Int) : Prop :=
  (L = [] ∧ fr.env 3 = .slice .full []) ∨ ∃ cap, fr.env 3 = .lsl 17 (fr.gen 17) L.length cap ∧ fr.box 17 = some (arrC (fun n => AV.sc (Value.int .i64 n)) L ((cap - L.length) * 1)) ∧ L.length ≤ cap

theorem r_ref03_Sorted (T : Tabs) {H : Heap} {a0 : List (Int × Bool)} {r0 : List Int} {do0 : List (Int × Bool)} {o0 : Nat} (ho0 : H[o0]? = some [mapC (fun b => AV.sc (Value.bool b)) a0]) (hm : ref03_Sorted a0 = some (r0, do0)) :
    ACall Tryd.prog T 60 [AV.mptr o0] H (AV.slice .frz (List.map (fun n => AV.sc (Value.int .i64 n)) r0)) (hset H o0 [mapC (fun b => AV.sc (Value.bool b)) do0]) := by
  unfold ref03_Sorted at hm
  obtain ⟨hok, hm⟩ := chk_some hm
  obtain ⟨hnd, hm⟩ := chk_some hm
  have hlo := inb_of_get ho0
  simp only [Option.some.injEq, Prod.mk.injEq] at hm
  obtain ⟨e1, e2⟩ := hm
  subst e2
  rw [hset_self ho0]
  have hnd : (a0.map (·.1)).Nodup := by simpa [distinctB] using hnd
  refine ACallP.drop0 (Post := fun x K => x = AV.slice .frz (List.map (fun n => AV.sc (Value.int .i64 n)) r0) ∧ ∃ X, K = H ++ X) ?_ (fun _ _ h => ⟨_, h.2.choose_spec, by rw [h.1]; simp [AV.low, AV.lowL], h.1, rfl⟩)
  refine ACallP.intro (fn := Tryd.f60) Tryd.func60 rfl enters60 (Nat.le_of_ble_eq_true rfl) ?_
  refine AWp.sr [] fun K1 hk1 => ?_
  simp
  apply hk1
  refine AWp.sr [] fun K1 hk1 => ?_
  simp
  apply hk1
  refine AWp.seqK fun K1 hk1 => ?_
  refine AWp.sr [] fun K2 hk2 => ?_
  simp [rangeA, ho0, mapC]
  apply hk2
  refine AWp.blockK fun Q nn ex x r => ?_
  refine AWp.loopF (fun m fr h => ∃ (seen : List Nat) (L : List Int), m = unseen a0.length seen ∧ L.length + m ≤ a0.length ∧ Asc L ∧ (∀ x, x ∈ L ↔ ∃ j ∈ seen, ∃ p, a0[j]? = some p ∧ p.1 = x) ∧
    H ++ [[.miter o0 a0.length seen]] = h ∧ fr.env 7 = .gptr H.length 0 ∧ SoSl fr L) a0.length ?_ ?_
  · exact ⟨[], [], (unseen_nil _).symm, by simp, .nil, by simp, by simp, rfl, .inl ⟨rfl, rfl⟩⟩
  rintro m fr h ⟨seen, L, hm1, hm2, hA, hL, rfl, e7, hs⟩ K3 hk3
  have hi : (H ++ [[AV.miter o0 a0.length seen]])[H.length]? = some [AV.miter o0 a0.length seen] := by simp
  have ho : (H ++ [[AV.miter o0 a0.length seen]])[o0]? = some [mapC (fun b => AV.sc (Value.bool b)) a0] := by simp [hlo, ho0]
  refine AWp.sr [] fun K4 hk4 => ?_
  simp only [arun_next, ev, e7]
  refine nextA_mapC a0 hi ho (fun hall => ?_) (fun j p hp hj => ?_)
  · -- the end
    simp
    apply hk4
    refine AWp.seqK fun K5 hk5 => ?_
    refine AWp.condK fun A B ga gb => ?_
    simp
    apply gb
    refine AWp.exit ?_
    apply ex
    apply hk1
    have hr : sortS [] (a0.map (·.1)) = L := by
      refine Asc.eq (sortS_asc _ [] .nil hnd (by simp)) hA fun x => ?_
      rw [sortS_mem, hL]
      simp only [List.not_mem_nil, false_or, List.mem_map]
      constructor
      · rintro ⟨p, hp, rfl⟩
        obtain ⟨j, hj⟩ := List.mem_iff_getElem?.1 hp
        exact ⟨j, hall j (List.getElem?_eq_some_iff.1 hj).1, p, hj, rfl⟩
      · rintro ⟨j, _, p, hp, rfl⟩
        exact ⟨p, List.mem_of_getElem? hp, rfl⟩
    rw [hr] at e1
    subst e1
    rcases hs with ⟨rfl, e3⟩ | ⟨cap, e3, e17, hle⟩
    · refine AWp.sr [] fun K6 hk6 => ?_
      simp [e3]
      apply hk6
      refine AWp.ret ?_
      simp [retQ, e3]
    · refine AWp.frzE 3 (f := fun n => AV.sc (Value.int .i64 n)) (L := L) (k := (cap - L.length) * 1) (sz := 1) (d := 17) (g := fr.gen 17) (cap := cap) (by intro x; simp) (by intro x; simp) (by simp [e3]) (by simp) (by simp [e17]) ?_
      refine AWp.sr [] fun K6 hk6 => ?_
      simp
      apply hk6
      refine AWp.ret ?_
      simp [retQ]
  -- a round
  have hjl : j < a0.length := (List.getElem?_eq_some_iff.1 hp).1
  have hlt := unseen_lt hjl hj
  have hih : (H ++ [[AV.miter o0 a0.length (seen ++ [j])]])[H.length]? = some [AV.miter o0 a0.length (seen ++ [j])] := by simp
  have hoh : (H ++ [[AV.miter o0 a0.length (seen ++ [j])]])[o0]? = some [mapC (fun b => AV.sc (Value.bool b)) a0] := by simp [hlo, ho0]
  have hset : hset (H ++ [[AV.miter o0 a0.length seen]]) H.length [AV.miter o0 a0.length (seen ++ [j])] = H ++ [[AV.miter o0 a0.length (seen ++ [j])]] := by simp
  rw [hset]
  have hent := entryA_mapC (f := fun b => AV.sc (Value.bool b)) a0 hih hoh hp
  have hnL : p.1 ∉ L := by
    rw [hL]
    rintro ⟨j', hj', p', hp', he⟩
    have h1 : (a0.map (·.1))[j]? = some p.1 := by rw [List.getElem?_map, hp]; rfl
    have h2 : (a0.map (·.1))[j']? = some p.1 := by rw [List.getElem?_map, hp']; simp [he]
    have : j = j' := by
      have hl1 : j < (a0.map (·.1)).length := by simpa using hjl
      exact (List.getElem?_inj hl1 hnd).1 (h1.trans h2.symm)
    subst this
    exact hj hj'
  have hlim : a0.length ≤ lim := okLen_le hok
  simp
  apply hk4
  refine AWp.seqK fun K5 hk5 => ?_
  refine AWp.condK fun A B ga gb => ?_
  simp
  apply ga
  refine AWp.skip ?_
  apply hk5
  refine AWp.blockK fun Q1 nn1 ex1 x1 r1 => ?_
  refine AWp.sr [] fun K6 hk6 => ?_
  simp [e7, hent]
  apply hk6
  refine AWp.sr [] fun K6 hk6 => ?_
  have hlen : ∃ y, fr.env 3 = y ∧ lenA Tryd.prog 22 y = some (.sc (.int .i64 L.length)) := by
    rcases hs with ⟨rfl, e3⟩ | ⟨cap, e3, e17, hle⟩
    · exact ⟨_, e3, by simp⟩
    · exact ⟨_, e3, by simp⟩
  obtain ⟨y, hy, hyl⟩ := hlen
  simp [hy, hyl]
  apply hk6
  refine AWp.seqP (fun fr h => H ++ [[.miter o0 a0.length (seen ++ [j])]] = h ∧ fr.env 7 = .gptr H.length 0 ∧ fr.env 4 = .sc (.int .i64 p.1) ∧ fr.env 5 = .sc (.int .i64 (L.length : Int)) ∧ ∃ cap, fr.env 3 = .lsl 17 (fr.gen 17) (L.length + 1) cap ∧
    fr.box 17 = some (arrC (fun n => AV.sc (Value.int .i64 n)) (L.take L.length ++ p.1 :: L.drop L.length) ((cap - (L.length + 1)) * 1)) ∧ L.length + 1 ≤ cap) (fun K6 hk6 => ?_) ?_
  · refine AWp.region [] (by decide +kernel) ?_
    have hla : lapp L [p.1] = L.take L.length ++ p.1 :: L.drop L.length := by simp [lapp]
    have hll : (lapp L [p.1]).length = L.length + 1 := by simp [lapp]
    rcases hs with ⟨rfl, e3⟩ | ⟨cap, e3, e17, hle⟩
    · simp [e3]
      refine AppAt2.newL (f := fun n => AV.sc (Value.int .i64 n)) [p.1] ap22 ⟨_, zero3⟩ (by intro x; simp) (by simp [okNew, lim]) rfl (by first | rfl | simp) fun cap hcap => ?_
      simp
      apply hk6
      refine ⟨rfl, ?_, ?_, ?_, cap, ?_, ?_, by simpa using hcap⟩ <;> simp [e7]
    · simp [e3]
      refine AppAt2.appL (f := fun n => AV.sc (Value.int .i64 n)) L [p.1] (cap := cap) ap22 ⟨_, zero3⟩ (by intro x; simp) (by simp [okApp]; omega) (by simp) rfl (by first | rfl | simp) (by simp [e17]) hle fun g' cap' hcap => ?_
      rw [hla] at hcap
      simp only [hla]
      simp
      apply hk6
      refine ⟨rfl, ?_, ?_, ?_, cap', ?_, ?_, by simpa using hcap⟩ <;> simp [e7]
  rintro fr6 h6 ⟨rfl, f7, f4, f5, cap, f3, f17, fle⟩
  refine AWp.seqP (fun fr h => H ++ [[.miter o0 a0.length (seen ++ [j])]] = h ∧ fr.env 7 = .gptr H.length 0 ∧ fr.env 4 = .sc (.int .i64 p.1) ∧ ∃ (i : Nat) (z : Int), fr.env 5 = .sc (.int .i64 (i : Int)) ∧ i ≤ L.length ∧ (∀ a ∈ L.drop i, a > p.1) ∧ (i = 0 ∨ ∃ a, L[i - 1]? = some a ∧ ¬ a > p.1) ∧
    ∃ cap, fr.env 3 = .lsl 17 (fr.gen 17) (L.length + 1) cap ∧ fr.box 17 = some (arrC (fun n => AV.sc (Value.int .i64 n)) (L.take i ++ z :: L.drop i) ((cap - (L.length + 1)) * 1)) ∧ L.length + 1 ≤ cap) (fun K7 hk7 => ?_) ?_
  · refine AWp.blockK fun Q2 nn2 ex2 x2 r2 => ?_
    refine AWp.loopF (fun i fr h => H ++ [[.miter o0 a0.length (seen ++ [j])]] = h ∧ fr.env 7 = .gptr H.length 0 ∧ fr.env 4 = .sc (.int .i64 p.1) ∧ ∃ (z : Int), fr.env 5 = .sc (.int .i64 (i : Int)) ∧ i ≤ L.length ∧ (∀ a ∈ L.drop i, a > p.1) ∧
      ∃ cap, fr.env 3 = .lsl 17 (fr.gen 17) (L.length + 1) cap ∧ fr.box 17 = some (arrC (fun n => AV.sc (Value.int .i64 n)) (L.take i ++ z :: L.drop i) ((cap - (L.length + 1)) * 1)) ∧ L.length + 1 ≤ cap) L.length ?_ ?_
    · exact ⟨rfl, f7, f4, p.1, f5, Nat.le_refl _, by simp, cap, f3, f17, fle⟩
    clear f7 f4 f5 f3 f17 fle hy hyl e7 hs
    rintro i fr h ⟨rfl, e7, e4, z, e5, hil, hgt, cap, e3, e17, hle⟩ K8 hk8
    have stop : ∀ fr' : Fr, fr'.env 7 = .gptr H.length 0 → fr'.env 4 = .sc (.int .i64 p.1) → fr'.env 5 = .sc (.int .i64 (i : Int)) → fr'.env 3 = fr.env 3 → fr'.gen = fr.gen → fr'.box = fr.box → (i = 0 ∨ ∃ a, L[i - 1]? = some a ∧ ¬ a > p.1) →
        K7 fr' (H ++ [[.miter o0 a0.length (seen ++ [j])]]) := by
      intro fr' g7 g4 g5 g3 gg gb h0
      exact hk7 _ _ ⟨rfl, g7, g4, i, z, g5, hil, hgt, h0, cap, by rw [g3, e3, gg], by rw [gb, e17], hle⟩
    refine AWp.seqK fun K9 hk9 => ?_
    refine AWp.sr [] fun K10 hk10 => ?_
    obtain ⟨c, hc⟩ : ∃ c : Int, c = (i : Int) := ⟨_, rfl⟩
    rw [← hc] at e5
    cases i with
    | zero =>
      have h0 : igt c 0 = false := by rw [hc]; decide
      simp [e5, h0]
      apply hk10
      refine AWp.condK fun A B ga gb => ?_
      simp
      apply gb
      refine AWp.exit ?_
      apply ex2
      refine stop _ ?_ ?_ ?_ ?_ ?_ ?_ (.inl rfl) <;> simp [e7, e4, e5, hc]
    | succ i =>
      have h0 : igt c 0 = true := by rw [hc]; simp [igt]
      obtain ⟨c', hc'⟩ : ∃ c' : Int, c' = (i : Int) := ⟨_, rfl⟩
      have hsub : isub .i64 c 1 = c' := by rw [hc, hc']; exact isub_one (by omega)
      obtain ⟨x, hx⟩ : ∃ x, L[i]? = some x := ⟨_, List.getElem?_eq_getElem (by omega)⟩
      have hml : (L.take (i + 1) ++ z :: L.drop (i + 1)).length = L.length + 1 := by simp; omega
      have hget : lget (L.take (i + 1) ++ z :: L.drop (i + 1)) c' = some x := by
        unfold lget
        rw [if_pos (by omega), hc', Int.toNat_natCast, List.getElem?_append_left (by rw [List.length_take]; omega), List.getElem?_take, if_pos (by omega), hx]
      have hrng : 0 ≤ c' ∧ c' < ((L.length + 1 : Nat) : Int) := by omega
      have hrng2 : 0 ≤ c ∧ c < ((L.length + 1 : Nat) : Int) := by omega
      have hrd := readAt_arrC (P := Tryd.prog) (t := 3) (f := fun n => AV.sc (Value.int .i64 n)) (k := (cap - (L.length + 1)) * 1) lay3 (by intro x; simp) hget
      generalize hM : L.take (i + 1) ++ z :: L.drop (i + 1) = M at e17 hml hget hrd
      generalize hN : L.length + 1 = N at e3 e17 hle hml hrng hrng2 hrd
      have hld : ∀ fr' : Fr, fr'.gen 17 = fr.gen 17 → fr'.box 17 = fr.box 17 → loadA Tryd.prog fr' (H ++ [[AV.miter o0 a0.length (seen ++ [j])]]) 3 (.lptr 17 (fr.gen 17) (eoff c'.toNat 1)) = some (.sc (.int .i64 x)) := by
        intro fr' g1 g2
        show (if fr.gen 17 = fr'.gen 17 then (match fr'.box 17 with | some cs => readAt Tryd.prog 3 cs (eoff c'.toNat 1) | none => none) else none) = _
        rw [if_pos g1.symm, g2, e17]
        exact hrd
      simp [e5, e3, h0, hsub, hrng, hld, e4, -loadA]
      apply hk10
      have hMs : M.length = N := hml
      have hget2 : lget M c = some z := by
        unfold lget
        rw [if_pos (by omega), hc, Int.toNat_natCast, ← hM, List.getElem?_append_right (by simp; omega)]
        simp [List.length_take, show min (i + 1) L.length = i + 1 from by omega]
      have hset1 : lset M c x = L.take i ++ x :: L.drop i := by
        have hd : L.drop i = x :: L.drop (i + 1) := by
          rw [List.drop_eq_getElem_cons (by omega : i < L.length)]
          congr 1
          exact (List.getElem?_eq_some_iff.1 hx).2
        have ht : L.take (i + 1) = L.take i ++ [x] := by rw [List.take_add_one, hx]; rfl
        unfold lset
        rw [hc, Int.toNat_natCast, ← hM, hd, List.set_append_right _ _ (by simp; omega)]
        rw [List.length_take, show min (i + 1) L.length = i + 1 from by omega, Nat.sub_self, List.set_cons_zero, ht, List.append_assoc]
        rfl
      refine AWp.condK fun A B ga gb => ?_
      rcases Bool.eq_false_or_eq_true (igt x p.1) with hgx | hgx
      · simp [hgx]
        apply ga
        refine AWp.skip ?_
        apply hk9
        refine AWp.blockK fun Q3 nn3 ex3 x3 r3 => ?_
        refine AWp.sr [] fun K11 hk11 => ?_
        simp [e5, e3, hsub, hrng, hrng2, hld, e4, -loadA]
        refine StoreE.arr (f := fun n => AV.sc (Value.int .i64 n)) (L := M) (k := (cap - N) * 1) x lay3 (by intro x; simp) (by simp) (x := z) hget2 (by simp) (by simp [e17]) (by simp) ?_
        simp
        apply hk11
        refine AWp.region [] (by decide +kernel) ?_
        simp [e5, hsub]
        apply nn3
        rw [hset1]
        refine hk8 _ _ i (Nat.lt_succ_self _) ⟨rfl, ?_, ?_, x, ?_, by omega, ?_, cap, ?_, ?_, by rw [hN]; exact hle⟩
        · simp [e7]
        · simp [e4]
        · simp [hc']
        · intro a ha
          have hd : L.drop i = x :: L.drop (i + 1) := by
            rw [List.drop_eq_getElem_cons (by omega : i < L.length)]
            congr 1
            exact (List.getElem?_eq_some_iff.1 hx).2
          rw [hd] at ha
          rcases List.mem_cons.1 ha with rfl | ha
          · simpa [igt] using hgx
          · exact hgt a ha
        · simp [e3, hN]
        · simp [hN]
      · simp [hgx]
        apply gb
        refine AWp.exit ?_
        apply ex2
        refine stop _ ?_ ?_ ?_ ?_ ?_ ?_ (.inr ⟨x, by simpa using hx, by simpa [igt] using hgx⟩) <;> simp [e7, e4, e5, e3, hc]
  rintro fr h ⟨rfl, e7, e4, i, z, e5, hil, hgt, h0, cap, e3, e17, hle⟩
  refine AWp.region [] (by decide +kernel) ?_
  obtain ⟨c, hc⟩ : ∃ c : Int, c = (i : Int) := ⟨_, rfl⟩
  rw [← hc] at e5
  have hml : (L.take i ++ z :: L.drop i).length = L.length + 1 := by simp; omega
  have hget2 : lget (L.take i ++ z :: L.drop i) c = some z := by
    unfold lget
    rw [if_pos (by omega), hc, Int.toNat_natCast, List.getElem?_append_right (by simp; omega)]
    simp [List.length_take, Nat.min_eq_left hil]
  have hset1 : lset (L.take i ++ z :: L.drop i) c p.1 = insS p.1 L := by
    rw [so_ins L i hA hnL hil hgt h0]
    unfold lset
    rw [hc, Int.toNat_natCast, List.set_append_right _ _ (by simp; omega), List.length_take, Nat.min_eq_left hil, Nat.sub_self, List.set_cons_zero]
  have hrng2 : 0 ≤ c ∧ c < ((L.length + 1 : Nat) : Int) := by omega
  have hlen : (insS p.1 L).length = L.length + 1 := by rw [so_ins L i hA hnL hil hgt h0]; simp; omega
  generalize hM : L.take i ++ z :: L.drop i = M at e17 hml hget2 hset1
  generalize hN : L.length + 1 = N at e3 e17 hle hml hrng2 hlen
  simp [e5, e3, e4, hrng2]
  refine StoreE.arr (f := fun n => AV.sc (Value.int .i64 n)) (L := M) (k := (cap - N) * 1) p.1 lay3 (by intro x; simp) (by simp) (x := z) hget2 (by simp) (by simp [e17]) (by simp) ?_
  simp
  apply nn1
  rw [hset1]
  refine hk3 _ _ _ (by rw [hm1]; exact hlt) ⟨seen ++ [j], insS p.1 L, rfl, by omega, insS_asc p.1 L hnL hA, ?_, rfl, ?_, .inr ⟨cap, ?_, ?_, by rw [hlen]; exact hle⟩⟩
  · intro x
    rw [insS_mem, hL]
    constructor
    · rintro (rfl | ⟨j', h1, p', h2, h3⟩)
      · exact ⟨j, by simp, p, hp, rfl⟩
      · exact ⟨j', by simp [h1], p', h2, h3⟩
    · rintro ⟨j', h1, p', h2, h3⟩
      rcases List.mem_append.1 h1 with h1 | h1
      · exact .inr ⟨j', h1, p', h2, h3⟩
      · simp only [List.mem_singleton] at h1
        subst h1
        rw [hp] at h2
        obtain rfl := Option.some.inj h2
        exact .inl h3.symm
  · simp [e7]
  · simp [e3, hlen]
  · simp [hlen]


theorem enters21 : entersB Tryd.prog 21 = true := by kernel_rfl

theorem r_ref03_Uses (T : Tabs) {H : Heap} {a0 : Tm} {r0 : (List Int)} {r1 : Int} (hm : ref03_Uses a0 = some (r0, r1)) : ACall Tryd.prog T 21 [Tm.av a0] H (AV.tuple [AV.slice .frz (List.map (fun n => AV.sc (Value.int .i64 n)) r0), AV.sc (.int .i64 r1)]) H := by
  rw [ref03_Uses] at hm
  refine ACallP.drop0 (Post := fun x K => x = AV.tuple [AV.slice .frz (List.map (fun n => AV.sc (Value.int .i64 n)) r0), AV.sc (.int .i64 r1)] ∧ ∃ X, K = H ++ X) ?_ (fun _ _ h => ⟨_, h.2.choose_spec, by rw [h.1]; simp [AV.low, AV.lowL], h.1, rfl⟩)
  refine ACallP.intro (fn := Tryd.f21) Tryd.func21 rfl enters21 (Nat.le_of_ble_eq_true rfl) ?_
  refine AWp.sr [] fun K1 hk2 => ?_
  simp
  apply hk2
  refine AWp.seqK fun K3 hk4 => ?_
  refine AWp.sr [] fun K5 hk6 => ?_
  obtain ⟨x7, hx8, hm9⟩ := bind1_some hm
  clear hm
  try dsimp only at hm9
  simp
  refine CallAt.fn (r_ref02_Check T hx8) ?_
  simp
  apply hk6
  refine AWp.sr [] fun K10 hk11 => ?_
  simp
  apply hk11
  refine AWp.condK fun A12 B13 ga14 gb15 => ?_
  rcases ite_some hm9 with ⟨hc16, hm17⟩ | ⟨hc16, hm18⟩
  · clear hm9
    simp [hc16]
    apply ga14
    refine AWp.sr [] fun K19 hk20 => ?_
    simp [hc16]
    apply hk20
    refine AWp.ret ?_
    simp only [Option.some.injEq, Prod.mk.injEq] at hm17
    obtain ⟨rfl, rfl⟩ := hm17
    simp [retQ, hc16]
  clear hm9
  simp [hc16]
  apply gb15
  refine AWp.skip ?_
  apply hk4
  refine AWp.sr [] fun K21 hk22 => ?_
  simp [hc16]
  apply hk22
  refine AWp.sr [] fun K23 hk24 => ?_
  obtain ⟨d25, hx26, hm27⟩ := bind1_some hm18
  clear hm18
  try dsimp only at hm27
  simp [hc16]
  refine CallAt.fn (r_ref03_Mark T (by simp) hx26) ?_
  simp [hc16]
  apply hk24
  refine AWp.sr [] fun K28 hk29 => ?_
  obtain ⟨x30, d31, hx32, hm33⟩ := bind2_some hm27
  clear hm27
  try dsimp only at hm33
  simp [hc16]
  refine CallAt.fn (r_ref03_Sorted T (by simp) hx32) ?_
  simp [hc16]
  apply hk29
  refine AWp.ret ?_
  simp only [Option.some.injEq, Prod.mk.injEq] at hm33
  obtain ⟨rfl, rfl⟩ := hm33
  simp [retQ, hc16]

theorem enters3 : entersB Tryd.prog 3 = true := by kernel_rfl

theorem r_law04_ReduceTypes (T : Tabs) (hT : T 0 = some (AV.agg (List.map (fun n => AV.sc (Value.int .i64 n)) tree_arities))) {a0 : (List Int)} {r0 : Bool} (hm : law04_ReduceTypes a0 = some r0) : ACallP Tryd.prog T 3 [AV.slice .frz (List.map (fun n => AV.sc (Value.int .i64 n)) a0)] [] (fun x _ => x = AV.sc (.bool r0)) := by
  rw [law04_ReduceTypes] at hm
  refine ACallP.intro (fn := Tryd.f3) Tryd.func3 rfl enters3 (Nat.le_of_ble_eq_true rfl) ?_
  refine AWp.sr [] fun K1 hk2 => ?_
  simp [hT]
  apply hk2
  refine AWp.seqK fun K3 hk4 => ?_
  refine AWp.sr [] fun K5 hk6 => ?_
  obtain ⟨x7, hx8, hm9⟩ := bind1_some hm
  clear hm
  try dsimp only at hm9
  simp [hT]
  refine CallAt.fn (r_law04_sane T hT hx8) ?_
  simp [hT]
  apply hk6
  refine AWp.condK fun A10 B11 ga12 gb13 => ?_
  rcases ite_some hm9 with ⟨hc14, hm15⟩ | ⟨hc14, hm16⟩
  rotate_left
  · clear hm9
    simp [hT, hc14]
    apply ga12
    refine AWp.sr [] fun K17 hk18 => ?_
    simp [hT, hc14]
    apply hk18
    refine AWp.ret ?_
    obtain rfl := Option.some.inj hm16
    simp [retQ, hT, hc14]
  clear hm9
  simp [hT, hc14]
  apply gb13
  refine AWp.skip ?_
  apply hk4
  refine AWp.seqK fun K19 hk20 => ?_
  refine AWp.sr [] fun K21 hk22 => ?_
  obtain ⟨x23, hx24, hm25⟩ := bind1_some hm15
  clear hm15
  try dsimp only at hm25
  simp [hT, hc14]
  refine CallAt.fn (r_mk_Few T hx24) ?_
  simp [hT, hc14]
  apply hk22
  refine AWp.condK fun A26 B27 ga28 gb29 => ?_
  rcases ite_some hm25 with ⟨hc30, hm31⟩ | ⟨hc30, hm32⟩
  rotate_left
  · clear hm25
    simp [hT, hc14, hc30]
    apply ga28
    refine AWp.sr [] fun K33 hk34 => ?_
    simp [hT, hc14, hc30]
    apply hk34
    refine AWp.ret ?_
    obtain rfl := Option.some.inj hm32
    simp [retQ, hT, hc14, hc30]
  clear hm25
  simp [hT, hc14, hc30]
  apply gb29
  refine AWp.skip ?_
  apply hk20
  refine AWp.sr [] fun K35 hk36 => ?_
  obtain ⟨x37, hx38, hm39⟩ := bind1_some hm31
  clear hm31
  try dsimp only at hm39
  simp [hT, hc14, hc30]
  refine CallAt.fn (r_mk_New T hx38) ?_
  simp [hT, hc14, hc30]
  apply hk36
  refine AWp.sr [] fun K40 hk41 => ?_
  obtain ⟨x42, d43, hx44, hm45⟩ := bind2_some hm39
  clear hm39
  try dsimp only at hm45
  simp [hT, hc14, hc30]
  refine CallAt.fn (r_mk_Context T (by simp) hx44) ?_
  simp [hT, hc14, hc30]
  apply hk41
  refine AWp.sr [] fun K46 hk47 => ?_
  obtain ⟨x48, d49, hx50, hm51⟩ := bind2_some hm45
  clear hm45
  try dsimp only at hm51
  simp [hT, hc14, hc30]
  refine CallAt.fn (r_mk_Type T (by simp) hx50) ?_
  simp [hT, hc14, hc30]
  apply hk47
  refine AWp.sr [] fun K52 hk53 => ?_
  obtain ⟨x54, d55, hx56, hm57⟩ := bind2_some hm51
  clear hm51
  try dsimp only at hm57
  simp [hT, hc14, hc30]
  refine CallAt.fn (r_mk_Term T (by simp) hx56) ?_
  simp [hT, hc14, hc30]
  apply hk53
  refine AWp.seqK fun K58 hk59 => ?_
  refine AWp.sr [] fun K60 hk61 => ?_
  simp [hT, hc14, hc30]
  apply hk61
  obtain ⟨F62, hF63, hm64⟩ := joinB_some hm57
  clear hm57
  try dsimp only at hm64
  obtain ⟨out65, hl66, hmB67⟩ := bind1_some hm64
  clear hm64
  refine AWp.blockK fun Q68 nn69 ne70 nx71 nr72 => ?_
  refine AWp.loopF (fun n73 fr h => ∃ (v74 : Int) (v75 : Int) (v76 : Int) (v77 : Int) (v78 : (List Ty)) (v79 : (List Tm)) (g5_80 : Nat) (g6_80 : Nat), hset [[]] 0 [AV.slice .frz (List.map (fun n => AV.sc (Value.int .i64 n)) d55.l), AV.sc (.int .i64 d55.atF)] = h ∧ (fr.env 4 = AV.slice .frz (List.map Ty.av x42) ∧ fr.env 5 = AV.lptr 5 g5_80 0 ∧ fr.env 6 = AV.lptr 6 g6_80 0 ∧ fr.env 39 = AV.sc (.int .i64 v74) ∧ fr.gen 5 = g5_80 ∧ fr.box 5 = some [AV.sc (.int .i64 x48.kind), AV.slice .frz (List.map Ty.av x48.args)] ∧ fr.gen 6 = g6_80 ∧ fr.box 6 = some [AV.sc (.int .i64 v75), AV.sc (.int .i64 v76), AV.sc (.int .i64 v77), AV.slice .frz (List.map Ty.av v78), AV.slice .frz (List.map Tm.av v79)]) ∧ loopN F62 n73 (v74, v75, v76, v77, v78, v79) = some out65) FU ?_ ?_
  · refine ⟨0, x54.kind, x54.index, x54.typeF.kind, x54.typeF.args, x54.args, 1, 1, ?_, ⟨?_, ?_, ?_, ?_, ?_, ?_, ?_, ?_⟩, hl66⟩ <;> first | rfl | simp [hT, hc14, hc30]
  rintro n73 fr80 h80 ⟨v74, v75, v76, v77, v78, v79, g5_80, g6_80, rfl, E80, hl66⟩ K81 hK82
  rcases n73 with _ | n73
  · rw [loopN_zero] at hl66
    cases hl66
  rw [loopN_succ] at hl66
  obtain ⟨c83, hb84, hk85⟩ := bind1_some hl66
  clear hl66
  rw [hF63] at hb84
  try dsimp only at hb84
  rw [un6_mk] at hb84
  try dsimp only at hb84
  refine AWp.sr [] fun K86 hk87 => ?_
  simp [E80, hT, hc14, hc30]
  apply hk87
  refine AWp.seqK fun K88 hk89 => ?_
  refine AWp.condK fun A90 B91 ga92 gb93 => ?_
  rcases ite_some hb84 with ⟨hc94, hm95⟩ | ⟨hc94, hm96⟩
  rotate_left
  · clear hb84
    simp [E80, hT, hc14, hc30, hc94]
    apply gb93
    refine AWp.exit ?_
    apply ne70
    obtain rfl := Option.some.inj hm96
    rw [ctlK_brk] at hk85
    obtain rfl := Option.some.inj hk85
    rw [sumK_inl, un6_mk] at hmB67
    try dsimp only at hmB67
    apply hk59
    refine AWp.sr [] fun K97 hk98 => ?_
    simp [E80, hT, hc14, hc30, hc94]
    apply hk98
    refine AWp.ret ?_
    obtain rfl := Option.some.inj hmB67
    simp [retQ, E80, hT, hc14, hc30, hc94]
  clear hb84
  simp [E80, hT, hc14, hc30, hc94]
  apply ga92
  refine AWp.skip ?_
  apply hk89
  refine AWp.seqK fun K99 hk100 => ?_
  refine AWp.blockK fun Q101 nn102 ne103 nx104 nr105 => ?_
  refine AWp.sr [] fun K106 hk107 => ?_
  obtain ⟨x108, x109, x110, hx111, hm112⟩ := bind3_some hm95
  clear hm95
  try dsimp only at hm112
  simp [E80, hT, hc14, hc30, hc94]
  refine CallAt.fn (r_reduce_Step T hT hx111) ?_
  simp [E80, hT, hc14, hc30, hc94]
  apply hk107
  refine AWp.seqK fun K113 hk114 => ?_
  refine AWp.sr [] fun K115 hk116 => ?_
  simp [E80, hT, hc14, hc30, hc94]
  apply hk116
  refine AWp.condK fun A117 B118 ga119 gb120 => ?_
  rcases ite_some hm112 with ⟨hc121, hm122⟩ | ⟨hc121, hm123⟩
  · clear hm112
    simp [E80, hT, hc14, hc30, hc94, hc121]
    apply ga119
    refine AWp.sr [] fun K124 hk125 => ?_
    simp [E80, hT, hc14, hc30, hc94, hc121]
    apply hk125
    refine AWp.ret ?_
    apply nr105
    apply nr72
    obtain rfl := Option.some.inj hm122
    rw [ctlK_ret] at hk85
    obtain rfl := Option.some.inj hk85
    rw [sumK_inr] at hmB67
    try dsimp only at hmB67
    obtain rfl := Option.some.inj hmB67
    simp [retQ, E80, hT, hc14, hc30, hc94, hc121]
  clear hm112
  simp [E80, hT, hc14, hc30, hc94, hc121]
  apply gb120
  refine AWp.skip ?_
  apply hk114
  refine AWp.seqK fun K126 hk127 => ?_
  refine AWp.sr [] fun K128 hk129 => ?_
  simp [E80, hT, hc14, hc30, hc94, hc121]
  apply hk129
  refine AWp.condK fun A130 B131 ga132 gb133 => ?_
  rcases ite_some hm123 with ⟨hc134, hm135⟩ | ⟨hc134, hm136⟩
  rotate_left
  · clear hm123
    simp [E80, hT, hc14, hc30, hc94, hc121, hc134]
    apply ga132
    refine AWp.sr [] fun K137 hk138 => ?_
    obtain ⟨x139, x140, x141, hx142, hm143⟩ := bind3_some hm136
    clear hm136
    try dsimp only at hm143
    simp [E80, hT, hc14, hc30, hc94, hc121, hc134]
    refine CallAt.fn (r_reduce_Normal T hT hx142) ?_
    simp [E80, hT, hc14, hc30, hc94, hc121, hc134]
    apply hk138
    obtain ⟨j144, hj145, hm146⟩ := joinB_some hm143
    clear hm143
    refine AWp.seqP (fun fr h => ∃ (v147 : Bool), hset [[]] 0 [AV.slice .frz (List.map (fun n => AV.sc (Value.int .i64 n)) d55.l), AV.sc (.int .i64 d55.atF)] = h ∧ fr.env 2 = AV.sc (.bool v147) ∧ j144 v147 = some c83) (fun K148 hk149 => ?_) ?_
    rotate_left
    · clear hm146
      rintro fr150 h150 ⟨v147, rfl, E150, hm151⟩
      subst hj145
      refine AWp.ret ?_
      apply nr105
      apply nr72
      obtain rfl := Option.some.inj hm151
      rw [ctlK_ret] at hk85
      obtain rfl := Option.some.inj hk85
      rw [sumK_inr] at hmB67
      try dsimp only at hmB67
      obtain rfl := Option.some.inj hmB67
      simp [retQ, E150, hT, hc14, hc30, hc94, hc121, hc134]
    refine AWp.region [] (by decide +kernel) ?_
    obtain ⟨x152, hx153, hm154⟩ := bind1_some hm146
    clear hm146
    try dsimp only at hm154
    simp [E80, hT, hc14, hc30, hc94, hc121, hc134]
    refine CallAt.fn (r_ref02_Same T hx153) ?_
    rcases ite_some hm154 with ⟨hc155, hm156⟩ | ⟨hc155, hm157⟩
    rotate_left
    · clear hm154
      simp [E80, hT, hc14, hc30, hc94, hc121, hc134, hc155]
      refine hk149 _ _ ⟨false, ?_, ?_, hm157⟩ <;> first | rfl | simp [E80, hT, hc14, hc30, hc94, hc121, hc134, hc155]
    clear hm154
    rcases ite_some hm156 with ⟨hc158, hm159⟩ | ⟨hc158, hm160⟩
    rotate_left
    · clear hm156
      simp [E80, hT, hc14, hc30, hc94, hc121, hc134, hc155, hc158]
      refine hk149 _ _ ⟨false, ?_, ?_, hm160⟩ <;> first | rfl | simp [E80, hT, hc14, hc30, hc94, hc121, hc134, hc155, hc158]
    clear hm156
    rcases ite_some hm159 with ⟨hc161, hm162⟩ | ⟨hc161, hm163⟩
    rotate_left
    · clear hm159
      simp [E80, hT, hc14, hc30, hc94, hc121, hc134, hc155, hc158, hc161]
      refine hk149 _ _ ⟨false, ?_, ?_, hm163⟩ <;> first | rfl | simp [E80, hT, hc14, hc30, hc94, hc121, hc134, hc155, hc158, hc161]
    clear hm159
    obtain ⟨x164, hx165, hm166⟩ := bind1_some hm162
    clear hm162
    try dsimp only at hm166
    simp [E80, hT, hc14, hc30, hc94, hc121, hc134, hc155, hc158, hc161]
    refine CallAt.fn (r_ref02_Same T hx165) ?_
    simp [E80, hT, hc14, hc30, hc94, hc121, hc134, hc155, hc158, hc161]
    refine hk149 _ _ ⟨x164, ?_, ?_, hm166⟩ <;> first | rfl | simp [E80, hT, hc14, hc30, hc94, hc121, hc134, hc155, hc158, hc161]
  clear hm123
  simp [E80, hT, hc14, hc30, hc94, hc121, hc134]
  apply gb133
  refine AWp.skip ?_
  apply hk127
  refine AWp.sr [] fun K167 hk168 => ?_
  obtain ⟨x169, x170, hx171, hm172⟩ := bind2_some hm135
  clear hm135
  try dsimp only at hm172
  simp [E80, hT, hc14, hc30, hc94, hc121, hc134]
  refine CallAt.fn (r_ref02_TypeOf T hx171) ?_
  simp [E80, hT, hc14, hc30, hc94, hc121, hc134]
  apply hk168
  refine AWp.seqK fun K173 hk174 => ?_
  obtain ⟨j175, hj176, hm177⟩ := joinB_some hm172
  clear hm172
  refine AWp.seqP (fun fr h => ∃ (v178 : Bool) (g5_187 : Nat) (g6_187 : Nat) (g7_187 : Nat), hset [[]] 0 [AV.slice .frz (List.map (fun n => AV.sc (Value.int .i64 n)) d55.l), AV.sc (.int .i64 d55.atF)] = h ∧ (fr.env 4 = AV.slice .frz (List.map Ty.av x42) ∧ fr.env 5 = AV.lptr 5 g5_187 0 ∧ fr.env 6 = AV.lptr 6 g6_187 0 ∧ fr.env 7 = AV.lptr 7 g7_187 0 ∧ fr.env 39 = AV.sc (.int .i64 v74) ∧ fr.env 88 = AV.sc (.bool v178) ∧ fr.gen 5 = g5_187 ∧ fr.box 5 = some [AV.sc (.int .i64 x48.kind), AV.slice .frz (List.map Ty.av x48.args)] ∧ fr.gen 6 = g6_187 ∧ fr.box 6 = some [AV.sc (.int .i64 v75), AV.sc (.int .i64 v76), AV.sc (.int .i64 v77), AV.slice .frz (List.map Ty.av v78), AV.slice .frz (List.map Tm.av v79)] ∧ fr.gen 7 = g7_187 ∧ fr.box 7 = some [AV.sc (.int .i64 x108.kind), AV.sc (.int .i64 x108.index), AV.sc (.int .i64 x108.typeF.kind), AV.slice .frz (List.map Ty.av x108.typeF.args), AV.slice .frz (List.map Tm.av x108.args)]) ∧ j175 v178 = some c83) (fun K179 hk180 => ?_) ?_
  · refine AWp.region [] (by decide +kernel) ?_
    rcases ite_some hm177 with ⟨hc181, hm182⟩ | ⟨hc181, hm183⟩
    · clear hm177
      simp [E80, hT, hc14, hc30, hc94, hc121, hc134, hc181]
      refine hk180 _ _ ⟨true, g5_80, g6_80, (fr80.gen 7 + 1), ?_, ⟨?_, ?_, ?_, ?_, ?_, ?_, ?_, ?_, ?_, ?_, ?_, ?_⟩, hm182⟩ <;> first | rfl | simp [E80, hT, hc14, hc30, hc94, hc121, hc134, hc181]
    clear hm177
    obtain ⟨x184, hx185, hm186⟩ := bind1_some hm183
    clear hm183
    try dsimp only at hm186
    simp [E80, hT, hc14, hc30, hc94, hc121, hc134, hc181]
    refine CallAt.fn (r_ref01_Same T hx185) ?_
    simp [E80, hT, hc14, hc30, hc94, hc121, hc134, hc181]
    refine hk180 _ _ ⟨(bnot x184), g5_80, g6_80, (fr80.gen 7 + 1), ?_, ⟨?_, ?_, ?_, ?_, ?_, ?_, ?_, ?_, ?_, ?_, ?_, ?_⟩, hm186⟩ <;> first | rfl | simp [E80, hT, hc14, hc30, hc94, hc121, hc134, hc181]
  clear hm177
  rintro fr187 h187 ⟨v178, g5_187, g6_187, g7_187, rfl, E187, hm188⟩
  subst hj176
  refine AWp.condK fun A189 B190 ga191 gb192 => ?_
  rcases ite_some hm188 with ⟨hc193, hm194⟩ | ⟨hc193, hm195⟩
  · clear hm188
    simp [E187, hT, hc14, hc30, hc94, hc121, hc134, hc193]
    apply ga191
    refine AWp.sr [] fun K196 hk197 => ?_
    simp [E187, hT, hc14, hc30, hc94, hc121, hc134, hc193]
    apply hk197
    refine AWp.ret ?_
    apply nr105
    apply nr72
    obtain rfl := Option.some.inj hm194
    rw [ctlK_ret] at hk85
    obtain rfl := Option.some.inj hk85
    rw [sumK_inr] at hmB67
    try dsimp only at hmB67
    obtain rfl := Option.some.inj hmB67
    simp [retQ, E187, hT, hc14, hc30, hc94, hc121, hc134, hc193]
  clear hm188
  simp [E187, hT, hc14, hc30, hc94, hc121, hc134, hc193]
  apply gb192
  refine AWp.skip ?_
  apply hk174
  refine AWp.sr [] fun K198 hk199 => ?_
  obtain ⟨x200, x201, hx202, hm203⟩ := bind2_some hm195
  clear hm195
  try dsimp only at hm203
  simp [E187, hT, hc14, hc30, hc94, hc121, hc134, hc193]
  refine CallAt.fn (r_ref03_Uses T hx202) ?_
  simp [E187, hT, hc14, hc30, hc94, hc121, hc134, hc193]
  apply hk199
  refine AWp.sr [] fun K204 hk205 => ?_
  obtain ⟨x206, x207, hx208, hm209⟩ := bind2_some hm203
  clear hm203
  try dsimp only at hm209
  simp [E187, hT, hc14, hc30, hc94, hc121, hc134, hc193]
  refine CallAt.fn (r_ref03_Uses T hx208) ?_
  simp [E187, hT, hc14, hc30, hc94, hc121, hc134, hc193]
  apply hk205
  refine AWp.seqK fun K210 hk211 => ?_
  refine AWp.sr [] fun K212 hk213 => ?_
  simp [E187, hT, hc14, hc30, hc94, hc121, hc134, hc193]
  apply hk213
  obtain ⟨hok214, hm215⟩ := chk_some hm209
  clear hm209
  obtain ⟨F216, hF217, hm218⟩ := joinB_some hm215
  clear hm215
  try dsimp only at hm218
  obtain ⟨out219, hl220, hmB221⟩ := bind1_some hm218
  clear hm218
  refine AWp.blockK fun Q222 nn223 ne224 nx225 nr226 => ?_
  refine AWp.loopF (fun n227 fr h => ∃ (i228 : Nat) (j229 : Int) (g5_230 : Nat) (g6_230 : Nat) (g7_230 : Nat), hset [[]] 0 [AV.slice .frz (List.map (fun n => AV.sc (Value.int .i64 n)) d55.l), AV.sc (.int .i64 d55.atF)] = h ∧ (fr.env 4 = AV.slice .frz (List.map Ty.av x42) ∧ fr.env 5 = AV.lptr 5 g5_230 0 ∧ fr.env 6 = AV.lptr 6 g6_230 0 ∧ fr.env 7 = AV.lptr 7 g7_230 0 ∧ fr.env 15 = AV.slice .frz (List.map (fun n => AV.sc (Value.int .i64 n)) x200) ∧ fr.env 39 = AV.sc (.int .i64 v74) ∧ fr.env 99 = AV.slice .frz (List.map (fun n => AV.sc (Value.int .i64 n)) x206) ∧ fr.env 100 = AV.sc (.int .i64 (llen x206)) ∧ fr.env 101 = AV.sc (.int .i64 j229) ∧ fr.gen 5 = g5_230 ∧ fr.box 5 = some [AV.sc (.int .i64 x48.kind), AV.slice .frz (List.map Ty.av x48.args)] ∧ fr.gen 6 = g6_230 ∧ fr.box 6 = some [AV.sc (.int .i64 v75), AV.sc (.int .i64 v76), AV.sc (.int .i64 v77), AV.slice .frz (List.map Ty.av v78), AV.slice .frz (List.map Tm.av v79)] ∧ fr.gen 7 = g7_230 ∧ fr.box 7 = some [AV.sc (.int .i64 x108.kind), AV.sc (.int .i64 x108.index), AV.sc (.int .i64 x108.typeF.kind), AV.slice .frz (List.map Ty.av x108.typeF.args), AV.slice .frz (List.map Tm.av x108.args)]) ∧ j229 = (i228 : Int) ∧ i228 + n227 = List.length x206 ∧ forR F216 (List.drop i228 x206) i228 () = some out219) (List.length x206) ?_ ?_
  · refine ⟨0, 0, g5_187, g6_187, g7_187, ?_, ⟨?_, ?_, ?_, ?_, ?_, ?_, ?_, ?_, ?_, ?_, ?_, ?_, ?_, ?_, ?_⟩, rfl, (by simp), hl220⟩ <;> first | rfl | simp [E187, hT, hc14, hc30, hc94, hc121, hc134, hc193]
  rintro n227 fr230 h230 ⟨i228, j229, g5_230, g6_230, g7_230, rfl, E230, hj231, hi232, hl220⟩ K233 hK234
  rcases n227 with _ | n227
  · have hlt235 := ilt_notJ (l := x206) hj231 (by omega)
    refine AWp.sr [] fun K236 hk237 => ?_
    simp [E230, hT, hlt235, hc14, hc30, hc94, hc121, hc134, hc193]
    apply hk237
    refine AWp.seqK fun K238 hk239 => ?_
    refine AWp.condK fun A240 B241 ga242 gb243 => ?_
    simp [E230, hT, hlt235, hc14, hc30, hc94, hc121, hc134, hc193]
    apply gb243
    refine AWp.exit ?_
    apply ne224
    rw [List.drop_eq_nil_of_le (by omega), forR_nil] at hl220
    obtain rfl := Option.some.inj hl220
    rw [sumK_inl] at hmB221
    try dsimp only at hmB221
    apply hk211
    refine AWp.region [] (by decide +kernel) ?_
    simp [E230, hT, hlt235, hc14, hc30, hc94, hc121, hc134, hc193]
    apply nn102
    apply hk100
    refine AWp.region [] (by decide +kernel) ?_
    simp [E230, hT, hlt235, hc14, hc30, hc94, hc121, hc134, hc193]
    obtain rfl := Option.some.inj hmB221
    rw [ctlK_next] at hk85
    refine hK82 _ _ n73 (Nat.lt_succ_self _) ⟨(iadd .i64 v74 1), x108.kind, x108.index, x108.typeF.kind, x108.typeF.args, x108.args, g5_230, g6_230, ?_, ⟨?_, ?_, ?_, ?_, ?_, ?_, ?_, ?_⟩, hk85⟩ <;> first | rfl | simp [E230, hT, hlt235, hc14, hc30, hc94, hc121, hc134, hc193]
  have hlt235 := ilt_ofJ (l := x206) hj231 (by omega)
  obtain ⟨x244, hdn227, hg245⟩ := drop_ltJ (l := x206) hj231 (by omega)
  rw [hdn227, forR_cons] at hl220
  obtain ⟨c246, hb247, hk248⟩ := bind1_some hl220
  clear hl220
  rw [hF217, ← hj231] at hb247
  try dsimp only at hb247
  refine AWp.sr [] fun K249 hk250 => ?_
  simp [E230, hT, hlt235, hg245, hc14, hc30, hc94, hc121, hc134, hc193]
  apply hk250
  refine AWp.seqK fun K251 hk252 => ?_
  refine AWp.condK fun A253 B254 ga255 gb256 => ?_
  simp [E230, hT, hlt235, hg245, hc14, hc30, hc94, hc121, hc134, hc193]
  apply ga255
  refine AWp.skip ?_
  apply hk252
  refine AWp.seqK fun K257 hk258 => ?_
  refine AWp.blockK fun Q259 nn260 ne261 nx262 nr263 => ?_
  refine AWp.sr [] fun K264 hk265 => ?_
  simp [E230, hT, hlt235, hg245, hc14, hc30, hc94, hc121, hc134, hc193]
  apply hk265
  refine AWp.sr [] fun K266 hk267 => ?_
  simp [E230, hT, hlt235, hg245, hc14, hc30, hc94, hc121, hc134, hc193]
  apply hk267
  refine AWp.seqK fun K268 hk269 => ?_
  refine AWp.sr [] fun K270 hk271 => ?_
  simp [E230, hT, hlt235, hg245, hc14, hc30, hc94, hc121, hc134, hc193]
  apply hk271
  obtain ⟨hok272, hm273⟩ := chk_some hb247
  clear hb247
  obtain ⟨F274, hF275, hm276⟩ := joinB_some hm273
  clear hm273
  try dsimp only at hm276
  obtain ⟨out277, hl278, hmB279⟩ := bind1_some hm276
  clear hm276
  refine AWp.blockK fun Q280 nn281 ne282 nx283 nr284 => ?_
  refine AWp.loopF (fun n285 fr h => ∃ (i286 : Nat) (j287 : Int) (v288 : Bool) (g5_289 : Nat) (g6_289 : Nat) (g7_289 : Nat), hset [[]] 0 [AV.slice .frz (List.map (fun n => AV.sc (Value.int .i64 n)) d55.l), AV.sc (.int .i64 d55.atF)] = h ∧ (fr.env 4 = AV.slice .frz (List.map Ty.av x42) ∧ fr.env 5 = AV.lptr 5 g5_289 0 ∧ fr.env 6 = AV.lptr 6 g6_289 0 ∧ fr.env 7 = AV.lptr 7 g7_289 0 ∧ fr.env 15 = AV.slice .frz (List.map (fun n => AV.sc (Value.int .i64 n)) x200) ∧ fr.env 20 = AV.sc (.int .i64 x244) ∧ fr.env 21 = AV.sc (.bool v288) ∧ fr.env 39 = AV.sc (.int .i64 v74) ∧ fr.env 99 = AV.slice .frz (List.map (fun n => AV.sc (Value.int .i64 n)) x206) ∧ fr.env 100 = AV.sc (.int .i64 (llen x206)) ∧ fr.env 101 = AV.sc (.int .i64 j229) ∧ fr.env 105 = AV.slice .frz (List.map (fun n => AV.sc (Value.int .i64 n)) x200) ∧ fr.env 106 = AV.sc (.int .i64 (llen x200)) ∧ fr.env 107 = AV.sc (.int .i64 j287) ∧ fr.gen 5 = g5_289 ∧ fr.box 5 = some [AV.sc (.int .i64 x48.kind), AV.slice .frz (List.map Ty.av x48.args)] ∧ fr.gen 6 = g6_289 ∧ fr.box 6 = some [AV.sc (.int .i64 v75), AV.sc (.int .i64 v76), AV.sc (.int .i64 v77), AV.slice .frz (List.map Ty.av v78), AV.slice .frz (List.map Tm.av v79)] ∧ fr.gen 7 = g7_289 ∧ fr.box 7 = some [AV.sc (.int .i64 x108.kind), AV.sc (.int .i64 x108.index), AV.sc (.int .i64 x108.typeF.kind), AV.slice .frz (List.map Ty.av x108.typeF.args), AV.slice .frz (List.map Tm.av x108.args)]) ∧ j287 = (i286 : Int) ∧ i286 + n285 = List.length x200 ∧ forR F274 (List.drop i286 x200) i286 v288 = some out277) (List.length x200) ?_ ?_
  · refine ⟨0, 0, false, g5_230, g6_230, g7_230, ?_, ⟨?_, ?_, ?_, ?_, ?_, ?_, ?_, ?_, ?_, ?_, ?_, ?_, ?_, ?_, ?_, ?_, ?_, ?_, ?_, ?_⟩, rfl, (by simp), hl278⟩ <;> first | rfl | simp [E230, hT, hlt235, hg245, hc14, hc30, hc94, hc121, hc134, hc193]
  rintro n285 fr289 h289 ⟨i286, j287, v288, g5_289, g6_289, g7_289, rfl, E289, hj290, hi291, hl278⟩ K292 hK293
  rcases n285 with _ | n285
  · have hlt294 := ilt_notJ (l := x200) hj290 (by omega)
    refine AWp.sr [] fun K295 hk296 => ?_
    simp [E289, hT, hlt235, hg245, hlt294, hc14, hc30, hc94, hc121, hc134, hc193]
    apply hk296
    refine AWp.seqK fun K297 hk298 => ?_
    refine AWp.condK fun A299 B300 ga301 gb302 => ?_
    simp [E289, hT, hlt235, hg245, hlt294, hc14, hc30, hc94, hc121, hc134, hc193]
    apply gb302
    refine AWp.exit ?_
    apply ne282
    rw [List.drop_eq_nil_of_le (by omega), forR_nil] at hl278
    obtain rfl := Option.some.inj hl278
    rw [sumK_inl] at hmB279
    try dsimp only at hmB279
    apply hk269
    refine AWp.sr [] fun K303 hk304 => ?_
    simp [E289, hT, hlt235, hg245, hlt294, hc14, hc30, hc94, hc121, hc134, hc193]
    apply hk304
    refine AWp.condK fun A305 B306 ga307 gb308 => ?_
    rcases ite_some hmB279 with ⟨hc309, hm310⟩ | ⟨hc309, hm311⟩
    · clear hmB279
      simp [E289, hT, hlt235, hg245, hlt294, hc14, hc30, hc94, hc121, hc134, hc193, hc309]
      apply gb308
      refine AWp.skip ?_
      apply nn260
      apply hk258
      refine AWp.region [] (by decide +kernel) ?_
      simp [E289, hT, hlt235, hg245, hlt294, hc14, hc30, hc94, hc121, hc134, hc193, hc309]
      obtain rfl := Option.some.inj hm310
      rw [ctlK_next] at hk248
      refine hK234 _ _ n227 (Nat.lt_succ_self _) ⟨(i228 + 1), (iadd .i64 j229 1), g5_289, g6_289, g7_289, ?_, ⟨?_, ?_, ?_, ?_, ?_, ?_, ?_, ?_, ?_, ?_, ?_, ?_, ?_, ?_, ?_⟩, (iadd_idxJ hj231 (by omega) hok214), (by omega), hk248⟩ <;> first | rfl | simp [E289, hT, hlt235, hg245, hlt294, hc14, hc30, hc94, hc121, hc134, hc193, hc309]
    clear hmB279
    simp [E289, hT, hlt235, hg245, hlt294, hc14, hc30, hc94, hc121, hc134, hc193, hc309]
    apply ga307
    refine AWp.sr [] fun K312 hk313 => ?_
    simp [E289, hT, hlt235, hg245, hlt294, hc14, hc30, hc94, hc121, hc134, hc193, hc309]
    apply hk313
    refine AWp.ret ?_
    apply nr263
    apply nr226
    apply nr105
    apply nr72
    obtain rfl := Option.some.inj hm311
    rw [ctlK_ret] at hk248
    obtain rfl := Option.some.inj hk248
    rw [sumK_inr] at hmB221
    try dsimp only at hmB221
    obtain rfl := Option.some.inj hmB221
    rw [ctlK_ret] at hk85
    obtain rfl := Option.some.inj hk85
    rw [sumK_inr] at hmB67
    try dsimp only at hmB67
    obtain rfl := Option.some.inj hmB67
    simp [retQ, E289, hT, hlt235, hg245, hlt294, hc14, hc30, hc94, hc121, hc134, hc193, hc309]
  have hlt294 := ilt_ofJ (l := x200) hj290 (by omega)
  obtain ⟨x314, hdn285, hg315⟩ := drop_ltJ (l := x200) hj290 (by omega)
  rw [hdn285, forR_cons] at hl278
  obtain ⟨c316, hb317, hk318⟩ := bind1_some hl278
  clear hl278
  rw [hF275, ← hj290] at hb317
  try dsimp only at hb317
  refine AWp.sr [] fun K319 hk320 => ?_
  simp [E289, hT, hlt235, hg245, hlt294, hg315, hc14, hc30, hc94, hc121, hc134, hc193]
  apply hk320
  refine AWp.seqK fun K321 hk322 => ?_
  refine AWp.condK fun A323 B324 ga325 gb326 => ?_
  simp [E289, hT, hlt235, hg245, hlt294, hg315, hc14, hc30, hc94, hc121, hc134, hc193]
  apply ga325
  refine AWp.skip ?_
  apply hk322
  refine AWp.seqP (fun fr h => ∃ (g5_329 : Nat) (g6_329 : Nat) (g7_329 : Nat), hset [[]] 0 [AV.slice .frz (List.map (fun n => AV.sc (Value.int .i64 n)) d55.l), AV.sc (.int .i64 d55.atF)] = h ∧ (fr.env 4 = AV.slice .frz (List.map Ty.av x42) ∧ fr.env 5 = AV.lptr 5 g5_329 0 ∧ fr.env 6 = AV.lptr 6 g6_329 0 ∧ fr.env 7 = AV.lptr 7 g7_329 0 ∧ fr.env 15 = AV.slice .frz (List.map (fun n => AV.sc (Value.int .i64 n)) x200) ∧ fr.env 20 = AV.sc (.int .i64 x244) ∧ fr.env 21 = AV.sc (.bool (sel v288 true (ieq x244 x314))) ∧ fr.env 39 = AV.sc (.int .i64 v74) ∧ fr.env 99 = AV.slice .frz (List.map (fun n => AV.sc (Value.int .i64 n)) x206) ∧ fr.env 100 = AV.sc (.int .i64 (llen x206)) ∧ fr.env 101 = AV.sc (.int .i64 j229) ∧ fr.env 105 = AV.slice .frz (List.map (fun n => AV.sc (Value.int .i64 n)) x200) ∧ fr.env 106 = AV.sc (.int .i64 (llen x200)) ∧ fr.env 107 = AV.sc (.int .i64 j287) ∧ fr.gen 5 = g5_329 ∧ fr.box 5 = some [AV.sc (.int .i64 x48.kind), AV.slice .frz (List.map Ty.av x48.args)] ∧ fr.gen 6 = g6_329 ∧ fr.box 6 = some [AV.sc (.int .i64 v75), AV.sc (.int .i64 v76), AV.sc (.int .i64 v77), AV.slice .frz (List.map Ty.av v78), AV.slice .frz (List.map Tm.av v79)] ∧ fr.gen 7 = g7_329 ∧ fr.box 7 = some [AV.sc (.int .i64 x108.kind), AV.sc (.int .i64 x108.index), AV.sc (.int .i64 x108.typeF.kind), AV.slice .frz (List.map Ty.av x108.typeF.args), AV.slice .frz (List.map Tm.av x108.args)])) (fun K327 hk328 => ?_) ?_
  rotate_left
  · rintro fr329 h329 ⟨g5_329, g6_329, g7_329, rfl, E329⟩
    refine AWp.region [] (by decide +kernel) ?_
    simp [E329, hT, hlt235, hg245, hlt294, hg315, hc14, hc30, hc94, hc121, hc134, hc193]
    obtain rfl := Option.some.inj hb317
    rw [ctlK_next] at hk318
    refine hK293 _ _ n285 (Nat.lt_succ_self _) ⟨(i286 + 1), (iadd .i64 j287 1), (sel v288 true (ieq x244 x314)), g5_329, g6_329, g7_329, ?_, ⟨?_, ?_, ?_, ?_, ?_, ?_, ?_, ?_, ?_, ?_, ?_, ?_, ?_, ?_, ?_, ?_, ?_, ?_, ?_, ?_⟩, (iadd_idxJ hj290 (by omega) hok272), (by omega), hk318⟩ <;> first | rfl | simp [E329, hT, hlt235, hg245, hlt294, hg315, hc14, hc30, hc94, hc121, hc134, hc193]
  refine AWp.blockK fun Q330 nn331 ne332 nx333 nr334 => ?_
  refine AWp.sr [] fun K335 hk336 => ?_
  simp [E289, hT, hlt235, hg245, hlt294, hg315, hc14, hc30, hc94, hc121, hc134, hc193]
  apply hk336
  refine AWp.region [] (by decide +kernel) ?_
  rcases Bool.eq_false_or_eq_true v288 with hc337 | hc337
  · simp [E289, hT, hlt235, hg245, hlt294, hg315, hc14, hc30, hc94, hc121, hc134, hc193, hc337]
    apply nn331
    refine hk328 _ _ ⟨g5_289, g6_289, g7_289, ?_, ⟨?_, ?_, ?_, ?_, ?_, ?_, ?_, ?_, ?_, ?_, ?_, ?_, ?_, ?_, ?_, ?_, ?_, ?_, ?_, ?_⟩⟩ <;> first | rfl | simp [E289, hT, hlt235, hg245, hlt294, hg315, hc14, hc30, hc94, hc121, hc134, hc193, hc337]
  simp [E289, hT, hlt235, hg245, hlt294, hg315, hc14, hc30, hc94, hc121, hc134, hc193, hc337]
  apply nn331
  refine hk328 _ _ ⟨g5_289, g6_289, g7_289, ?_, ⟨?_, ?_, ?_, ?_, ?_, ?_, ?_, ?_, ?_, ?_, ?_, ?_, ?_, ?_, ?_, ?_, ?_, ?_, ?_, ?_⟩⟩ <;> first | rfl | simp [E289, hT, hlt235, hg245, hlt294, hg315, hc14, hc30, hc94, hc121, hc134, hc193, hc337]


end Go.Proofs.YtnabbjnhemmkhaaDoor
