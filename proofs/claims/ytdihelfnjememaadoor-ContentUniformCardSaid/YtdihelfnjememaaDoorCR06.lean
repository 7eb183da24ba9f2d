/- The program's functions do what the models say. -/
import Derived.Test.YtdihelfnjememaaDoorCR05
import Derived.Test.YtdihelfnjememaaDoorCM
set_option maxRecDepth 20000
set_option maxHeartbeats 4000000
set_option linter.unusedSimpArgs false
set_option linter.unusedVariables false
namespace Go.Proofs.YtdihelfnjememaaDoor
open Go Go.Abs Go.Mdl

theorem enters70 : entersB Tryd.prog 70 = true := by kernel_rfl

theorem r_ref05_Sub (T : Tabs) {H : Heap}  {r0 : Tm} (hm : ref05_Sub = some r0) : ACall Tryd.prog T 70 [] H (Tm.av r0) H := by
  rw [ref05_Sub] at hm
  refine ACallP.intro (fn := Tryd.f70) Tryd.func70 rfl enters70 (Nat.le_of_ble_eq_true rfl) ?_
  refine AWp.sr [] fun K1 hk2 => ?_
  simp
  apply hk2
  refine AWp.sr [] fun K3 hk4 => ?_
  obtain ⟨x5, hx6, hm7⟩ := bind1_some hm
  clear hm
  try dsimp only at hm7
  simp
  refine CallAt.fn (r_ref02_Var T hx6) ?_
  obtain ⟨x8, hx9, hm10⟩ := bind1_some hm7
  clear hm7
  try dsimp only at hm10
  simp
  refine CallAt.fn (r_ref05_Pred T hx9) ?_
  obtain ⟨x11, hx12, hm13⟩ := bind1_some hm10
  clear hm10
  try dsimp only at hm13
  simp
  refine CallAt.fn (r_ref02_Var T hx12) ?_
  obtain ⟨x14, hx15, hm16⟩ := bind1_some hm13
  clear hm13
  try dsimp only at hm16
  simp
  refine CallAt.fn (r_ref02_N T hx15) ?_
  obtain ⟨x17, hx18, hm19⟩ := bind1_some hm16
  clear hm16
  try dsimp only at hm19
  simp
  refine CallAt.fn (r_ref05_lam T hx18) ?_
  obtain ⟨x20, hx21, hm22⟩ := bind1_some hm19
  clear hm19
  try dsimp only at hm22
  simp
  refine CallAt.fn (r_ref05_lam T hx21) ?_
  obtain ⟨x23, hx24, hm25⟩ := bind1_some hm22
  clear hm22
  try dsimp only at hm25
  simp
  refine CallAt.fn (r_ref02_Var T hx24) ?_
  obtain ⟨x26, hx27, hm28⟩ := bind1_some hm25
  clear hm25
  try dsimp only at hm28
  simp
  refine CallAt.fn (r_ref05_rec T hx27) ?_
  obtain ⟨x29, hx30, hm31⟩ := bind1_some hm28
  clear hm28
  try dsimp only at hm31
  simp
  refine CallAt.fn (r_ref05_lam T hx30) ?_
  obtain ⟨x32, hx33, hm34⟩ := bind1_some hm31
  clear hm31
  try dsimp only at hm34
  simp
  refine CallAt.fn (r_ref05_lam T hx33) ?_
  simp
  apply hk4
  refine AWp.ret ?_
  obtain rfl := Option.some.inj hm34
  simp [retQ]

theorem enters30 : entersB Tryd.prog 30 = true := by kernel_rfl

theorem rg_mk_Term (T : Tabs) : ∀ (n : Nat), (∀ {H : Heap} {a0 : Smk_Deck} {a1 : (List Ty)} {a2 : Ty} {a3 : Int} {r0 : Tm} {rd : Smk_Deck} {o : Nat} (ho : o < List.length H) (hm : mk_Term n a0 a1 a2 a3 = some (r0, rd)), ACall Tryd.prog T 30 [AV.gptr o 0, AV.slice .frz (List.map Ty.av a1), Ty.av a2, AV.sc (.int .i64 a3)] (hset H o [AV.slice .frz (List.map (fun n => AV.sc (Value.int .i64 n)) a0.l), AV.sc (.int .i64 a0.atF)]) (Tm.av r0) (hset H o [AV.slice .frz (List.map (fun n => AV.sc (Value.int .i64 n)) rd.l), AV.sc (.int .i64 rd.atF)])) := by
  intro n
  induction n with
  | zero =>
    skip
    all_goals
      intros
      rename_i hm
      cases hm
  | succ n ih =>
    intro H a0 a1 a2 a3 r0 rd o ho hm
    rw [mk_Term] at hm
    have hget : ∀ c, (hset H o c)[o]? = some c := fun c => by simp [hset, ho]
    refine ACallP.intro (fn := Tryd.f30) Tryd.func30 rfl enters30 (Nat.le_of_ble_eq_true rfl) ?_
    refine AWp.sr [] fun K1 hk2 => ?_
    simp [hget]
    apply hk2
    refine AWp.sr [] fun K3 hk4 => ?_
    obtain ⟨x5, hx6, hm7⟩ := bind1_some hm
    clear hm
    try dsimp only at hm7
    simp [hget]
    refine CallAt.fn (r_mk_vars T hx6) ?_
    simp [hget]
    apply hk4
    refine AWp.seqK fun K8 hk9 => ?_
    obtain ⟨j10, hj11, hm12⟩ := joinB_some hm7
    clear hm7
    refine AWp.seqP (fun fr h => ∃ (v13 : Bool) (v14 : Smk_Deck) (g6_24 : Nat) (g8_24 : Nat), hset H o [AV.slice .frz (List.map (fun n => AV.sc (Value.int .i64 n)) v14.l), AV.sc (.int .i64 v14.atF)] = h ∧ (fr.env 0 = AV.gptr o 0 ∧ fr.env 1 = AV.slice .frz (List.map Ty.av a1) ∧ fr.env 3 = AV.sc (.int .i64 a3) ∧ fr.env 6 = AV.lptr 6 g6_24 0 ∧ fr.env 8 = AV.lptr 8 g8_24 0 ∧ fr.env 9 = AV.slice .frz (List.map (fun n => AV.sc (Value.int .i64 n)) x5) ∧ fr.env 27 = AV.sc (.bool v13) ∧ fr.gen 6 = g6_24 ∧ fr.box 6 = some [AV.sc (.int .i64 a2.kind), AV.slice .frz (List.map Ty.av a2.args)] ∧ fr.gen 8 = g8_24 ∧ fr.box 8 = some [AV.sc (.int .i64 0), AV.sc (.int .i64 0), AV.sc (.int .i64 0), AV.slice .full [], AV.slice .full []]) ∧ j10 v13 v14 = some (r0, rd)) (fun K15 hk16 => ?_) ?_
    · refine AWp.region [] (by decide +kernel) ?_
      rcases ite_some hm12 with ⟨hc17, hm18⟩ | ⟨hc17, hm19⟩
      rotate_left
      · clear hm12
        simp [hget, hc17]
        refine hk16 _ _ ⟨false, a0, 1, 1, ?_, ⟨?_, ?_, ?_, ?_, ?_, ?_, ?_, ?_, ?_, ?_, ?_⟩, hm19⟩ <;> first | rfl | simp [hget, hc17]
      clear hm12
      obtain ⟨x20, d21, hx22, hm23⟩ := bind2_some hm18
      clear hm18
      try dsimp only at hm23
      simp [hget, hc17]
      refine CallAt.fn (r_mk_Deck_Next T (by first | exact ho | decide) hx22) ?_
      simp [hget, hc17]
      refine hk16 _ _ ⟨(igt x20 0), d21, 1, 1, ?_, ⟨?_, ?_, ?_, ?_, ?_, ?_, ?_, ?_, ?_, ?_, ?_⟩, hm23⟩ <;> first | rfl | simp [hget, hc17]
    clear hm12
    rintro fr24 h24 ⟨v13, v14, g6_24, g8_24, rfl, E24, hm25⟩
    subst hj11
    refine AWp.condK fun A26 B27 ga28 gb29 => ?_
    rcases ite_some hm25 with ⟨hc30, hm31⟩ | ⟨hc30, hm32⟩
    · clear hm25
      simp [E24, hget, hc30]
      apply ga28
      refine AWp.sr [] fun K33 hk34 => ?_
      obtain ⟨x35, d36, hx37, hm38⟩ := bind2_some hm31
      clear hm31
      try dsimp only at hm38
      simp [E24, hget, hc30]
      refine CallAt.fn (r_mk_Deck_Next T (by first | exact ho | decide) hx37) ?_
      obtain ⟨x39, hx40, hm41⟩ := bind1_some hm38
      clear hm38
      try dsimp only at hm41
      obtain ⟨x42, hx43, hm44⟩ := bind1_some hm41
      clear hm41
      try dsimp only at hm44
      simp [E24, hget, hx40, hc30]
      refine CallAt.fn (r_ref02_Var T hx43) ?_
      simp [E24, hget, hx40, hc30]
      apply hk34
      refine AWp.ret ?_
      simp only [Option.some.injEq, Prod.mk.injEq] at hm44
      obtain ⟨rfl, rfl⟩ := hm44
      simp [retQ, E24, hget, hx40, hc30]
    clear hm25
    simp [E24, hget, hc30]
    apply gb29
    refine AWp.skip ?_
    apply hk9
    obtain ⟨j45, hj46, hm47⟩ := joinB_some hm32
    clear hm32
    refine AWp.seqP (fun fr h => ∃ (v48 : Smk_Deck) (g6_51 : Nat) (g8_51 : Nat), hset H o [AV.slice .frz (List.map (fun n => AV.sc (Value.int .i64 n)) v48.l), AV.sc (.int .i64 v48.atF)] = h ∧ (fr.env 0 = AV.gptr o 0 ∧ fr.env 1 = AV.slice .frz (List.map Ty.av a1) ∧ fr.env 3 = AV.sc (.int .i64 a3) ∧ fr.env 6 = AV.lptr 6 g6_51 0 ∧ fr.env 8 = AV.lptr 8 g8_51 0 ∧ fr.gen 6 = g6_51 ∧ fr.box 6 = some [AV.sc (.int .i64 a2.kind), AV.slice .frz (List.map Ty.av a2.args)] ∧ fr.gen 8 = g8_51 ∧ fr.box 8 = some [AV.sc (.int .i64 0), AV.sc (.int .i64 0), AV.sc (.int .i64 0), AV.slice .full [], AV.slice .full []]) ∧ j45 v48 = some (r0, rd)) (fun K49 hk50 => ?_) ?_
    rotate_left
    · clear hm47
      rintro fr51 h51 ⟨v48, g6_51, g8_51, rfl, E51, hm52⟩
      subst hj46
      refine AWp.seqK fun K53 hk54 => ?_
      refine AWp.sr [] fun K55 hk56 => ?_
      simp [E51, hget, hc30]
      apply hk56
      refine AWp.blockK fun Q57 nn58 ne59 nx60 nr61 => ?_
      refine AWp.sr [] fun K62 hk63 => ?_
      simp [E51, hget, hc30]
      apply hk63
      refine AWp.condK fun A64 B65 ga66 gb67 => ?_
      rcases ite_some hm52 with ⟨hc68, hm69⟩ | ⟨hc68, hm70⟩
      · clear hm52
        simp [E51, hget, hc30, hc68]
        apply ga66
        obtain ⟨j71, hj72, hm73⟩ := joinB_some hm69
        clear hm69
        refine AWp.seqP (fun fr h => ∃ (v74 : Smk_Deck) (g8_77 : Nat), hset H o [AV.slice .frz (List.map (fun n => AV.sc (Value.int .i64 n)) v74.l), AV.sc (.int .i64 v74.atF)] = h ∧ (fr.env 0 = AV.gptr o 0 ∧ fr.env 8 = AV.lptr 8 g8_77 0 ∧ fr.gen 8 = g8_77 ∧ fr.box 8 = some [AV.sc (.int .i64 0), AV.sc (.int .i64 0), AV.sc (.int .i64 0), AV.slice .full [], AV.slice .full []]) ∧ j71 v74 = some (r0, rd)) (fun K75 hk76 => ?_) ?_
        rotate_left
        · clear hm73
          rintro fr77 h77 ⟨v74, g8_77, rfl, E77, hm78⟩
          subst hj72
          refine AWp.sr [] fun K79 hk80 => ?_
          obtain ⟨x81, d82, hx83, hm84⟩ := bind2_some hm78
          clear hm78
          try dsimp only at hm84
          simp [E77, hget, hc30, hc68]
          refine CallAt.fn (r_mk_Deck_Next T (by first | exact ho | decide) hx83) ?_
          obtain ⟨x85, hx86, hm87⟩ := bind1_some hm84
          clear hm84
          try dsimp only at hm87
          simp [E77, hget, hc30, hc68]
          refine CallAt.fn (r_mk_Num T hx86) ?_
          simp [E77, hget, hc30, hc68]
          apply hk80
          refine AWp.ret ?_
          apply nr61
          simp only [Option.some.injEq, Prod.mk.injEq] at hm87
          obtain ⟨rfl, rfl⟩ := hm87
          simp [retQ, E77, hget, hc30, hc68]
        refine AWp.sr [] fun K88 hk89 => ?_
        simp [E51, hget, hc30, hc68]
        apply hk89
        refine AWp.condK fun A90 B91 ga92 gb93 => ?_
        rcases ite_some hm73 with ⟨hc94, hm95⟩ | ⟨hc94, hm96⟩
        rotate_left
        · clear hm73
          simp [E51, hget, hc30, hc68, hc94]
          apply gb93
          refine AWp.skip ?_
          refine hk76 _ _ ⟨v48, g8_51, ?_, ⟨?_, ?_, ?_, ?_⟩, hm96⟩ <;> first | rfl | simp [E51, hget, hc30, hc68, hc94]
        clear hm73
        simp [E51, hget, hc30, hc68, hc94]
        apply ga92
        refine AWp.sr [] fun K97 hk98 => ?_
        obtain ⟨x99, d100, hx101, hm102⟩ := bind2_some hm95
        clear hm95
        try dsimp only at hm102
        simp [E51, hget, hc30, hc68, hc94]
        refine CallAt.fn (r_mk_Deck_Next T (by first | exact ho | decide) hx101) ?_
        simp [E51, hget, hc30, hc68, hc94]
        apply hk98
        refine AWp.blockK fun Q103 nn104 ne105 nx106 nr107 => ?_
        refine AWp.sr [] fun K108 hk109 => ?_
        simp [E51, hget, hc30, hc68, hc94]
        apply hk109
        refine AWp.condK fun A110 B111 ga112 gb113 => ?_
        rcases ite_some hm102 with ⟨hc114, hm115⟩ | ⟨hc114, hm116⟩
        · clear hm102
          simp [E51, hget, hc30, hc68, hc94, hc114]
          apply ga112
          refine AWp.sr [] fun K117 hk118 => ?_
          obtain ⟨x119, d120, hx121, hm122⟩ := bind2_some hm115
          clear hm115
          try dsimp only at hm122
          simp [E51, hget, hc30, hc68, hc94, hc114]
          refine CallAt.fn (ih (by first | exact ho | decide) hx121) ?_
          obtain ⟨x123, hx124, hm125⟩ := bind1_some hm122
          clear hm122
          try dsimp only at hm125
          simp [E51, hget, hc30, hc68, hc94, hc114]
          refine CallAt.fn (r_ref02_N T hx124) ?_
          simp [E51, hget, hc30, hc68, hc94, hc114]
          apply hk118
          refine AWp.ret ?_
          apply nr107
          apply nr61
          simp only [Option.some.injEq, Prod.mk.injEq] at hm125
          obtain ⟨rfl, rfl⟩ := hm125
          simp [retQ, E51, hget, hc30, hc68, hc94, hc114]
        clear hm102
        simp [E51, hget, hc30, hc68, hc94, hc114]
        apply gb113
        refine AWp.sr [] fun K126 hk127 => ?_
        simp [E51, hget, hc30, hc68, hc94, hc114]
        apply hk127
        refine AWp.condK fun A128 B129 ga130 gb131 => ?_
        rcases ite_some hm116 with ⟨hc132, hm133⟩ | ⟨hc132, hm134⟩
        · clear hm116
          simp [E51, hget, hc30, hc68, hc94, hc114, hc132]
          apply ga130
          refine AWp.seqK fun K135 hk136 => ?_
          refine AWp.regionD [] false mixed (by decide +kernel) (by decide +kernel) ?_
          obtain ⟨x137, hx138, hm139⟩ := bind1_some hm133
          clear hm133
          try dsimp only at hm139
          simp [E51, hget, hc30, hc68, hc94, hc114, hc132]
          refine CallAtD.fn (r_ref05_Plus T hx138) (by simp) ?_
          obtain ⟨x140, d141, hx142, hm143⟩ := bind2_some hm139
          clear hm139
          try dsimp only at hm143
          simp [E51, hget, hc30, hc68, hc94, hc114, hc132]
          refine CallAtD.fn (ih (by first | exact ho | decide) hx142) (by simp) ?_
          obtain ⟨x144, d145, hx146, hm147⟩ := bind2_some hm143
          clear hm143
          try dsimp only at hm147
          simp [E51, hget, hc30, hc68, hc94, hc114, hc132]
          refine CallAtD.fn (ih (by first | exact ho | decide) hx146) (by simp) ?_
          obtain ⟨x148, hx149, hm150⟩ := bind1_some hm147
          clear hm147
          try dsimp only at hm150
          simp [E51, hget, hc30, hc68, hc94, hc114, hc132]
          refine CallAtD.fn (r_mk_App T hx149) (by simp) ?_
          simp [E51, hget, hc30, hc68, hc94, hc114, hc132]
          apply hk136
          refine AWp.ret ?_
          apply nr107
          apply nr61
          simp only [Option.some.injEq, Prod.mk.injEq] at hm150
          obtain ⟨rfl, rfl⟩ := hm150
          simp [retQ, E51, hget, hc30, hc68, hc94, hc114, hc132]
        clear hm116
        simp [E51, hget, hc30, hc68, hc94, hc114, hc132]
        apply gb131
        refine AWp.sr [] fun K151 hk152 => ?_
        simp [E51, hget, hc30, hc68, hc94, hc114, hc132]
        apply hk152
        refine AWp.condK fun A153 B154 ga155 gb156 => ?_
        rcases ite_some hm134 with ⟨hc157, hm158⟩ | ⟨hc157, hm159⟩
        rotate_left
        · clear hm134
          simp [E51, hget, hc30, hc68, hc94, hc114, hc132, hc157]
          apply gb156
          refine AWp.skip ?_
          apply nn104
          refine hk76 _ _ ⟨d100, g8_51, ?_, ⟨?_, ?_, ?_, ?_⟩, hm159⟩ <;> first | rfl | simp [E51, hget, hc30, hc68, hc94, hc114, hc132, hc157]
        clear hm134
        simp [E51, hget, hc30, hc68, hc94, hc114, hc132, hc157]
        apply ga155
        refine AWp.seqK fun K160 hk161 => ?_
        refine AWp.regionD [] false mixed (by decide +kernel) (by decide +kernel) ?_
        obtain ⟨x162, hx163, hm164⟩ := bind1_some hm158
        clear hm158
        try dsimp only at hm164
        simp [E51, hget, hc30, hc68, hc94, hc114, hc132, hc157]
        refine CallAtD.fn (r_ref05_Sub T hx163) (by simp) ?_
        obtain ⟨x165, d166, hx167, hm168⟩ := bind2_some hm164
        clear hm164
        try dsimp only at hm168
        simp [E51, hget, hc30, hc68, hc94, hc114, hc132, hc157]
        refine CallAtD.fn (ih (by first | exact ho | decide) hx167) (by simp) ?_
        obtain ⟨x169, d170, hx171, hm172⟩ := bind2_some hm168
        clear hm168
        try dsimp only at hm172
        simp [E51, hget, hc30, hc68, hc94, hc114, hc132, hc157]
        refine CallAtD.fn (ih (by first | exact ho | decide) hx171) (by simp) ?_
        obtain ⟨x173, hx174, hm175⟩ := bind1_some hm172
        clear hm172
        try dsimp only at hm175
        simp [E51, hget, hc30, hc68, hc94, hc114, hc132, hc157]
        refine CallAtD.fn (r_mk_App T hx174) (by simp) ?_
        simp [E51, hget, hc30, hc68, hc94, hc114, hc132, hc157]
        apply hk161
        refine AWp.ret ?_
        apply nr107
        apply nr61
        simp only [Option.some.injEq, Prod.mk.injEq] at hm175
        obtain ⟨rfl, rfl⟩ := hm175
        simp [retQ, E51, hget, hc30, hc68, hc94, hc114, hc132, hc157]
      clear hm52
      simp [E51, hget, hc30, hc68]
      apply gb67
      refine AWp.sr [] fun K176 hk177 => ?_
      simp [E51, hget, hc30, hc68]
      apply hk177
      refine AWp.condK fun A178 B179 ga180 gb181 => ?_
      rcases ite_some hm70 with ⟨hc182, hm183⟩ | ⟨hc182, hm184⟩
      · clear hm70
        simp [E51, hget, hc30, hc68, hc182]
        apply ga180
        refine AWp.seqK fun K185 hk186 => ?_
        obtain ⟨j187, hj188, hm189⟩ := joinB_some hm183
        clear hm183
        refine AWp.seqP (fun fr h => ∃ (v190 : Bool) (v191 : Smk_Deck) (g6_201 : Nat) (g8_201 : Nat), hset H o [AV.slice .frz (List.map (fun n => AV.sc (Value.int .i64 n)) v191.l), AV.sc (.int .i64 v191.atF)] = h ∧ (fr.env 0 = AV.gptr o 0 ∧ fr.env 1 = AV.slice .frz (List.map Ty.av a1) ∧ fr.env 3 = AV.sc (.int .i64 a3) ∧ fr.env 6 = AV.lptr 6 g6_201 0 ∧ fr.env 8 = AV.lptr 8 g8_201 0 ∧ fr.env 276 = AV.sc (.bool v190) ∧ fr.gen 6 = g6_201 ∧ fr.box 6 = some [AV.sc (.int .i64 a2.kind), AV.slice .frz (List.map Ty.av a2.args)] ∧ fr.gen 8 = g8_201 ∧ fr.box 8 = some [AV.sc (.int .i64 0), AV.sc (.int .i64 0), AV.sc (.int .i64 0), AV.slice .full [], AV.slice .full []]) ∧ j187 v190 v191 = some (r0, rd)) (fun K192 hk193 => ?_) ?_
        · refine AWp.region [] (by decide +kernel) ?_
          rcases ite_some hm189 with ⟨hc194, hm195⟩ | ⟨hc194, hm196⟩
          rotate_left
          · clear hm189
            simp [E51, hget, hc30, hc68, hc182, hc194]
            refine hk193 _ _ ⟨false, v48, g6_51, g8_51, ?_, ⟨?_, ?_, ?_, ?_, ?_, ?_, ?_, ?_, ?_, ?_⟩, hm196⟩ <;> first | rfl | simp [E51, hget, hc30, hc68, hc182, hc194]
          clear hm189
          obtain ⟨x197, d198, hx199, hm200⟩ := bind2_some hm195
          clear hm195
          try dsimp only at hm200
          simp [E51, hget, hc30, hc68, hc182, hc194]
          refine CallAt.fn (r_mk_Deck_Next T (by first | exact ho | decide) hx199) ?_
          simp [E51, hget, hc30, hc68, hc182, hc194]
          refine hk193 _ _ ⟨(ieq x197 0), d198, g6_51, g8_51, ?_, ⟨?_, ?_, ?_, ?_, ?_, ?_, ?_, ?_, ?_, ?_⟩, hm200⟩ <;> first | rfl | simp [E51, hget, hc30, hc68, hc182, hc194]
        clear hm189
        rintro fr201 h201 ⟨v190, v191, g6_201, g8_201, rfl, E201, hm202⟩
        subst hj188
        refine AWp.condK fun A203 B204 ga205 gb206 => ?_
        rcases ite_some hm202 with ⟨hc207, hm208⟩ | ⟨hc207, hm209⟩
        rotate_left
        · clear hm202
          simp [E201, hget, hc30, hc68, hc182, hc207]
          apply gb206
          refine AWp.skip ?_
          apply hk186
          refine AWp.sr [] fun K210 hk211 => ?_
          obtain ⟨x212, hx213, hm214⟩ := bind1_some hm209
          clear hm209
          try dsimp only at hm214
          simp [E201, hget, hc30, hc68, hc182, hc207]
          refine CallAt.fn (r_ref02_N T hx213) ?_
          simp [E201, hget, hc30, hc68, hc182, hc207]
          apply hk211
          refine AWp.ret ?_
          apply nr61
          simp only [Option.some.injEq, Prod.mk.injEq] at hm214
          obtain ⟨rfl, rfl⟩ := hm214
          simp [retQ, E201, hget, hc30, hc68, hc182, hc207]
        clear hm202
        simp [E201, hget, hc30, hc68, hc182, hc207]
        apply ga205
        refine AWp.seqK fun K215 hk216 => ?_
        refine AWp.regionD [] false mixed (by decide +kernel) (by decide +kernel) ?_
        obtain ⟨x217, hx218, hm219⟩ := bind1_some hm208
        clear hm208
        try dsimp only at hm219
        simp [E201, hget, hc30, hc68, hc182, hc207]
        refine CallAtD.fn (r_ref01_Nat T hx218) (by simp) ?_
        obtain ⟨x220, d221, hx222, hm223⟩ := bind2_some hm219
        clear hm219
        try dsimp only at hm223
        simp [E201, hget, hc30, hc68, hc182, hc207]
        refine CallAtD.fn (ih (by first | exact ho | decide) hx222) (by simp) ?_
        obtain ⟨x224, d225, hx226, hm227⟩ := bind2_some hm223
        clear hm223
        try dsimp only at hm227
        simp [E201, hget, hc30, hc68, hc182, hc207]
        refine CallAtD.fn (ih (by first | exact ho | decide) hx226) (by simp) ?_
        obtain ⟨x228, hx229, hm230⟩ := bind1_some hm227
        clear hm227
        try dsimp only at hm230
        simp [E201, hget, hc30, hc68, hc182, hc207]
        refine CallAtD.fn (r_ref02_N T hx229) (by simp) ?_
        simp [E201, hget, hc30, hc68, hc182, hc207]
        apply hk216
        refine AWp.ret ?_
        apply nr61
        simp only [Option.some.injEq, Prod.mk.injEq] at hm230
        obtain ⟨rfl, rfl⟩ := hm230
        simp [retQ, E201, hget, hc30, hc68, hc182, hc207]
      clear hm70
      simp [E51, hget, hc30, hc68, hc182]
      apply gb181
      refine AWp.sr [] fun K231 hk232 => ?_
      simp [E51, hget, hc30, hc68, hc182]
      apply hk232
      refine AWp.condK fun A233 B234 ga235 gb236 => ?_
      rcases ite_some hm184 with ⟨hc237, hm238⟩ | ⟨hc237, hm239⟩
      · clear hm184
        simp [E51, hget, hc30, hc68, hc182, hc237]
        apply ga235
        refine AWp.seqK fun K240 hk241 => ?_
        refine AWp.regionD [] false mixed (by decide +kernel) (by decide +kernel) ?_
        obtain ⟨x242, hx243, hm244⟩ := bind1_some hm238
        clear hm238
        try dsimp only at hm244
        obtain ⟨x245, d246, hx247, hm248⟩ := bind2_some hm244
        clear hm244
        try dsimp only at hm248
        simp [E51, hget, hx243, hc30, hc68, hc182, hc237]
        refine CallAtD.fn (ih (by first | exact ho | decide) hx247) (by simp) ?_
        obtain ⟨x249, hx250, hm251⟩ := bind1_some hm248
        clear hm248
        try dsimp only at hm251
        obtain ⟨x252, d253, hx254, hm255⟩ := bind2_some hm251
        clear hm251
        try dsimp only at hm255
        simp [E51, hget, hx243, hx250, hc30, hc68, hc182, hc237]
        refine CallAtD.fn (ih (by first | exact ho | decide) hx254) (by simp) ?_
        obtain ⟨x256, hx257, hm258⟩ := bind1_some hm255
        clear hm255
        try dsimp only at hm258
        simp [E51, hget, hx243, hx250, hc30, hc68, hc182, hc237]
        refine CallAtD.fn (r_ref02_N T hx257) (by simp) ?_
        simp [E51, hget, hx243, hx250, hc30, hc68, hc182, hc237]
        apply hk241
        refine AWp.ret ?_
        apply nr61
        simp only [Option.some.injEq, Prod.mk.injEq] at hm258
        obtain ⟨rfl, rfl⟩ := hm258
        simp [retQ, E51, hget, hx243, hx250, hc30, hc68, hc182, hc237]
      clear hm184
      simp [E51, hget, hc30, hc68, hc182, hc237]
      apply gb236
      refine AWp.sr [] fun K259 hk260 => ?_
      simp [E51, hget, hc30, hc68, hc182, hc237]
      apply hk260
      refine AWp.condK fun A261 B262 ga263 gb264 => ?_
      rcases ite_some hm239 with ⟨hc265, hm266⟩ | ⟨hc265, hm267⟩
      rotate_left
      · clear hm239
        simp [E51, hget, hc30, hc68, hc182, hc237, hc265]
        apply gb264
        refine AWp.skip ?_
        apply nn58
        apply hk54
        refine AWp.sr [] fun K268 hk269 => ?_
        obtain ⟨x270, hx271, hm272⟩ := bind1_some hm267
        clear hm267
        try dsimp only at hm272
        simp [E51, hget, hc30, hc68, hc182, hc237, hc265]
        refine CallAt.fn (r_ref02_N T hx271) ?_
        simp [E51, hget, hc30, hc68, hc182, hc237, hc265]
        apply hk269
        refine AWp.ret ?_
        simp only [Option.some.injEq, Prod.mk.injEq] at hm272
        obtain ⟨rfl, rfl⟩ := hm272
        simp [retQ, E51, hget, hc30, hc68, hc182, hc237, hc265]
      clear hm239
      simp [E51, hget, hc30, hc68, hc182, hc237, hc265]
      apply ga263
      refine AWp.seqK fun K273 hk274 => ?_
      refine AWp.regionD [] false mixed (by decide +kernel) (by decide +kernel) ?_
      obtain ⟨x275, hx276, hm277⟩ := bind1_some hm266
      clear hm266
      try dsimp only at hm277
      obtain ⟨x278, hx279, hm280⟩ := bind1_some hm277
      clear hm277
      try dsimp only at hm280
      simp [E51, hget, hx276, hc30, hc68, hc182, hc237, hc265]
      refine CallAtD.fn (r_mk_longer T hx279) (by simp) ?_
      obtain ⟨x281, hx282, hm283⟩ := bind1_some hm280
      clear hm280
      try dsimp only at hm283
      obtain ⟨x284, d285, hx286, hm287⟩ := bind2_some hm283
      clear hm283
      try dsimp only at hm287
      simp [E51, hget, hx276, hx282, hc30, hc68, hc182, hc237, hc265]
      refine CallAtD.fn (ih (by first | exact ho | decide) hx286) (by simp) ?_
      obtain ⟨x288, hx289, hm290⟩ := bind1_some hm287
      clear hm287
      try dsimp only at hm290
      simp [E51, hget, hx276, hx282, hc30, hc68, hc182, hc237, hc265]
      refine CallAtD.fn (r_ref02_T T hx289) (by simp) ?_
      simp [E51, hget, hx276, hx282, hc30, hc68, hc182, hc237, hc265]
      apply hk274
      refine AWp.ret ?_
      apply nr61
      simp only [Option.some.injEq, Prod.mk.injEq] at hm290
      obtain ⟨rfl, rfl⟩ := hm290
      simp [retQ, E51, hget, hx276, hx282, hc30, hc68, hc182, hc237, hc265]
    refine AWp.sr [] fun K291 hk292 => ?_
    simp [E24, hget, hc30]
    apply hk292
    refine AWp.condK fun A293 B294 ga295 gb296 => ?_
    rcases ite_some hm47 with ⟨hc297, hm298⟩ | ⟨hc297, hm299⟩
    rotate_left
    · clear hm47
      simp [E24, hget, hc30, hc297]
      apply gb296
      refine AWp.skip ?_
      refine hk50 _ _ ⟨v14, g6_24, g8_24, ?_, ⟨?_, ?_, ?_, ?_, ?_, ?_, ?_, ?_, ?_⟩, hm299⟩ <;> first | rfl | simp [E24, hget, hc30, hc297]
    clear hm47
    simp [E24, hget, hc30, hc297]
    apply ga295
    refine AWp.sr [] fun K300 hk301 => ?_
    obtain ⟨x302, d303, hx304, hm305⟩ := bind2_some hm298
    clear hm298
    try dsimp only at hm305
    simp [E24, hget, hc30, hc297]
    refine CallAt.fn (r_mk_Deck_Next T (by first | exact ho | decide) hx304) ?_
    simp [E24, hget, hc30, hc297]
    apply hk301
    refine AWp.blockK fun Q306 nn307 ne308 nx309 nr310 => ?_
    refine AWp.sr [] fun K311 hk312 => ?_
    simp [E24, hget, hc30, hc297]
    apply hk312
    refine AWp.condK fun A313 B314 ga315 gb316 => ?_
    rcases ite_some hm305 with ⟨hc317, hm318⟩ | ⟨hc317, hm319⟩
    · clear hm305
      simp [E24, hget, hc30, hc297, hc317]
      apply ga315
      refine AWp.sr [] fun K320 hk321 => ?_
      obtain ⟨x322, d323, hx324, hm325⟩ := bind2_some hm318
      clear hm318
      try dsimp only at hm325
      simp [E24, hget, hc30, hc297, hc317]
      refine CallAt.fn (r_mk_Type T (by first | exact ho | decide) hx324) ?_
      simp [E24, hget, hc30, hc297, hc317]
      apply hk321
      refine AWp.seqK fun K326 hk327 => ?_
      refine AWp.regionD [] false mixed (by decide +kernel) (by decide +kernel) ?_
      obtain ⟨x328, hx329, hm330⟩ := bind1_some hm325
      clear hm325
      try dsimp only at hm330
      simp [E24, hget, hc30, hc297, hc317]
      refine CallAtD.fn (r_mk_longer T hx329) (by simp) ?_
      obtain ⟨x331, d332, hx333, hm334⟩ := bind2_some hm330
      clear hm330
      try dsimp only at hm334
      simp [E24, hget, hc30, hc297, hc317]
      refine CallAtD.fn (ih (by first | exact ho | decide) hx333) (by simp) ?_
      obtain ⟨x335, hx336, hm337⟩ := bind1_some hm334
      clear hm334
      try dsimp only at hm337
      simp [E24, hget, hc30, hc297, hc317]
      refine CallAtD.fn (r_ref02_T T hx336) (by simp) ?_
      obtain ⟨x338, d339, hx340, hm341⟩ := bind2_some hm337
      clear hm337
      try dsimp only at hm341
      simp [E24, hget, hc30, hc297, hc317]
      refine CallAtD.fn (ih (by first | exact ho | decide) hx340) (by simp) ?_
      obtain ⟨x342, hx343, hm344⟩ := bind1_some hm341
      clear hm341
      try dsimp only at hm344
      simp [E24, hget, hc30, hc297, hc317]
      refine CallAtD.fn (r_ref02_N T hx343) (by simp) ?_
      simp [E24, hget, hc30, hc297, hc317]
      apply hk327
      refine AWp.ret ?_
      apply nr310
      simp only [Option.some.injEq, Prod.mk.injEq] at hm344
      obtain ⟨rfl, rfl⟩ := hm344
      simp [retQ, E24, hget, hc30, hc297, hc317]
    clear hm305
    simp [E24, hget, hc30, hc297, hc317]
    apply gb316
    refine AWp.sr [] fun K345 hk346 => ?_
    simp [E24, hget, hc30, hc297, hc317]
    apply hk346
    refine AWp.condK fun A347 B348 ga349 gb350 => ?_
    rcases ite_some hm319 with ⟨hc351, hm352⟩ | ⟨hc351, hm353⟩
    · clear hm319
      simp [E24, hget, hc30, hc297, hc317, hc351]
      apply ga349
      refine AWp.sr [] fun K354 hk355 => ?_
      obtain ⟨x356, d357, hx358, hm359⟩ := bind2_some hm352
      clear hm352
      try dsimp only at hm359
      simp [E24, hget, hc30, hc297, hc317, hc351]
      refine CallAt.fn (r_mk_Type T (by first | exact ho | decide) hx358) ?_
      simp [E24, hget, hc30, hc297, hc317, hc351]
      apply hk355
      refine AWp.seqK fun K360 hk361 => ?_
      refine AWp.regionD [] false mixed (by decide +kernel) (by decide +kernel) ?_
      obtain ⟨x362, d363, hx364, hm365⟩ := bind2_some hm359
      clear hm359
      try dsimp only at hm365
      simp [E24, hget, hc30, hc297, hc317, hc351]
      refine CallAtD.fn (ih (by first | exact ho | decide) hx364) (by simp) ?_
      obtain ⟨x366, d367, hx368, hm369⟩ := bind2_some hm365
      clear hm365
      try dsimp only at hm369
      simp [E24, hget, hc30, hc297, hc317, hc351]
      refine CallAtD.fn (ih (by first | exact ho | decide) hx368) (by simp) ?_
      obtain ⟨x370, hx371, hm372⟩ := bind1_some hm369
      clear hm369
      try dsimp only at hm372
      simp [E24, hget, hc30, hc297, hc317, hc351]
      refine CallAtD.fn (r_ref02_N T hx371) (by simp) ?_
      obtain ⟨x373, hx374, hm375⟩ := bind1_some hm372
      clear hm372
      try dsimp only at hm375
      simp [E24, hget, hc30, hc297, hc317, hc351]
      refine CallAtD.fn (r_ref02_N T hx374) (by simp) ?_
      simp [E24, hget, hc30, hc297, hc317, hc351]
      apply hk361
      refine AWp.ret ?_
      apply nr310
      simp only [Option.some.injEq, Prod.mk.injEq] at hm375
      obtain ⟨rfl, rfl⟩ := hm375
      simp [retQ, E24, hget, hc30, hc297, hc317, hc351]
    clear hm319
    simp [E24, hget, hc30, hc297, hc317, hc351]
    apply gb350
    refine AWp.sr [] fun K376 hk377 => ?_
    simp [E24, hget, hc30, hc297, hc317, hc351]
    apply hk377
    refine AWp.condK fun A378 B379 ga380 gb381 => ?_
    rcases ite_some hm353 with ⟨hc382, hm383⟩ | ⟨hc382, hm384⟩
    · clear hm353
      simp [E24, hget, hc30, hc297, hc317, hc351, hc382]
      apply ga380
      refine AWp.seqK fun K385 hk386 => ?_
      refine AWp.regionD [] false mixed (by decide +kernel) (by decide +kernel) ?_
      obtain ⟨x387, hx388, hm389⟩ := bind1_some hm383
      clear hm383
      try dsimp only at hm389
      simp [E24, hget, hc30, hc297, hc317, hc351, hc382]
      refine CallAtD.fn (r_ref01_Nat T hx388) (by simp) ?_
      obtain ⟨x390, hx391, hm392⟩ := bind1_some hm389
      clear hm389
      try dsimp only at hm392
      simp [E24, hget, hc30, hc297, hc317, hc351, hc382]
      refine CallAtD.fn (r_ref01_Nat T hx391) (by simp) ?_
      obtain ⟨x393, hx394, hm395⟩ := bind1_some hm392
      clear hm392
      try dsimp only at hm395
      simp [E24, hget, hc30, hc297, hc317, hc351, hc382]
      refine CallAtD.fn (r_mk_longer T hx394) (by simp) ?_
      obtain ⟨x396, d397, hx398, hm399⟩ := bind2_some hm395
      clear hm395
      try dsimp only at hm399
      simp [E24, hget, hc30, hc297, hc317, hc351, hc382]
      refine CallAtD.fn (ih (by first | exact ho | decide) hx398) (by simp) ?_
      obtain ⟨x400, hx401, hm402⟩ := bind1_some hm399
      clear hm399
      try dsimp only at hm402
      simp [E24, hget, hc30, hc297, hc317, hc351, hc382]
      refine CallAtD.fn (r_ref02_T T hx401) (by simp) ?_
      obtain ⟨x403, hx404, hm405⟩ := bind1_some hm402
      clear hm402
      try dsimp only at hm405
      simp [E24, hget, hc30, hc297, hc317, hc351, hc382]
      refine CallAtD.fn (r_ref02_T T hx404) (by simp) ?_
      simp [E24, hget, hc30, hc297, hc317, hc351, hc382]
      apply hk386
      refine AWp.seqK fun K406 hk407 => ?_
      refine AWp.regionD [] false mixed (by decide +kernel) (by decide +kernel) ?_
      obtain ⟨x408, d409, hx410, hm411⟩ := bind2_some hm405
      clear hm405
      try dsimp only at hm411
      simp [E24, hget, hc30, hc297, hc317, hc351, hc382]
      refine CallAtD.fn (ih (by first | exact ho | decide) hx410) (by simp) ?_
      obtain ⟨x412, d413, hx414, hm415⟩ := bind2_some hm411
      clear hm411
      try dsimp only at hm415
      simp [E24, hget, hc30, hc297, hc317, hc351, hc382]
      refine CallAtD.fn (r_mk_Deck_Next T (by first | exact ho | decide) hx414) (by simp) ?_
      obtain ⟨x416, hx417, hm418⟩ := bind1_some hm415
      clear hm415
      try dsimp only at hm418
      simp [E24, hget, hc30, hc297, hc317, hc351, hc382]
      refine CallAtD.fn (r_mk_Num T hx417) (by simp) ?_
      obtain ⟨x419, hx420, hm421⟩ := bind1_some hm418
      clear hm418
      try dsimp only at hm421
      simp [E24, hget, hc30, hc297, hc317, hc351, hc382]
      refine CallAtD.fn (r_ref02_T T hx420) (by simp) ?_
      simp [E24, hget, hc30, hc297, hc317, hc351, hc382]
      apply hk407
      refine AWp.ret ?_
      apply nr310
      simp only [Option.some.injEq, Prod.mk.injEq] at hm421
      obtain ⟨rfl, rfl⟩ := hm421
      simp [retQ, E24, hget, hc30, hc297, hc317, hc351, hc382]
    clear hm353
    simp [E24, hget, hc30, hc297, hc317, hc351, hc382]
    apply gb381
    refine AWp.sr [] fun K422 hk423 => ?_
    simp [E24, hget, hc30, hc297, hc317, hc351, hc382]
    apply hk423
    refine AWp.condK fun A424 B425 ga426 gb427 => ?_
    rcases ite_some hm384 with ⟨hc428, hm429⟩ | ⟨hc428, hm430⟩
    · clear hm384
      simp [E24, hget, hc30, hc297, hc317, hc351, hc382, hc428]
      apply ga426
      refine AWp.seqK fun K431 hk432 => ?_
      refine AWp.regionD [] false mixed (by decide +kernel) (by decide +kernel) ?_
      obtain ⟨x433, hx434, hm435⟩ := bind1_some hm429
      clear hm429
      try dsimp only at hm435
      simp [E24, hget, hc30, hc297, hc317, hc351, hc382, hc428]
      refine CallAtD.fn (r_ref01_Nat T hx434) (by simp) ?_
      obtain ⟨x436, hx437, hm438⟩ := bind1_some hm435
      clear hm435
      try dsimp only at hm438
      simp [E24, hget, hc30, hc297, hc317, hc351, hc382, hc428]
      refine CallAtD.fn (r_ref01_List T hx437) (by simp) ?_
      obtain ⟨x439, hx440, hm441⟩ := bind1_some hm438
      clear hm438
      try dsimp only at hm441
      simp [E24, hget, hc30, hc297, hc317, hc351, hc382, hc428]
      refine CallAtD.fn (r_ref01_Nat T hx440) (by simp) ?_
      obtain ⟨x442, hx443, hm444⟩ := bind1_some hm441
      clear hm441
      try dsimp only at hm444
      simp [E24, hget, hc30, hc297, hc317, hc351, hc382, hc428]
      refine CallAtD.fn (r_ref01_List T hx443) (by simp) ?_
      obtain ⟨x445, hx446, hm447⟩ := bind1_some hm444
      clear hm444
      try dsimp only at hm447
      simp [E24, hget, hc30, hc297, hc317, hc351, hc382, hc428]
      refine CallAtD.fn (r_mk_longer T hx446) (by simp) ?_
      obtain ⟨x448, d449, hx450, hm451⟩ := bind2_some hm447
      clear hm447
      try dsimp only at hm451
      simp [E24, hget, hc30, hc297, hc317, hc351, hc382, hc428]
      refine CallAtD.fn (ih (by first | exact ho | decide) hx450) (by simp) ?_
      obtain ⟨x452, hx453, hm454⟩ := bind1_some hm451
      clear hm451
      try dsimp only at hm454
      simp [E24, hget, hc30, hc297, hc317, hc351, hc382, hc428]
      refine CallAtD.fn (r_ref02_T T hx453) (by simp) ?_
      obtain ⟨x455, hx456, hm457⟩ := bind1_some hm454
      clear hm454
      try dsimp only at hm457
      simp [E24, hget, hc30, hc297, hc317, hc351, hc382, hc428]
      refine CallAtD.fn (r_ref02_T T hx456) (by simp) ?_
      obtain ⟨x458, hx459, hm460⟩ := bind1_some hm457
      clear hm457
      try dsimp only at hm460
      simp [E24, hget, hc30, hc297, hc317, hc351, hc382, hc428]
      refine CallAtD.fn (r_ref02_T T hx459) (by simp) ?_
      simp [E24, hget, hc30, hc297, hc317, hc351, hc382, hc428]
      apply hk432
      refine AWp.seqK fun K461 hk462 => ?_
      refine AWp.regionD [] false mixed (by decide +kernel) (by decide +kernel) ?_
      obtain ⟨x463, d464, hx465, hm466⟩ := bind2_some hm460
      clear hm460
      try dsimp only at hm466
      simp [E24, hget, hc30, hc297, hc317, hc351, hc382, hc428]
      refine CallAtD.fn (ih (by first | exact ho | decide) hx465) (by simp) ?_
      obtain ⟨x467, hx468, hm469⟩ := bind1_some hm466
      clear hm466
      try dsimp only at hm469
      simp [E24, hget, hc30, hc297, hc317, hc351, hc382, hc428]
      refine CallAtD.fn (r_ref01_List T hx468) (by simp) ?_
      obtain ⟨x470, d471, hx472, hm473⟩ := bind2_some hm469
      clear hm469
      try dsimp only at hm473
      simp [E24, hget, hc30, hc297, hc317, hc351, hc382, hc428]
      refine CallAtD.fn (ih (by first | exact ho | decide) hx472) (by simp) ?_
      obtain ⟨x474, hx475, hm476⟩ := bind1_some hm473
      clear hm473
      try dsimp only at hm476
      simp [E24, hget, hc30, hc297, hc317, hc351, hc382, hc428]
      refine CallAtD.fn (r_ref02_T T hx475) (by simp) ?_
      simp [E24, hget, hc30, hc297, hc317, hc351, hc382, hc428]
      apply hk462
      refine AWp.ret ?_
      apply nr310
      simp only [Option.some.injEq, Prod.mk.injEq] at hm476
      obtain ⟨rfl, rfl⟩ := hm476
      simp [retQ, E24, hget, hc30, hc297, hc317, hc351, hc382, hc428]
    clear hm384
    simp [E24, hget, hc30, hc297, hc317, hc351, hc382, hc428]
    apply gb427
    refine AWp.sr [] fun K477 hk478 => ?_
    simp [E24, hget, hc30, hc297, hc317, hc351, hc382, hc428]
    apply hk478
    refine AWp.condK fun A479 B480 ga481 gb482 => ?_
    rcases ite_some hm430 with ⟨hc483, hm484⟩ | ⟨hc483, hm485⟩
    · clear hm430
      simp [E24, hget, hc30, hc297, hc317, hc351, hc382, hc428, hc483]
      apply ga481
      refine AWp.sr [] fun K486 hk487 => ?_
      obtain ⟨x488, d489, hx490, hm491⟩ := bind2_some hm484
      clear hm484
      try dsimp only at hm491
      simp [E24, hget, hc30, hc297, hc317, hc351, hc382, hc428, hc483]
      refine CallAt.fn (r_mk_Type T (by first | exact ho | decide) hx490) ?_
      simp [E24, hget, hc30, hc297, hc317, hc351, hc382, hc428, hc483]
      apply hk487
      refine AWp.seqK fun K492 hk493 => ?_
      refine AWp.regionD [] false mixed (by decide +kernel) (by decide +kernel) ?_
      obtain ⟨x494, d495, hx496, hm497⟩ := bind2_some hm491
      clear hm491
      try dsimp only at hm497
      simp [E24, hget, hc30, hc297, hc317, hc351, hc382, hc428, hc483]
      refine CallAtD.fn (ih (by first | exact ho | decide) hx496) (by simp) ?_
      obtain ⟨x498, d499, hx500, hm501⟩ := bind2_some hm497
      clear hm497
      try dsimp only at hm501
      simp [E24, hget, hc30, hc297, hc317, hc351, hc382, hc428, hc483]
      refine CallAtD.fn (ih (by first | exact ho | decide) hx500) (by simp) ?_
      obtain ⟨x502, hx503, hm504⟩ := bind1_some hm501
      clear hm501
      try dsimp only at hm504
      simp [E24, hget, hc30, hc297, hc317, hc351, hc382, hc428, hc483]
      refine CallAtD.fn (r_ref02_N T hx503) (by simp) ?_
      obtain ⟨x505, hx506, hm507⟩ := bind1_some hm504
      clear hm504
      try dsimp only at hm507
      simp [E24, hget, hc30, hc297, hc317, hc351, hc382, hc428, hc483]
      refine CallAtD.fn (r_ref02_N T hx506) (by simp) ?_
      simp [E24, hget, hc30, hc297, hc317, hc351, hc382, hc428, hc483]
      apply hk493
      refine AWp.ret ?_
      apply nr310
      simp only [Option.some.injEq, Prod.mk.injEq] at hm507
      obtain ⟨rfl, rfl⟩ := hm507
      simp [retQ, E24, hget, hc30, hc297, hc317, hc351, hc382, hc428, hc483]
    clear hm430
    simp [E24, hget, hc30, hc297, hc317, hc351, hc382, hc428, hc483]
    apply gb482
    refine AWp.sr [] fun K508 hk509 => ?_
    simp [E24, hget, hc30, hc297, hc317, hc351, hc382, hc428, hc483]
    apply hk509
    refine AWp.condK fun A510 B511 ga512 gb513 => ?_
    rcases ite_some hm485 with ⟨hc514, hm515⟩ | ⟨hc514, hm516⟩
    rotate_left
    · clear hm485
      simp [E24, hget, hc30, hc297, hc317, hc351, hc382, hc428, hc483, hc514]
      apply gb513
      refine AWp.skip ?_
      apply nn307
      refine hk50 _ _ ⟨d303, g6_24, g8_24, ?_, ⟨?_, ?_, ?_, ?_, ?_, ?_, ?_, ?_, ?_⟩, hm516⟩ <;> first | rfl | simp [E24, hget, hc30, hc297, hc317, hc351, hc382, hc428, hc483, hc514]
    clear hm485
    simp [E24, hget, hc30, hc297, hc317, hc351, hc382, hc428, hc483, hc514]
    apply ga512
    refine AWp.sr [] fun K517 hk518 => ?_
    simp [E24, hget, hc30, hc297, hc317, hc351, hc382, hc428, hc483, hc514]
    apply hk518
    obtain ⟨hok519, hm520⟩ := chk_some hm515
    clear hm515
    obtain ⟨F521, hF522, hm523⟩ := joinB_some hm520
    clear hm520
    try dsimp only at hm523
    obtain ⟨out524, hl525, hmB526⟩ := bind1_some hm523
    clear hm523
    refine AWp.blockK fun Q527 nn528 ne529 nx530 nr531 => ?_
    refine AWp.loopF (fun n532 fr h => ∃ (i533 : Nat) (j534 : Int) (g6_535 : Nat) (g8_535 : Nat), hset H o [AV.slice .frz (List.map (fun n => AV.sc (Value.int .i64 n)) d303.l), AV.sc (.int .i64 d303.atF)] = h ∧ (fr.env 0 = AV.gptr o 0 ∧ fr.env 1 = AV.slice .frz (List.map Ty.av a1) ∧ fr.env 3 = AV.sc (.int .i64 a3) ∧ fr.env 6 = AV.lptr 6 g6_535 0 ∧ fr.env 8 = AV.lptr 8 g8_535 0 ∧ fr.env 176 = AV.sc (.int .i64 (llen a1)) ∧ fr.env 177 = AV.sc (.int .i64 j534) ∧ fr.gen 6 = g6_535 ∧ fr.box 6 = some [AV.sc (.int .i64 a2.kind), AV.slice .frz (List.map Ty.av a2.args)] ∧ fr.gen 8 = g8_535 ∧ fr.box 8 = some [AV.sc (.int .i64 0), AV.sc (.int .i64 0), AV.sc (.int .i64 0), AV.slice .full [], AV.slice .full []]) ∧ j534 = (i533 : Int) ∧ i533 + n532 = List.length a1 ∧ forR F521 (List.drop i533 a1) i533 () = some out524) (List.length a1) ?_ ?_
    · refine ⟨0, 0, g6_24, g8_24, ?_, ⟨?_, ?_, ?_, ?_, ?_, ?_, ?_, ?_, ?_, ?_, ?_⟩, rfl, (by simp), hl525⟩ <;> first | rfl | simp [E24, hget, hc30, hc297, hc317, hc351, hc382, hc428, hc483, hc514]
    rintro n532 fr535 h535 ⟨i533, j534, g6_535, g8_535, rfl, E535, hj536, hi537, hl525⟩ K538 hK539
    rcases n532 with _ | n532
    · have hlt540 := ilt_notJ (l := a1) hj536 (by omega)
      refine AWp.sr [] fun K541 hk542 => ?_
      simp [E535, hget, hlt540, hc30, hc297, hc317, hc351, hc382, hc428, hc483, hc514]
      apply hk542
      refine AWp.seqK fun K543 hk544 => ?_
      refine AWp.condK fun A545 B546 ga547 gb548 => ?_
      simp [E535, hget, hlt540, hc30, hc297, hc317, hc351, hc382, hc428, hc483, hc514]
      apply gb548
      refine AWp.exit ?_
      apply ne529
      rw [List.drop_eq_nil_of_le (by omega), forR_nil] at hl525
      obtain rfl := Option.some.inj hl525
      rw [sumK_inl] at hmB526
      try dsimp only at hmB526
      apply nn307
      refine hk50 _ _ ⟨d303, g6_535, g8_535, ?_, ⟨?_, ?_, ?_, ?_, ?_, ?_, ?_, ?_, ?_⟩, hmB526⟩ <;> first | rfl | simp [E535, hget, hlt540, hc30, hc297, hc317, hc351, hc382, hc428, hc483, hc514]
    have hlt540 := ilt_ofJ (l := a1) hj536 (by omega)
    obtain ⟨x549, hdn532, hg550⟩ := drop_ltJ (l := a1) hj536 (by omega)
    rw [hdn532, forR_cons] at hl525
    obtain ⟨c551, hb552, hk553⟩ := bind1_some hl525
    clear hl525
    rw [hF522, ← hj536] at hb552
    try dsimp only at hb552
    refine AWp.sr [] fun K554 hk555 => ?_
    simp [E535, hget, hlt540, hg550, hc30, hc297, hc317, hc351, hc382, hc428, hc483, hc514]
    apply hk555
    refine AWp.seqK fun K556 hk557 => ?_
    refine AWp.condK fun A558 B559 ga560 gb561 => ?_
    simp [E535, hget, hlt540, hg550, hc30, hc297, hc317, hc351, hc382, hc428, hc483, hc514]
    apply ga560
    refine AWp.skip ?_
    apply hk557
    refine AWp.seqK fun K562 hk563 => ?_
    refine AWp.blockK fun Q564 nn565 ne566 nx567 nr568 => ?_
    refine AWp.sr [] fun K569 hk570 => ?_
    simp [E535, hget, hlt540, hg550, hc30, hc297, hc317, hc351, hc382, hc428, hc483, hc514]
    apply hk570
    refine AWp.sr [] fun K571 hk572 => ?_
    obtain ⟨x573, hx574, hm575⟩ := bind1_some hb552
    clear hb552
    try dsimp only at hm575
    simp [E535, hget, hlt540, hg550, hx574, hc30, hc297, hc317, hc351, hc382, hc428, hc483, hc514]
    apply hk572
    obtain ⟨j576, hj577, hm578⟩ := joinB_some hm575
    clear hm575
    refine AWp.seqP (fun fr h => ∃ (v579 : Bool) (g6_591 : Nat) (g8_591 : Nat) (g16_591 : Nat), hset H o [AV.slice .frz (List.map (fun n => AV.sc (Value.int .i64 n)) d303.l), AV.sc (.int .i64 d303.atF)] = h ∧ (fr.env 0 = AV.gptr o 0 ∧ fr.env 1 = AV.slice .frz (List.map Ty.av a1) ∧ fr.env 3 = AV.sc (.int .i64 a3) ∧ fr.env 6 = AV.lptr 6 g6_591 0 ∧ fr.env 8 = AV.lptr 8 g8_591 0 ∧ fr.env 15 = AV.sc (.int .i64 j534) ∧ fr.env 16 = AV.lptr 16 g16_591 0 ∧ fr.env 176 = AV.sc (.int .i64 (llen a1)) ∧ fr.env 177 = AV.sc (.int .i64 j534) ∧ fr.env 198 = AV.sc (.bool v579) ∧ fr.gen 6 = g6_591 ∧ fr.box 6 = some [AV.sc (.int .i64 a2.kind), AV.slice .frz (List.map Ty.av a2.args)] ∧ fr.gen 8 = g8_591 ∧ fr.box 8 = some [AV.sc (.int .i64 0), AV.sc (.int .i64 0), AV.sc (.int .i64 0), AV.slice .full [], AV.slice .full []] ∧ fr.gen 16 = g16_591 ∧ fr.box 16 = some [AV.sc (.int .i64 x573.kind), AV.slice .frz (List.map Ty.av x573.args)]) ∧ j576 v579 = some c551) (fun K580 hk581 => ?_) ?_
    · refine AWp.regionD [] false mixed (by decide +kernel) (by decide +kernel) ?_
      rcases ite_some hm578 with ⟨hc582, hm583⟩ | ⟨hc582, hm584⟩
      rotate_left
      · clear hm578
        simp [E535, hget, hlt540, hg550, hx574, hc30, hc297, hc317, hc351, hc382, hc428, hc483, hc514, hc582]
        refine hk581 _ _ ⟨false, g6_535, g8_535, (fr535.gen 16 + 1), ?_, ⟨?_, ?_, ?_, ?_, ?_, ?_, ?_, ?_, ?_, ?_, ?_, ?_, ?_, ?_, ?_, ?_⟩, hm584⟩ <;> first | rfl | simp [E535, hget, hlt540, hg550, hx574, hc30, hc297, hc317, hc351, hc382, hc428, hc483, hc514, hc582]
      clear hm578
      obtain ⟨x585, hx586, hm587⟩ := bind1_some hm583
      clear hm583
      try dsimp only at hm587
      obtain ⟨x588, hx589, hm590⟩ := bind1_some hm587
      clear hm587
      try dsimp only at hm590
      simp [E535, hget, hlt540, hg550, hx574, hx586, hc30, hc297, hc317, hc351, hc382, hc428, hc483, hc514, hc582]
      refine CallAtD.fn (r_ref01_Same T hx589) (by simp) ?_
      simp [E535, hget, hlt540, hg550, hx574, hx586, hc30, hc297, hc317, hc351, hc382, hc428, hc483, hc514, hc582]
      refine hk581 _ _ ⟨x588, g6_535, g8_535, (fr535.gen 16 + 1), ?_, ⟨?_, ?_, ?_, ?_, ?_, ?_, ?_, ?_, ?_, ?_, ?_, ?_, ?_, ?_, ?_, ?_⟩, hm590⟩ <;> first | rfl | simp [E535, hget, hlt540, hg550, hx574, hx586, hc30, hc297, hc317, hc351, hc382, hc428, hc483, hc514, hc582]
    clear hm578
    rintro fr591 h591 ⟨v579, g6_591, g8_591, g16_591, rfl, E591, hm592⟩
    subst hj577
    refine AWp.condK fun A593 B594 ga595 gb596 => ?_
    rcases ite_some hm592 with ⟨hc597, hm598⟩ | ⟨hc597, hm599⟩
    rotate_left
    · clear hm592
      simp [E591, hget, hlt540, hg550, hx574, hc30, hc297, hc317, hc351, hc382, hc428, hc483, hc514, hc597]
      apply gb596
      refine AWp.skip ?_
      apply nn565
      apply hk563
      refine AWp.region [] (by decide +kernel) ?_
      simp [E591, hget, hlt540, hg550, hx574, hc30, hc297, hc317, hc351, hc382, hc428, hc483, hc514, hc597]
      obtain rfl := Option.some.inj hm599
      rw [ctlK_next] at hk553
      refine hK539 _ _ n532 (Nat.lt_succ_self _) ⟨(i533 + 1), (iadd .i64 j534 1), g6_591, g8_591, ?_, ⟨?_, ?_, ?_, ?_, ?_, ?_, ?_, ?_, ?_, ?_, ?_⟩, (iadd_idxJ hj536 (by omega) hok519), (by omega), hk553⟩ <;> first | rfl | simp [E591, hget, hlt540, hg550, hx574, hc30, hc297, hc317, hc351, hc382, hc428, hc483, hc514, hc597]
    clear hm592
    simp [E591, hget, hlt540, hg550, hx574, hc30, hc297, hc317, hc351, hc382, hc428, hc483, hc514, hc597]
    apply ga595
    refine AWp.seqK fun K600 hk601 => ?_
    refine AWp.regionD [] false mixed (by decide +kernel) (by decide +kernel) ?_
    obtain ⟨x602, hx603, hm604⟩ := bind1_some hm598
    clear hm598
    try dsimp only at hm604
    simp [E591, hget, hlt540, hg550, hx574, hc30, hc297, hc317, hc351, hc382, hc428, hc483, hc514, hc597]
    refine CallAtD.fn (r_ref02_Var T hx603) (by simp) ?_
    obtain ⟨x605, hx606, hm607⟩ := bind1_some hm604
    clear hm604
    try dsimp only at hm607
    obtain ⟨x608, d609, hx610, hm611⟩ := bind2_some hm607
    clear hm607
    try dsimp only at hm611
    simp [E591, hget, hlt540, hg550, hx574, hx606, hc30, hc297, hc317, hc351, hc382, hc428, hc483, hc514, hc597]
    refine CallAtD.fn (ih (by first | exact ho | decide) hx610) (by simp) ?_
    obtain ⟨x612, hx613, hm614⟩ := bind1_some hm611
    clear hm611
    try dsimp only at hm614
    simp [E591, hget, hlt540, hg550, hx574, hx606, hc30, hc297, hc317, hc351, hc382, hc428, hc483, hc514, hc597]
    refine CallAtD.fn (r_ref02_N T hx613) (by simp) ?_
    simp [E591, hget, hlt540, hg550, hx574, hx606, hc30, hc297, hc317, hc351, hc382, hc428, hc483, hc514, hc597]
    apply hk601
    refine AWp.ret ?_
    apply nr568
    apply nr531
    apply nr310
    obtain rfl := Option.some.inj hm614
    rw [ctlK_ret] at hk553
    obtain rfl := Option.some.inj hk553
    rw [sumK_inr] at hmB526
    try dsimp only at hmB526
    simp only [Option.some.injEq, Prod.mk.injEq] at hmB526
    obtain ⟨rfl, rfl⟩ := hmB526
    simp [retQ, E591, hget, hlt540, hg550, hx574, hx606, hc30, hc297, hc317, hc351, hc382, hc428, hc483, hc514, hc597]
theorem r_mk_Term (T : Tabs) {H : Heap} {a0 : Smk_Deck} {a1 : (List Ty)} {a2 : Ty} {a3 : Int} {r0 : Tm} {rd : Smk_Deck} {o : Nat} (ho : o < List.length H) {n : Nat} (hm : mk_Term n a0 a1 a2 a3 = some (r0, rd)) : ACall Tryd.prog T 30 [AV.gptr o 0, AV.slice .frz (List.map Ty.av a1), Ty.av a2, AV.sc (.int .i64 a3)] (hset H o [AV.slice .frz (List.map (fun n => AV.sc (Value.int .i64 n)) a0.l), AV.sc (.int .i64 a0.atF)]) (Tm.av r0) (hset H o [AV.slice .frz (List.map (fun n => AV.sc (Value.int .i64 n)) rd.l), AV.sc (.int .i64 rd.atF)]) := (rg_mk_Term T n) ho hm

theorem enters15 : entersB Tryd.prog 15 = true := by kernel_rfl

theorem rg_mk_Formula (T : Tabs) : ∀ (n : Nat), (∀ {H : Heap} {a0 : Smk_Deck} {a1 : (List Ty)} {a2 : Int} {r0 : Fm} {rd : Smk_Deck} {o : Nat} (ho : o < List.length H) (hm : mk_Formula n a0 a1 a2 = some (r0, rd)), ACall Tryd.prog T 15 [AV.gptr o 0, AV.slice .frz (List.map Ty.av a1), AV.sc (.int .i64 a2)] (hset H o [AV.slice .frz (List.map (fun n => AV.sc (Value.int .i64 n)) a0.l), AV.sc (.int .i64 a0.atF)]) (Fm.av r0) (hset H o [AV.slice .frz (List.map (fun n => AV.sc (Value.int .i64 n)) rd.l), AV.sc (.int .i64 rd.atF)])) := by
  intro n
  induction n with
  | zero =>
    skip
    all_goals
      intros
      rename_i hm
      cases hm
  | succ n ih =>
    intro H a0 a1 a2 r0 rd o ho hm
    rw [mk_Formula] at hm
    have hget : ∀ c, (hset H o c)[o]? = some c := fun c => by simp [hset, ho]
    refine ACallP.intro (fn := Tryd.f15) Tryd.func15 rfl enters15 (Nat.le_of_ble_eq_true rfl) ?_
    refine AWp.sr [] fun K1 hk2 => ?_
    simp [hget]
    apply hk2
    obtain ⟨j3, hj4, hm5⟩ := joinB_some hm
    clear hm
    refine AWp.seqP (fun fr h => ∃ (v6 : Smk_Deck) (g6_9 : Nat), hset H o [AV.slice .frz (List.map (fun n => AV.sc (Value.int .i64 n)) v6.l), AV.sc (.int .i64 v6.atF)] = h ∧ (fr.env 0 = AV.gptr o 0 ∧ fr.env 1 = AV.slice .frz (List.map Ty.av a1) ∧ fr.env 6 = AV.lptr 6 g6_9 0 ∧ fr.gen 6 = g6_9 ∧ fr.box 6 = some [AV.sc (.int .i64 0), AV.sc (.int .i64 0), AV.slice .full [], AV.slice .full [], AV.slice .full []]) ∧ j3 v6 = some (r0, rd)) (fun K7 hk8 => ?_) ?_
    rotate_left
    · clear hm5
      rintro fr9 h9 ⟨v6, g6_9, rfl, E9, hm10⟩
      subst hj4
      refine AWp.sr [] fun K11 hk12 => ?_
      obtain ⟨x13, hx14, hm15⟩ := bind1_some hm10
      clear hm10
      try dsimp only at hm15
      simp [E9, hget]
      refine CallAt.fn (r_ref01_Nat T hx14) ?_
      simp [E9, hget]
      apply hk12
      refine AWp.seqK fun K16 hk17 => ?_
      refine AWp.regionD [] false mixed (by decide +kernel) (by decide +kernel) ?_
      obtain ⟨x18, d19, hx20, hm21⟩ := bind2_some hm15
      clear hm15
      try dsimp only at hm21
      simp [E9, hget]
      refine CallAtD.fn (r_mk_Term T (by first | exact ho | decide) hx20) (by simp) ?_
      obtain ⟨x22, d23, hx24, hm25⟩ := bind2_some hm21
      clear hm21
      try dsimp only at hm25
      simp [E9, hget]
      refine CallAtD.fn (r_mk_Term T (by first | exact ho | decide) hx24) (by simp) ?_
      obtain ⟨x26, hx27, hm28⟩ := bind1_some hm25
      clear hm25
      try dsimp only at hm28
      simp [E9, hget]
      refine CallAtD.fn (r_ref07_Eq T hx27) (by simp) ?_
      simp [E9, hget]
      apply hk17
      refine AWp.ret ?_
      simp only [Option.some.injEq, Prod.mk.injEq] at hm28
      obtain ⟨rfl, rfl⟩ := hm28
      simp [retQ, E9, hget]
    refine AWp.sr [] fun K29 hk30 => ?_
    simp [hget]
    apply hk30
    refine AWp.condK fun A31 B32 ga33 gb34 => ?_
    rcases ite_some hm5 with ⟨hc35, hm36⟩ | ⟨hc35, hm37⟩
    rotate_left
    · clear hm5
      simp [hget, hc35]
      apply gb34
      refine AWp.skip ?_
      refine hk8 _ _ ⟨a0, 1, ?_, ⟨?_, ?_, ?_, ?_, ?_⟩, hm37⟩ <;> first | rfl | simp [hget, hc35]
    clear hm5
    simp [hget, hc35]
    apply ga33
    refine AWp.sr [] fun K38 hk39 => ?_
    obtain ⟨x40, d41, hx42, hm43⟩ := bind2_some hm36
    clear hm36
    try dsimp only at hm43
    simp [hget, hc35]
    refine CallAt.fn (r_mk_Deck_Next T (by first | exact ho | decide) hx42) ?_
    simp [hget, hc35]
    apply hk39
    refine AWp.blockK fun Q44 nn45 ne46 nx47 nr48 => ?_
    refine AWp.sr [] fun K49 hk50 => ?_
    simp [hget, hc35]
    apply hk50
    refine AWp.condK fun A51 B52 ga53 gb54 => ?_
    rcases ite_some hm43 with ⟨hc55, hm56⟩ | ⟨hc55, hm57⟩
    · clear hm43
      simp [hget, hc35, hc55]
      apply ga53
      refine AWp.sr [] fun K58 hk59 => ?_
      obtain ⟨x60, d61, hx62, hm63⟩ := bind2_some hm56
      clear hm56
      try dsimp only at hm63
      simp [hget, hc35, hc55]
      refine CallAt.fn (ih (by first | exact ho | decide) hx62) ?_
      obtain ⟨x64, d65, hx66, hm67⟩ := bind2_some hm63
      clear hm63
      try dsimp only at hm67
      simp [hget, hc35, hc55]
      refine CallAt.fn (ih (by first | exact ho | decide) hx66) ?_
      obtain ⟨x68, hx69, hm70⟩ := bind1_some hm67
      clear hm67
      try dsimp only at hm70
      simp [hget, hc35, hc55]
      refine CallAt.fn (r_ref07_Two T hx69) ?_
      simp [hget, hc35, hc55]
      apply hk59
      refine AWp.ret ?_
      apply nr48
      simp only [Option.some.injEq, Prod.mk.injEq] at hm70
      obtain ⟨rfl, rfl⟩ := hm70
      simp [retQ, hget, hc35, hc55]
    clear hm43
    simp [hget, hc35, hc55]
    apply gb54
    refine AWp.seqP (fun fr h => ∃ (g6_80 : Nat), hset H o [AV.slice .frz (List.map (fun n => AV.sc (Value.int .i64 n)) d41.l), AV.sc (.int .i64 d41.atF)] = h ∧ (fr.env 0 = AV.gptr o 0 ∧ fr.env 1 = AV.slice .frz (List.map Ty.av a1) ∧ fr.env 2 = AV.sc (.int .i64 a2) ∧ fr.env 6 = AV.lptr 6 g6_80 0 ∧ fr.env 14 = AV.sc (.int .i64 x40) ∧ fr.env 28 = AV.sc (.bool (sel (ieq x40 1) true (ieq x40 2))) ∧ fr.gen 6 = g6_80 ∧ fr.box 6 = some [AV.sc (.int .i64 0), AV.sc (.int .i64 0), AV.slice .full [], AV.slice .full [], AV.slice .full []])) (fun K71 hk72 => ?_) ?_
    · refine AWp.sr [] fun K73 hk74 => ?_
      simp [hget, hc35, hc55]
      apply hk74
      refine AWp.condK fun A75 B76 ga77 gb78 => ?_
      rcases Bool.eq_false_or_eq_true (ieq x40 1) with hc79 | hc79
      · simp [hget, hc35, hc55, hc79]
        apply ga77
        refine AWp.skip ?_
        refine hk72 _ _ ⟨1, ?_, ⟨?_, ?_, ?_, ?_, ?_, ?_, ?_, ?_⟩⟩ <;> first | rfl | simp [hget, hc35, hc55, hc79]
      simp [hget, hc35, hc55, hc79]
      apply gb78
      refine AWp.region [] (by decide +kernel) ?_
      simp [hget, hc35, hc55, hc79]
      refine hk72 _ _ ⟨1, ?_, ⟨?_, ?_, ?_, ?_, ?_, ?_, ?_, ?_⟩⟩ <;> first | rfl | simp [hget, hc35, hc55, hc79]
    rintro fr80 h80 ⟨g6_80, rfl, E80⟩
    refine AWp.condK fun A81 B82 ga83 gb84 => ?_
    rcases ite_some hm57 with ⟨hc85, hm86⟩ | ⟨hc85, hm87⟩
    · clear hm57
      simp [E80, hget, hc35, hc55, hc85]
      apply ga83
      refine AWp.sr [] fun K88 hk89 => ?_
      obtain ⟨x90, d91, hx92, hm93⟩ := bind2_some hm86
      clear hm86
      try dsimp only at hm93
      simp [E80, hget, hc35, hc55, hc85]
      refine CallAt.fn (ih (by first | exact ho | decide) hx92) ?_
      obtain ⟨x94, d95, hx96, hm97⟩ := bind2_some hm93
      clear hm93
      try dsimp only at hm97
      simp [E80, hget, hc35, hc55, hc85]
      refine CallAt.fn (ih (by first | exact ho | decide) hx96) ?_
      obtain ⟨x98, hx99, hm100⟩ := bind1_some hm97
      clear hm97
      try dsimp only at hm100
      simp [E80, hget, hc35, hc55, hc85]
      refine CallAt.fn (r_ref07_Two T hx99) ?_
      simp [E80, hget, hc35, hc55, hc85]
      apply hk89
      refine AWp.ret ?_
      apply nr48
      simp only [Option.some.injEq, Prod.mk.injEq] at hm100
      obtain ⟨rfl, rfl⟩ := hm100
      simp [retQ, E80, hget, hc35, hc55, hc85]
    clear hm57
    simp [E80, hget, hc35, hc55, hc85]
    apply gb84
    refine AWp.seqP (fun fr h => ∃ (g6_110 : Nat), hset H o [AV.slice .frz (List.map (fun n => AV.sc (Value.int .i64 n)) d41.l), AV.sc (.int .i64 d41.atF)] = h ∧ (fr.env 0 = AV.gptr o 0 ∧ fr.env 1 = AV.slice .frz (List.map Ty.av a1) ∧ fr.env 2 = AV.sc (.int .i64 a2) ∧ fr.env 6 = AV.lptr 6 g6_110 0 ∧ fr.env 14 = AV.sc (.int .i64 x40) ∧ fr.env 42 = AV.sc (.bool (sel (ieq x40 3) true (ieq x40 4))) ∧ fr.gen 6 = g6_110 ∧ fr.box 6 = some [AV.sc (.int .i64 0), AV.sc (.int .i64 0), AV.slice .full [], AV.slice .full [], AV.slice .full []])) (fun K101 hk102 => ?_) ?_
    · refine AWp.sr [] fun K103 hk104 => ?_
      simp [E80, hget, hc35, hc55, hc85]
      apply hk104
      refine AWp.condK fun A105 B106 ga107 gb108 => ?_
      rcases Bool.eq_false_or_eq_true (ieq x40 3) with hc109 | hc109
      · simp [E80, hget, hc35, hc55, hc85, hc109]
        apply ga107
        refine AWp.skip ?_
        refine hk102 _ _ ⟨g6_80, ?_, ⟨?_, ?_, ?_, ?_, ?_, ?_, ?_, ?_⟩⟩ <;> first | rfl | simp [E80, hget, hc35, hc55, hc85, hc109]
      simp [E80, hget, hc35, hc55, hc85, hc109]
      apply gb108
      refine AWp.region [] (by decide +kernel) ?_
      simp [E80, hget, hc35, hc55, hc85, hc109]
      refine hk102 _ _ ⟨g6_80, ?_, ⟨?_, ?_, ?_, ?_, ?_, ?_, ?_, ?_⟩⟩ <;> first | rfl | simp [E80, hget, hc35, hc55, hc85, hc109]
    rintro fr110 h110 ⟨g6_110, rfl, E110⟩
    refine AWp.condK fun A111 B112 ga113 gb114 => ?_
    rcases ite_some hm87 with ⟨hc115, hm116⟩ | ⟨hc115, hm117⟩
    · clear hm87
      simp [E110, hget, hc35, hc55, hc85, hc115]
      apply ga113
      refine AWp.sr [] fun K118 hk119 => ?_
      obtain ⟨x120, d121, hx122, hm123⟩ := bind2_some hm116
      clear hm116
      try dsimp only at hm123
      simp [E110, hget, hc35, hc55, hc85, hc115]
      refine CallAt.fn (r_mk_Type T (by first | exact ho | decide) hx122) ?_
      simp [E110, hget, hc35, hc55, hc85, hc115]
      apply hk119
      refine AWp.seqK fun K124 hk125 => ?_
      refine AWp.regionD [] false mixed (by decide +kernel) (by decide +kernel) ?_
      obtain ⟨x126, hx127, hm128⟩ := bind1_some hm123
      clear hm123
      try dsimp only at hm128
      simp [E110, hget, hc35, hc55, hc85, hc115]
      refine CallAtD.fn (r_mk_longer T hx127) (by simp) ?_
      obtain ⟨x129, d130, hx131, hm132⟩ := bind2_some hm128
      clear hm128
      try dsimp only at hm132
      simp [E110, hget, hc35, hc55, hc85, hc115]
      refine CallAtD.fn (ih (by first | exact ho | decide) hx131) (by simp) ?_
      obtain ⟨x133, hx134, hm135⟩ := bind1_some hm132
      clear hm132
      try dsimp only at hm135
      simp [E110, hget, hc35, hc55, hc85, hc115]
      refine CallAtD.fn (r_ref07_Q T hx134) (by simp) ?_
      simp [E110, hget, hc35, hc55, hc85, hc115]
      apply hk125
      refine AWp.ret ?_
      apply nr48
      simp only [Option.some.injEq, Prod.mk.injEq] at hm135
      obtain ⟨rfl, rfl⟩ := hm135
      simp [retQ, E110, hget, hc35, hc55, hc85, hc115]
    clear hm87
    simp [E110, hget, hc35, hc55, hc85, hc115]
    apply gb114
    refine AWp.sr [] fun K136 hk137 => ?_
    simp [E110, hget, hc35, hc55, hc85, hc115]
    apply hk137
    refine AWp.condK fun A138 B139 ga140 gb141 => ?_
    rcases ite_some hm117 with ⟨hc142, hm143⟩ | ⟨hc142, hm144⟩
    · clear hm117
      simp [E110, hget, hc35, hc55, hc85, hc115, hc142]
      apply ga140
      refine AWp.sr [] fun K145 hk146 => ?_
      obtain ⟨x147, d148, hx149, hm150⟩ := bind2_some hm143
      clear hm143
      try dsimp only at hm150
      simp [E110, hget, hc35, hc55, hc85, hc115, hc142]
      refine CallAt.fn (r_mk_Type T (by first | exact ho | decide) hx149) ?_
      simp [E110, hget, hc35, hc55, hc85, hc115, hc142]
      apply hk146
      refine AWp.seqK fun K151 hk152 => ?_
      refine AWp.regionD [] false mixed (by decide +kernel) (by decide +kernel) ?_
      obtain ⟨x153, hx154, hm155⟩ := bind1_some hm150
      clear hm150
      try dsimp only at hm155
      simp [E110, hget, hc35, hc55, hc85, hc115, hc142]
      refine CallAtD.fn (r_mk_longer T hx154) (by simp) ?_
      obtain ⟨x156, d157, hx158, hm159⟩ := bind2_some hm155
      clear hm155
      try dsimp only at hm159
      simp [E110, hget, hc35, hc55, hc85, hc115, hc142]
      refine CallAtD.fn (ih (by first | exact ho | decide) hx158) (by simp) ?_
      obtain ⟨x160, hx161, hm162⟩ := bind1_some hm159
      clear hm159
      try dsimp only at hm162
      simp [E110, hget, hc35, hc55, hc85, hc115, hc142]
      refine CallAtD.fn (r_ref07_Q T hx161) (by simp) ?_
      simp [E110, hget, hc35, hc55, hc85, hc115, hc142]
      apply hk152
      refine AWp.ret ?_
      apply nr48
      simp only [Option.some.injEq, Prod.mk.injEq] at hm162
      obtain ⟨rfl, rfl⟩ := hm162
      simp [retQ, E110, hget, hc35, hc55, hc85, hc115, hc142]
    clear hm117
    simp [E110, hget, hc35, hc55, hc85, hc115, hc142]
    apply gb141
    refine AWp.sr [] fun K163 hk164 => ?_
    simp [E110, hget, hc35, hc55, hc85, hc115, hc142]
    apply hk164
    refine AWp.condK fun A165 B166 ga167 gb168 => ?_
    rcases ite_some hm144 with ⟨hc169, hm170⟩ | ⟨hc169, hm171⟩
    rotate_left
    · clear hm144
      simp [E110, hget, hc35, hc55, hc85, hc115, hc142, hc169]
      apply gb168
      refine AWp.skip ?_
      apply nn45
      refine hk8 _ _ ⟨d41, g6_110, ?_, ⟨?_, ?_, ?_, ?_, ?_⟩, hm171⟩ <;> first | rfl | simp [E110, hget, hc35, hc55, hc85, hc115, hc142, hc169]
    clear hm144
    simp [E110, hget, hc35, hc55, hc85, hc115, hc142, hc169]
    apply ga167
    refine AWp.sr [] fun K172 hk173 => ?_
    obtain ⟨x174, d175, hx176, hm177⟩ := bind2_some hm170
    clear hm170
    try dsimp only at hm177
    simp [E110, hget, hc35, hc55, hc85, hc115, hc142, hc169]
    refine CallAt.fn (r_mk_Type T (by first | exact ho | decide) hx176) ?_
    simp [E110, hget, hc35, hc55, hc85, hc115, hc142, hc169]
    apply hk173
    refine AWp.seqK fun K178 hk179 => ?_
    refine AWp.regionD [] false mixed (by decide +kernel) (by decide +kernel) ?_
    obtain ⟨x180, d181, hx182, hm183⟩ := bind2_some hm177
    clear hm177
    try dsimp only at hm183
    simp [E110, hget, hc35, hc55, hc85, hc115, hc142, hc169]
    refine CallAtD.fn (r_mk_Deck_Next T (by first | exact ho | decide) hx182) (by simp) ?_
    obtain ⟨x184, hx185, hm186⟩ := bind1_some hm183
    clear hm183
    try dsimp only at hm186
    simp [E110, hget, hc35, hc55, hc85, hc115, hc142, hc169]
    refine CallAtD.fn (r_mk_longer T hx185) (by simp) ?_
    obtain ⟨x187, d188, hx189, hm190⟩ := bind2_some hm186
    clear hm186
    try dsimp only at hm190
    simp [E110, hget, hc35, hc55, hc85, hc115, hc142, hc169]
    refine CallAtD.fn (ih (by first | exact ho | decide) hx189) (by simp) ?_
    obtain ⟨x191, hx192, hm193⟩ := bind1_some hm190
    clear hm190
    try dsimp only at hm193
    simp [E110, hget, hc35, hc55, hc85, hc115, hc142, hc169]
    refine CallAtD.fn (r_ref07_Q T hx192) (by simp) ?_
    simp [E110, hget, hc35, hc55, hc85, hc115, hc142, hc169]
    apply hk179
    refine AWp.ret ?_
    apply nr48
    simp only [Option.some.injEq, Prod.mk.injEq] at hm193
    obtain ⟨rfl, rfl⟩ := hm193
    simp [retQ, E110, hget, hc35, hc55, hc85, hc115, hc142, hc169]
theorem r_mk_Formula (T : Tabs) {H : Heap} {a0 : Smk_Deck} {a1 : (List Ty)} {a2 : Int} {r0 : Fm} {rd : Smk_Deck} {o : Nat} (ho : o < List.length H) {n : Nat} (hm : mk_Formula n a0 a1 a2 = some (r0, rd)) : ACall Tryd.prog T 15 [AV.gptr o 0, AV.slice .frz (List.map Ty.av a1), AV.sc (.int .i64 a2)] (hset H o [AV.slice .frz (List.map (fun n => AV.sc (Value.int .i64 n)) a0.l), AV.sc (.int .i64 a0.atF)]) (Fm.av r0) (hset H o [AV.slice .frz (List.map (fun n => AV.sc (Value.int .i64 n)) rd.l), AV.sc (.int .i64 rd.atF)]) := (rg_mk_Formula T n) ho hm

theorem enters14 : entersB Tryd.prog 14 = true := by kernel_rfl

theorem r_mk_Sequent (T : Tabs) {H : Heap} {a0 : Smk_Deck} {r0 : Sq} {rd : Smk_Deck} {o : Nat} (ho : o < List.length H) (hm : mk_Sequent a0 = some (r0, rd)) : ACall Tryd.prog T 14 [AV.gptr o 0] (hset H o [AV.slice .frz (List.map (fun n => AV.sc (Value.int .i64 n)) a0.l), AV.sc (.int .i64 a0.atF)]) (Sq.av r0) (hset H o [AV.slice .frz (List.map (fun n => AV.sc (Value.int .i64 n)) rd.l), AV.sc (.int .i64 rd.atF)]) := by
  rw [mk_Sequent] at hm
  have hget : ∀ c, (hset H o c)[o]? = some c := fun c => by simp [hset, ho]
  refine ACallP.intro (fn := Tryd.f14) Tryd.func14 rfl enters14 (Nat.le_of_ble_eq_true rfl) ?_
  refine AWp.sr [] fun K1 hk2 => ?_
  simp [hget]
  apply hk2
  refine AWp.sr [] fun K3 hk4 => ?_
  obtain ⟨x5, d6, hx7, hm8⟩ := bind2_some hm
  clear hm
  try dsimp only at hm8
  simp [hget]
  refine CallAt.fn (r_mk_Context T (by first | exact ho | decide) hx7) ?_
  simp [hget]
  apply hk4
  refine AWp.seqK fun K9 hk10 => ?_
  refine AWp.sr [] fun K11 hk12 => ?_
  obtain ⟨x13, d14, hx15, hm16⟩ := bind2_some hm8
  clear hm8
  try dsimp only at hm16
  simp [hget]
  refine CallAt.fn (r_mk_Deck_Next T (by first | exact ho | decide) hx15) ?_
  simp [hget]
  apply hk12
  obtain ⟨F17, hF18, hm19⟩ := joinB_some hm16
  clear hm16
  try dsimp only at hm19
  obtain ⟨out20, hl21, hmB22⟩ := bind1_some hm19
  clear hm19
  refine AWp.blockK fun Q23 nn24 ne25 nx26 nr27 => ?_
  refine AWp.loopF (fun n28 fr h => ∃ (v29 : Int) (v30 : (List Fm)) (v31 : Smk_Deck) (tg0_32 : Tag) (g2_32 : Nat) (g3_32 : Nat), hset H o [AV.slice .frz (List.map (fun n => AV.sc (Value.int .i64 n)) v31.l), AV.sc (.int .i64 v31.atF)] = h ∧ (fr.env 0 = AV.gptr o 0 ∧ fr.env 2 = AV.lptr 2 g2_32 0 ∧ fr.env 3 = AV.lptr 3 g3_32 0 ∧ fr.env 4 = AV.sc (.int .i64 v29) ∧ fr.gen 2 = g2_32 ∧ fr.box 2 = some [AV.slice .full [], AV.slice .full []] ∧ fr.gen 3 = g3_32 ∧ fr.box 3 = some [AV.slice .frz (List.map Ty.av x5), AV.slice tg0_32 (List.map Fm.av v30)]) ∧ OwnT fr.tab fr.tgen [21] tg0_32 (List.length v30) ∧ loopN F17 n28 (v29, v30, v31) = some out20) FU ?_ ?_
  · refine ⟨x13, [], d14, .full, 1, 1, ?_, ⟨?_, ?_, ?_, ?_, ?_, ?_, ?_, ?_⟩, OwnT.full, hl21⟩ <;> first | rfl | simp [hget]
  rintro n28 fr32 h32 ⟨v29, v30, v31, tg0_32, g2_32, g3_32, rfl, E32, o0_32, hl21⟩ K33 hK34
  rcases n28 with _ | n28
  · rw [loopN_zero] at hl21
    cases hl21
  rw [loopN_succ] at hl21
  obtain ⟨c35, hb36, hk37⟩ := bind1_some hl21
  clear hl21
  rw [hF18] at hb36
  try dsimp only at hb36
  rw [un3_mk] at hb36
  try dsimp only at hb36
  refine AWp.seqK fun K38 hk39 => ?_
  refine AWp.sr [] fun K40 hk41 => ?_
  simp [E32, hget]
  apply hk41
  refine AWp.condK fun A42 B43 ga44 gb45 => ?_
  rcases ite_some hb36 with ⟨hc46, hm47⟩ | ⟨hc46, hm48⟩
  rotate_left
  · clear hb36
    simp [E32, hget, hc46]
    apply gb45
    refine AWp.exit ?_
    apply ne25
    obtain rfl := Option.some.inj hm48
    rw [ctlK_brk] at hk37
    obtain rfl := Option.some.inj hk37
    rw [sumK_inl, un3_mk] at hmB22
    try dsimp only at hmB22
    apply hk10
    refine AWp.sr [] fun K49 hk50 => ?_
    simp [E32, hget, hc46]
    apply hk50
    refine AWp.ret ?_
    simp only [Option.some.injEq, Prod.mk.injEq] at hmB22
    obtain ⟨rfl, rfl⟩ := hmB22
    simp [retQ, E32, hget, hc46]
  clear hb36
  simp [E32, hget, hc46]
  apply ga44
  refine AWp.skip ?_
  apply hk39
  refine AWp.seqK fun K51 hk52 => ?_
  refine AWp.blockK fun Q53 nn54 ne55 nx56 nr57 => ?_
  refine AWp.regionD [] false mixed (by decide +kernel) (by decide +kernel) ?_
  obtain ⟨x58, d59, hx60, hm61⟩ := bind2_some hm47
  clear hm47
  try dsimp only at hm61
  simp [E32, hget, hc46]
  refine CallAtD.fn (r_mk_Formula T (by first | exact ho | decide) hx60) (by simp) ?_
  obtain ⟨ha289, hm62⟩ := chk_some hm61
  clear hm61
  simp [E32, hget, hc46]
  refine AppAt.own (f := Fm.av) v30 [x58] o0_32 ap27 (by intro x; simp) ha289 (by first | rfl | simp) (by first | rfl | simp) ?_
  simp [E32, hget, hc46]
  apply nn54
  apply hk52
  refine AWp.region [] (by decide +kernel) ?_
  simp [E32, hget, hc46]
  obtain rfl := Option.some.inj hm62
  rw [ctlK_next] at hk37
  refine hK34 _ _ n28 (Nat.lt_succ_self _) ⟨(isub .i64 v29 1), (lapp v30 [x58]), d59, (.loc 21 (fr32.tgen 21 + 1)), g2_32, g3_32, ?_, ⟨?_, ?_, ?_, ?_, ?_, ?_, ?_, ?_⟩, (OwnT.mono (D := [21]) (OwnT.new (D := [21]) (d := 21) (by decide)) (by decide)), hk37⟩ <;> first | rfl | simp [E32, hget, hc46]

theorem enters97 : entersB Tryd.prog 97 = true := by kernel_rfl

theorem r_ref01_Zero (T : Tabs) {H : Heap} {a0 : Ty} {r0 : Bool} (hm : ref01_Zero a0 = some r0) : ACall Tryd.prog T 97 [Ty.av a0] H (AV.sc (.bool r0)) H := by
  rw [ref01_Zero] at hm
  refine ACallP.intro (fn := Tryd.f97) Tryd.func97 rfl enters97 (Nat.le_of_ble_eq_true rfl) ?_
  refine AWp.sr [] fun K1 hk2 => ?_
  simp
  apply hk2
  refine AWp.seqP (fun fr h => H = h ∧ fr.env 2 = AV.sc (.bool (sel (ieq a0.kind 0) (ieq (llen a0.args) 0) false))) (fun K3 hk4 => ?_) ?_
  rotate_left
  · rintro fr5 h5 ⟨rfl, E5⟩
    refine AWp.ret ?_
    obtain rfl := Option.some.inj hm
    simp [retQ, E5]
  refine AWp.region [] (by decide +kernel) ?_
  rcases Bool.eq_false_or_eq_true (ieq a0.kind 0) with hc6 | hc6
  · simp [hc6]
    refine hk4 _ _ ⟨?_, ?_⟩ <;> first | rfl | simp [hc6]
  simp [hc6]
  refine hk4 _ _ ⟨?_, ?_⟩ <;> first | rfl | simp [hc6]

theorem enters103 : entersB Tryd.prog 103 = true := by kernel_rfl

theorem r_ref02_args (T : Tabs) {H : Heap} {a0 : Int} {r0 : Int} (hm : ref02_args a0 = some r0) : ACall Tryd.prog T 103 [AV.sc (.int .i64 a0)] H (AV.sc (.int .i64 r0)) H := by
  rw [ref02_args] at hm
  refine ACallP.intro (fn := Tryd.f103) Tryd.func103 rfl enters103 (Nat.le_of_ble_eq_true rfl) ?_
  refine AWp.sr [] fun K1 hk2 => ?_
  simp
  apply hk2
  refine AWp.seqK fun K3 hk4 => ?_
  refine AWp.sr [] fun K5 hk6 => ?_
  simp
  apply hk6
  refine AWp.blockK fun Q7 nn8 ne9 nx10 nr11 => ?_
  refine AWp.seqP (fun fr h => H = h ∧ (fr.env 3 = AV.sc (.int .i64 a0) ∧ fr.env 4 = AV.sc (.bool (sel (ieq a0 1) true (sel (ieq a0 4) true (sel (ieq a0 7) true (ieq a0 13))))))) (fun K12 hk13 => ?_) ?_
  · refine AWp.sr [] fun K14 hk15 => ?_
    simp
    apply hk15
    refine AWp.condK fun A16 B17 ga18 gb19 => ?_
    rcases Bool.eq_false_or_eq_true (ieq a0 1) with hc20 | hc20
    · simp [hc20]
      apply ga18
      refine AWp.skip ?_
      refine hk13 _ _ ⟨?_, ⟨?_, ?_⟩⟩ <;> first | rfl | simp [hc20]
    simp [hc20]
    apply gb19
    refine AWp.sr [] fun K21 hk22 => ?_
    simp [hc20]
    apply hk22
    refine AWp.condK fun A23 B24 ga25 gb26 => ?_
    rcases Bool.eq_false_or_eq_true (ieq a0 4) with hc27 | hc27
    · simp [hc20, hc27]
      apply ga25
      refine AWp.skip ?_
      refine hk13 _ _ ⟨?_, ⟨?_, ?_⟩⟩ <;> first | rfl | simp [hc20, hc27]
    simp [hc20, hc27]
    apply gb26
    refine AWp.sr [] fun K28 hk29 => ?_
    simp [hc20, hc27]
    apply hk29
    refine AWp.condK fun A30 B31 ga32 gb33 => ?_
    rcases Bool.eq_false_or_eq_true (ieq a0 7) with hc34 | hc34
    · simp [hc20, hc27, hc34]
      apply ga32
      refine AWp.skip ?_
      refine hk13 _ _ ⟨?_, ⟨?_, ?_⟩⟩ <;> first | rfl | simp [hc20, hc27, hc34]
    simp [hc20, hc27, hc34]
    apply gb33
    refine AWp.region [] (by decide +kernel) ?_
    simp [hc20, hc27, hc34]
    refine hk13 _ _ ⟨?_, ⟨?_, ?_⟩⟩ <;> first | rfl | simp [hc20, hc27, hc34]
  rintro fr35 h35 ⟨rfl, E35⟩
  refine AWp.condK fun A36 B37 ga38 gb39 => ?_
  rcases ite_some hm with ⟨hc40, hm41⟩ | ⟨hc40, hm42⟩
  · clear hm
    simp [E35, hc40]
    apply ga38
    refine AWp.sr [] fun K43 hk44 => ?_
    simp [E35, hc40]
    apply hk44
    refine AWp.ret ?_
    apply nr11
    obtain rfl := Option.some.inj hm41
    simp [retQ, E35, hc40]
  clear hm
  simp [E35, hc40]
  apply gb39
  refine AWp.seqP (fun fr h => H = h ∧ (fr.env 3 = AV.sc (.int .i64 a0) ∧ fr.env 9 = AV.sc (.bool (sel (ieq a0 2) true (sel (ieq a0 5) true (sel (ieq a0 11) true (ieq a0 12))))))) (fun K45 hk46 => ?_) ?_
  · refine AWp.sr [] fun K47 hk48 => ?_
    simp [E35, hc40]
    apply hk48
    refine AWp.condK fun A49 B50 ga51 gb52 => ?_
    rcases Bool.eq_false_or_eq_true (ieq a0 2) with hc53 | hc53
    · simp [E35, hc40, hc53]
      apply ga51
      refine AWp.skip ?_
      refine hk46 _ _ ⟨?_, ⟨?_, ?_⟩⟩ <;> first | rfl | simp [E35, hc40, hc53]
    simp [E35, hc40, hc53]
    apply gb52
    refine AWp.sr [] fun K54 hk55 => ?_
    simp [E35, hc40, hc53]
    apply hk55
    refine AWp.condK fun A56 B57 ga58 gb59 => ?_
    rcases Bool.eq_false_or_eq_true (ieq a0 5) with hc60 | hc60
    · simp [E35, hc40, hc53, hc60]
      apply ga58
      refine AWp.skip ?_
      refine hk46 _ _ ⟨?_, ⟨?_, ?_⟩⟩ <;> first | rfl | simp [E35, hc40, hc53, hc60]
    simp [E35, hc40, hc53, hc60]
    apply gb59
    refine AWp.sr [] fun K61 hk62 => ?_
    simp [E35, hc40, hc53, hc60]
    apply hk62
    refine AWp.condK fun A63 B64 ga65 gb66 => ?_
    rcases Bool.eq_false_or_eq_true (ieq a0 11) with hc67 | hc67
    · simp [E35, hc40, hc53, hc60, hc67]
      apply ga65
      refine AWp.skip ?_
      refine hk46 _ _ ⟨?_, ⟨?_, ?_⟩⟩ <;> first | rfl | simp [E35, hc40, hc53, hc60, hc67]
    simp [E35, hc40, hc53, hc60, hc67]
    apply gb66
    refine AWp.region [] (by decide +kernel) ?_
    simp [E35, hc40, hc53, hc60, hc67]
    refine hk46 _ _ ⟨?_, ⟨?_, ?_⟩⟩ <;> first | rfl | simp [E35, hc40, hc53, hc60, hc67]
  rintro fr68 h68 ⟨rfl, E68⟩
  refine AWp.condK fun A69 B70 ga71 gb72 => ?_
  rcases ite_some hm42 with ⟨hc73, hm74⟩ | ⟨hc73, hm75⟩
  · clear hm42
    simp [E68, hc40, hc73]
    apply ga71
    refine AWp.sr [] fun K76 hk77 => ?_
    simp [E68, hc40, hc73]
    apply hk77
    refine AWp.ret ?_
    apply nr11
    obtain rfl := Option.some.inj hm74
    simp [retQ, E68, hc40, hc73]
  clear hm42
  simp [E68, hc40, hc73]
  apply gb72
  refine AWp.seqP (fun fr h => H = h ∧ (fr.env 3 = AV.sc (.int .i64 a0) ∧ fr.env 14 = AV.sc (.bool (sel (ieq a0 3) true (sel (ieq a0 8) true (ieq a0 10)))))) (fun K78 hk79 => ?_) ?_
  · refine AWp.sr [] fun K80 hk81 => ?_
    simp [E68, hc40, hc73]
    apply hk81
    refine AWp.condK fun A82 B83 ga84 gb85 => ?_
    rcases Bool.eq_false_or_eq_true (ieq a0 3) with hc86 | hc86
    · simp [E68, hc40, hc73, hc86]
      apply ga84
      refine AWp.skip ?_
      refine hk79 _ _ ⟨?_, ⟨?_, ?_⟩⟩ <;> first | rfl | simp [E68, hc40, hc73, hc86]
    simp [E68, hc40, hc73, hc86]
    apply gb85
    refine AWp.sr [] fun K87 hk88 => ?_
    simp [E68, hc40, hc73, hc86]
    apply hk88
    refine AWp.condK fun A89 B90 ga91 gb92 => ?_
    rcases Bool.eq_false_or_eq_true (ieq a0 8) with hc93 | hc93
    · simp [E68, hc40, hc73, hc86, hc93]
      apply ga91
      refine AWp.skip ?_
      refine hk79 _ _ ⟨?_, ⟨?_, ?_⟩⟩ <;> first | rfl | simp [E68, hc40, hc73, hc86, hc93]
    simp [E68, hc40, hc73, hc86, hc93]
    apply gb92
    refine AWp.region [] (by decide +kernel) ?_
    simp [E68, hc40, hc73, hc86, hc93]
    refine hk79 _ _ ⟨?_, ⟨?_, ?_⟩⟩ <;> first | rfl | simp [E68, hc40, hc73, hc86, hc93]
  rintro fr94 h94 ⟨rfl, E94⟩
  refine AWp.condK fun A95 B96 ga97 gb98 => ?_
  rcases ite_some hm75 with ⟨hc99, hm100⟩ | ⟨hc99, hm101⟩
  · clear hm75
    simp [E94, hc40, hc73, hc99]
    apply ga97
    refine AWp.sr [] fun K102 hk103 => ?_
    simp [E94, hc40, hc73, hc99]
    apply hk103
    refine AWp.ret ?_
    apply nr11
    obtain rfl := Option.some.inj hm100
    simp [retQ, E94, hc40, hc73, hc99]
  clear hm75
  simp [E94, hc40, hc73, hc99]
  apply gb98
  refine AWp.seqP (fun fr h => H = h ∧ fr.env 18 = AV.sc (.bool (sel (ieq a0 6) true (ieq a0 9)))) (fun K104 hk105 => ?_) ?_
  · refine AWp.sr [] fun K106 hk107 => ?_
    simp [E94, hc40, hc73, hc99]
    apply hk107
    refine AWp.condK fun A108 B109 ga110 gb111 => ?_
    rcases Bool.eq_false_or_eq_true (ieq a0 6) with hc112 | hc112
    · simp [E94, hc40, hc73, hc99, hc112]
      apply ga110
      refine AWp.skip ?_
      refine hk105 _ _ ⟨?_, ?_⟩ <;> first | rfl | simp [E94, hc40, hc73, hc99, hc112]
    simp [E94, hc40, hc73, hc99, hc112]
    apply gb111
    refine AWp.region [] (by decide +kernel) ?_
    simp [E94, hc40, hc73, hc99, hc112]
    refine hk105 _ _ ⟨?_, ?_⟩ <;> first | rfl | simp [E94, hc40, hc73, hc99, hc112]
  rintro fr113 h113 ⟨rfl, E113⟩
  refine AWp.condK fun A114 B115 ga116 gb117 => ?_
  rcases ite_some hm101 with ⟨hc118, hm119⟩ | ⟨hc118, hm120⟩
  · clear hm101
    simp [E113, hc40, hc73, hc99, hc118]
    apply ga116
    refine AWp.sr [] fun K121 hk122 => ?_
    simp [E113, hc40, hc73, hc99, hc118]
    apply hk122
    refine AWp.ret ?_
    apply nr11
    obtain rfl := Option.some.inj hm119
    simp [retQ, E113, hc40, hc73, hc99, hc118]
  clear hm101
  simp [E113, hc40, hc73, hc99, hc118]
  apply gb117
  refine AWp.skip ?_
  apply nn8
  apply hk4
  refine AWp.sr [] fun K123 hk124 => ?_
  simp [E113, hc40, hc73, hc99, hc118]
  apply hk124
  refine AWp.ret ?_
  obtain rfl := Option.some.inj hm120
  simp [retQ, E113, hc40, hc73, hc99, hc118]

theorem enters100 : entersB Tryd.prog 100 = true := by kernel_rfl

theorem rg_ref01_shape (T : Tabs) : ∀ (n : Nat), (∀ {H : Heap} {a0 : Ty} {r0 : Bool} (hm : ref01_shape n a0 = some r0), ACall Tryd.prog T 100 [Ty.av a0] H (AV.sc (.bool r0)) H) := by
  intro n
  induction n with
  | zero =>
    skip
    all_goals
      intros
      rename_i hm
      cases hm
  | succ n ih =>
    intro H a0 r0 hm
    rw [ref01_shape] at hm
    refine ACallP.intro (fn := Tryd.f100) Tryd.func100 rfl enters100 (Nat.le_of_ble_eq_true rfl) ?_
    refine AWp.sr [] fun K1 hk2 => ?_
    simp
    apply hk2
    refine AWp.sr [] fun K3 hk4 => ?_
    simp
    apply hk4
    obtain ⟨j5, hj6, hm7⟩ := joinB_some hm
    clear hm
    refine AWp.seqP (fun fr h => ∃ (v8 : Int) (g1_61 : Nat), H = h ∧ (fr.env 1 = AV.lptr 1 g1_61 0 ∧ fr.env 3 = AV.sc (.int .i64 v8) ∧ fr.gen 1 = g1_61 ∧ fr.box 1 = some [AV.sc (.int .i64 a0.kind), AV.slice .frz (List.map Ty.av a0.args)]) ∧ j5 v8 = some r0) (fun K9 hk10 => ?_) ?_
    · refine AWp.sr [] fun K11 hk12 => ?_
      simp
      apply hk12
      refine AWp.blockK fun Q13 nn14 ne15 nx16 nr17 => ?_
      refine AWp.seqP (fun fr h => ∃ (g1_34 : Nat), H = h ∧ (fr.env 1 = AV.lptr 1 g1_34 0 ∧ fr.env 3 = AV.sc (.int .i64 0) ∧ fr.env 7 = AV.sc (.int .i64 a0.kind) ∧ fr.env 8 = AV.sc (.bool (sel (ieq a0.kind 1) true (sel (ieq a0.kind 2) true (ieq a0.kind 5)))) ∧ fr.gen 1 = g1_34 ∧ fr.box 1 = some [AV.sc (.int .i64 a0.kind), AV.slice .frz (List.map Ty.av a0.args)])) (fun K18 hk19 => ?_) ?_
      · refine AWp.sr [] fun K20 hk21 => ?_
        simp
        apply hk21
        refine AWp.condK fun A22 B23 ga24 gb25 => ?_
        rcases Bool.eq_false_or_eq_true (ieq a0.kind 1) with hc26 | hc26
        · simp [hc26]
          apply ga24
          refine AWp.skip ?_
          refine hk19 _ _ ⟨1, ?_, ⟨?_, ?_, ?_, ?_, ?_, ?_⟩⟩ <;> first | rfl | simp [hc26]
        simp [hc26]
        apply gb25
        refine AWp.sr [] fun K27 hk28 => ?_
        simp [hc26]
        apply hk28
        refine AWp.condK fun A29 B30 ga31 gb32 => ?_
        rcases Bool.eq_false_or_eq_true (ieq a0.kind 2) with hc33 | hc33
        · simp [hc26, hc33]
          apply ga31
          refine AWp.skip ?_
          refine hk19 _ _ ⟨1, ?_, ⟨?_, ?_, ?_, ?_, ?_, ?_⟩⟩ <;> first | rfl | simp [hc26, hc33]
        simp [hc26, hc33]
        apply gb32
        refine AWp.region [] (by decide +kernel) ?_
        simp [hc26, hc33]
        refine hk19 _ _ ⟨1, ?_, ⟨?_, ?_, ?_, ?_, ?_, ?_⟩⟩ <;> first | rfl | simp [hc26, hc33]
      rintro fr34 h34 ⟨g1_34, rfl, E34⟩
      refine AWp.condK fun A35 B36 ga37 gb38 => ?_
      rcases ite_some hm7 with ⟨hc39, hm40⟩ | ⟨hc39, hm41⟩
      · clear hm7
        simp [E34, hc39]
        apply ga37
        refine AWp.skip ?_
        apply nn14
        refine hk10 _ _ ⟨0, g1_34, ?_, ⟨?_, ?_, ?_, ?_⟩, hm40⟩ <;> first | rfl | simp [E34, hc39]
      clear hm7
      simp [E34, hc39]
      apply gb38
      refine AWp.seqP (fun fr h => ∃ (g1_51 : Nat), H = h ∧ (fr.env 1 = AV.lptr 1 g1_51 0 ∧ fr.env 12 = AV.sc (.bool (sel (ieq a0.kind 3) true (ieq a0.kind 4))) ∧ fr.gen 1 = g1_51 ∧ fr.box 1 = some [AV.sc (.int .i64 a0.kind), AV.slice .frz (List.map Ty.av a0.args)])) (fun K42 hk43 => ?_) ?_
      · refine AWp.sr [] fun K44 hk45 => ?_
        simp [E34, hc39]
        apply hk45
        refine AWp.condK fun A46 B47 ga48 gb49 => ?_
        rcases Bool.eq_false_or_eq_true (ieq a0.kind 3) with hc50 | hc50
        · simp [E34, hc39, hc50]
          apply ga48
          refine AWp.skip ?_
          refine hk43 _ _ ⟨g1_34, ?_, ⟨?_, ?_, ?_, ?_⟩⟩ <;> first | rfl | simp [E34, hc39, hc50]
        simp [E34, hc39, hc50]
        apply gb49
        refine AWp.region [] (by decide +kernel) ?_
        simp [E34, hc39, hc50]
        refine hk43 _ _ ⟨g1_34, ?_, ⟨?_, ?_, ?_, ?_⟩⟩ <;> first | rfl | simp [E34, hc39, hc50]
      rintro fr51 h51 ⟨g1_51, rfl, E51⟩
      refine AWp.condK fun A52 B53 ga54 gb55 => ?_
      rcases ite_some hm41 with ⟨hc56, hm57⟩ | ⟨hc56, hm58⟩
      rotate_left
      · clear hm41
        simp [E51, hc39, hc56]
        apply gb55
        refine AWp.sr [] fun K59 hk60 => ?_
        simp [E51, hc39, hc56]
        apply hk60
        refine AWp.ret ?_
        apply nr17
        obtain rfl := Option.some.inj hm58
        simp [retQ, E51, hc39, hc56]
      clear hm41
      simp [E51, hc39, hc56]
      apply ga54
      refine AWp.region [] (by decide +kernel) ?_
      simp [E51, hc39, hc56]
      apply nn14
      refine hk10 _ _ ⟨2, g1_51, ?_, ⟨?_, ?_, ?_, ?_⟩, hm57⟩ <;> first | rfl | simp [E51, hc39, hc56]
    clear hm7
    rintro fr61 h61 ⟨v8, g1_61, rfl, E61, hm62⟩
    subst hj6
    refine AWp.seqK fun K63 hk64 => ?_
    refine AWp.sr [] fun K65 hk66 => ?_
    simp [E61]
    apply hk66
    refine AWp.condK fun A67 B68 ga69 gb70 => ?_
    rcases ite_some hm62 with ⟨hc71, hm72⟩ | ⟨hc71, hm73⟩
    · clear hm62
      simp [E61, hc71]
      apply ga69
      refine AWp.sr [] fun K74 hk75 => ?_
      simp [E61, hc71]
      apply hk75
      refine AWp.ret ?_
      obtain rfl := Option.some.inj hm72
      simp [retQ, E61, hc71]
    clear hm62
    simp [E61, hc71]
    apply gb70
    refine AWp.skip ?_
    apply hk64
    refine AWp.seqK fun K76 hk77 => ?_
    refine AWp.sr [] fun K78 hk79 => ?_
    simp [E61, hc71]
    apply hk79
    obtain ⟨hok80, hm81⟩ := chk_some hm73
    clear hm73
    obtain ⟨F82, hF83, hm84⟩ := joinB_some hm81
    clear hm81
    try dsimp only at hm84
    obtain ⟨out85, hl86, hmB87⟩ := bind1_some hm84
    clear hm84
    refine AWp.blockK fun Q88 nn89 ne90 nx91 nr92 => ?_
    refine AWp.loopF (fun n93 fr h => ∃ (i94 : Nat) (j95 : Int), H = h ∧ (fr.env 21 = AV.slice .frz (List.map Ty.av a0.args) ∧ fr.env 22 = AV.sc (.int .i64 (llen a0.args)) ∧ fr.env 23 = AV.sc (.int .i64 j95)) ∧ j95 = (i94 : Int) ∧ i94 + n93 = List.length a0.args ∧ forR F82 (List.drop i94 a0.args) i94 () = some out85) (List.length a0.args) ?_ ?_
    · refine ⟨0, 0, ?_, ⟨?_, ?_, ?_⟩, rfl, (by simp), hl86⟩ <;> first | rfl | simp [E61, hc71]
    rintro n93 fr96 h96 ⟨i94, j95, rfl, E96, hj97, hi98, hl86⟩ K99 hK100
    rcases n93 with _ | n93
    · have hlt101 := ilt_notJ (l := a0.args) hj97 (by omega)
      refine AWp.sr [] fun K102 hk103 => ?_
      simp [E96, hlt101, hc71]
      apply hk103
      refine AWp.seqK fun K104 hk105 => ?_
      refine AWp.condK fun A106 B107 ga108 gb109 => ?_
      simp [E96, hlt101, hc71]
      apply gb109
      refine AWp.exit ?_
      apply ne90
      rw [List.drop_eq_nil_of_le (by omega), forR_nil] at hl86
      obtain rfl := Option.some.inj hl86
      rw [sumK_inl] at hmB87
      try dsimp only at hmB87
      apply hk77
      refine AWp.sr [] fun K110 hk111 => ?_
      simp [E96, hlt101, hc71]
      apply hk111
      refine AWp.ret ?_
      obtain rfl := Option.some.inj hmB87
      simp [retQ, E96, hlt101, hc71]
    have hlt101 := ilt_ofJ (l := a0.args) hj97 (by omega)
    obtain ⟨x112, hdn93, hg113⟩ := drop_ltJ (l := a0.args) hj97 (by omega)
    rw [hdn93, forR_cons] at hl86
    obtain ⟨c114, hb115, hk116⟩ := bind1_some hl86
    clear hl86
    rw [hF83, ← hj97] at hb115
    try dsimp only at hb115
    refine AWp.sr [] fun K117 hk118 => ?_
    simp [E96, hlt101, hg113, hc71]
    apply hk118
    refine AWp.seqK fun K119 hk120 => ?_
    refine AWp.condK fun A121 B122 ga123 gb124 => ?_
    simp [E96, hlt101, hg113, hc71]
    apply ga123
    refine AWp.skip ?_
    apply hk120
    refine AWp.seqK fun K125 hk126 => ?_
    refine AWp.blockK fun Q127 nn128 ne129 nx130 nr131 => ?_
    refine AWp.sr [] fun K132 hk133 => ?_
    simp [E96, hlt101, hg113, hc71]
    apply hk133
    refine AWp.sr [] fun K134 hk135 => ?_
    obtain ⟨x136, hx137, hm138⟩ := bind1_some hb115
    clear hb115
    try dsimp only at hm138
    simp [E96, hlt101, hg113, hc71]
    refine CallAt.fn (ih hx137) ?_
    simp [E96, hlt101, hg113, hc71]
    apply hk135
    refine AWp.condK fun A139 B140 ga141 gb142 => ?_
    rcases ite_some hm138 with ⟨hc143, hm144⟩ | ⟨hc143, hm145⟩
    rotate_left
    · clear hm138
      simp [E96, hlt101, hg113, hc71, hc143]
      apply ga141
      refine AWp.sr [] fun K146 hk147 => ?_
      simp [E96, hlt101, hg113, hc71, hc143]
      apply hk147
      refine AWp.ret ?_
      apply nr131
      apply nr92
      obtain rfl := Option.some.inj hm145
      rw [ctlK_ret] at hk116
      obtain rfl := Option.some.inj hk116
      rw [sumK_inr] at hmB87
      try dsimp only at hmB87
      obtain rfl := Option.some.inj hmB87
      simp [retQ, E96, hlt101, hg113, hc71, hc143]
    clear hm138
    simp [E96, hlt101, hg113, hc71, hc143]
    apply gb142
    refine AWp.skip ?_
    apply nn128
    apply hk126
    refine AWp.region [] (by decide +kernel) ?_
    simp [E96, hlt101, hg113, hc71, hc143]
    obtain rfl := Option.some.inj hm144
    rw [ctlK_next] at hk116
    refine hK100 _ _ n93 (Nat.lt_succ_self _) ⟨(i94 + 1), (iadd .i64 j95 1), ?_, ⟨?_, ?_, ?_⟩, (iadd_idxJ hj97 (by omega) hok80), (by omega), hk116⟩ <;> first | rfl | simp [E96, hlt101, hg113, hc71, hc143]
theorem r_ref01_shape (T : Tabs) {H : Heap} {a0 : Ty} {r0 : Bool} {n : Nat} (hm : ref01_shape n a0 = some r0) : ACall Tryd.prog T 100 [Ty.av a0] H (AV.sc (.bool r0)) H := (rg_ref01_shape T n) hm

theorem enters101 : entersB Tryd.prog 101 = true := by kernel_rfl

theorem rg_ref01_size (T : Tabs) : ∀ (n : Nat), (∀ {H : Heap} {a0 : Ty} {r0 : Int} (hm : ref01_size n a0 = some r0), ACall Tryd.prog T 101 [Ty.av a0] H (AV.sc (.int .i64 r0)) H) := by
  intro n
  induction n with
  | zero =>
    skip
    all_goals
      intros
      rename_i hm
      cases hm
  | succ n ih =>
    intro H a0 r0 hm
    rw [ref01_size] at hm
    refine ACallP.intro (fn := Tryd.f101) Tryd.func101 rfl enters101 (Nat.le_of_ble_eq_true rfl) ?_
    refine AWp.sr [] fun K1 hk2 => ?_
    simp
    apply hk2
    refine AWp.sr [] fun K3 hk4 => ?_
    simp
    apply hk4
    refine AWp.seqK fun K5 hk6 => ?_
    refine AWp.sr [] fun K7 hk8 => ?_
    simp
    apply hk8
    obtain ⟨hok9, hm10⟩ := chk_some hm
    clear hm
    obtain ⟨F11, hF12, hm13⟩ := joinB_some hm10
    clear hm10
    try dsimp only at hm13
    obtain ⟨out14, hl15, hmB16⟩ := bind1_some hm13
    clear hm13
    refine AWp.blockK fun Q17 nn18 ne19 nx20 nr21 => ?_
    refine AWp.loopF (fun n22 fr h => ∃ (i23 : Nat) (j24 : Int) (v25 : Int), H = h ∧ (fr.env 3 = AV.sc (.int .i64 v25) ∧ fr.env 7 = AV.slice .frz (List.map Ty.av a0.args) ∧ fr.env 8 = AV.sc (.int .i64 (llen a0.args)) ∧ fr.env 9 = AV.sc (.int .i64 j24)) ∧ j24 = (i23 : Int) ∧ i23 + n22 = List.length a0.args ∧ forR F11 (List.drop i23 a0.args) i23 v25 = some out14) (List.length a0.args) ?_ ?_
    · refine ⟨0, 0, 1, ?_, ⟨?_, ?_, ?_, ?_⟩, rfl, (by simp), hl15⟩ <;> first | rfl | simp
    rintro n22 fr26 h26 ⟨i23, j24, v25, rfl, E26, hj27, hi28, hl15⟩ K29 hK30
    rcases n22 with _ | n22
    · have hlt31 := ilt_notJ (l := a0.args) hj27 (by omega)
      refine AWp.sr [] fun K32 hk33 => ?_
      simp [E26, hlt31]
      apply hk33
      refine AWp.seqK fun K34 hk35 => ?_
      refine AWp.condK fun A36 B37 ga38 gb39 => ?_
      simp [E26, hlt31]
      apply gb39
      refine AWp.exit ?_
      apply ne19
      rw [List.drop_eq_nil_of_le (by omega), forR_nil] at hl15
      obtain rfl := Option.some.inj hl15
      rw [sumK_inl] at hmB16
      try dsimp only at hmB16
      apply hk6
      refine AWp.sr [] fun K40 hk41 => ?_
      simp [E26, hlt31]
      apply hk41
      refine AWp.ret ?_
      obtain rfl := Option.some.inj hmB16
      simp [retQ, E26, hlt31]
    have hlt31 := ilt_ofJ (l := a0.args) hj27 (by omega)
    obtain ⟨x42, hdn22, hg43⟩ := drop_ltJ (l := a0.args) hj27 (by omega)
    rw [hdn22, forR_cons] at hl15
    obtain ⟨c44, hb45, hk46⟩ := bind1_some hl15
    clear hl15
    rw [hF12, ← hj27] at hb45
    try dsimp only at hb45
    refine AWp.sr [] fun K47 hk48 => ?_
    simp [E26, hlt31, hg43]
    apply hk48
    refine AWp.seqK fun K49 hk50 => ?_
    refine AWp.condK fun A51 B52 ga53 gb54 => ?_
    simp [E26, hlt31, hg43]
    apply ga53
    refine AWp.skip ?_
    apply hk50
    refine AWp.seqK fun K55 hk56 => ?_
    refine AWp.blockK fun Q57 nn58 ne59 nx60 nr61 => ?_
    refine AWp.sr [] fun K62 hk63 => ?_
    simp [E26, hlt31, hg43]
    apply hk63
    refine AWp.region [] (by decide +kernel) ?_
    obtain ⟨x64, hx65, hm66⟩ := bind1_some hb45
    clear hb45
    try dsimp only at hm66
    simp [E26, hlt31, hg43]
    refine CallAt.fn (ih hx65) ?_
    simp [E26, hlt31, hg43]
    apply nn58
    apply hk56
    refine AWp.region [] (by decide +kernel) ?_
    simp [E26, hlt31, hg43]
    obtain rfl := Option.some.inj hm66
    rw [ctlK_next] at hk46
    refine hK30 _ _ n22 (Nat.lt_succ_self _) ⟨(i23 + 1), (iadd .i64 j24 1), (iadd .i64 v25 x64), ?_, ⟨?_, ?_, ?_, ?_⟩, (iadd_idxJ hj27 (by omega) hok9), (by omega), hk46⟩ <;> first | rfl | simp [E26, hlt31, hg43]
theorem r_ref01_size (T : Tabs) {H : Heap} {a0 : Ty} {r0 : Int} {n : Nat} (hm : ref01_size n a0 = some r0) : ACall Tryd.prog T 101 [Ty.av a0] H (AV.sc (.int .i64 r0)) H := (rg_ref01_size T n) hm

theorem enters85 : entersB Tryd.prog 85 = true := by kernel_rfl

theorem r_ref01_Check (T : Tabs) {H : Heap} {a0 : Ty} {r0 : Int} (hm : ref01_Check a0 = some r0) : ACall Tryd.prog T 85 [Ty.av a0] H (AV.sc (.int .i64 r0)) H := by
  rw [ref01_Check] at hm
  refine ACallP.intro (fn := Tryd.f85) Tryd.func85 rfl enters85 (Nat.le_of_ble_eq_true rfl) ?_
  refine AWp.sr [] fun K1 hk2 => ?_
  simp
  apply hk2
  refine AWp.seqK fun K3 hk4 => ?_
  refine AWp.sr [] fun K5 hk6 => ?_
  obtain ⟨x7, hx8, hm9⟩ := bind1_some hm
  clear hm
  try dsimp only at hm9
  simp
  refine CallAt.fn (r_ref01_shape T hx8) ?_
  simp
  apply hk6
  refine AWp.condK fun A10 B11 ga12 gb13 => ?_
  rcases ite_some hm9 with ⟨hc14, hm15⟩ | ⟨hc14, hm16⟩
  rotate_left
  · clear hm9
    simp [hc14]
    apply ga12
    refine AWp.sr [] fun K17 hk18 => ?_
    simp [hc14]
    apply hk18
    refine AWp.ret ?_
    obtain rfl := Option.some.inj hm16
    simp [retQ, hc14]
  clear hm9
  simp [hc14]
  apply gb13
  refine AWp.skip ?_
  apply hk4
  refine AWp.seqK fun K19 hk20 => ?_
  refine AWp.sr [] fun K21 hk22 => ?_
  obtain ⟨x23, hx24, hm25⟩ := bind1_some hm15
  clear hm15
  try dsimp only at hm25
  simp [hc14]
  refine CallAt.fn (r_ref01_size T hx24) ?_
  simp [hc14]
  apply hk22
  refine AWp.condK fun A26 B27 ga28 gb29 => ?_
  rcases ite_some hm25 with ⟨hc30, hm31⟩ | ⟨hc30, hm32⟩
  · clear hm25
    simp [hc14, hc30]
    apply ga28
    refine AWp.sr [] fun K33 hk34 => ?_
    simp [hc14, hc30]
    apply hk34
    refine AWp.ret ?_
    obtain rfl := Option.some.inj hm31
    simp [retQ, hc14, hc30]
  clear hm25
  simp [hc14, hc30]
  apply gb29
  refine AWp.skip ?_
  apply hk20
  refine AWp.sr [] fun K35 hk36 => ?_
  simp [hc14, hc30]
  apply hk36
  refine AWp.ret ?_
  obtain rfl := Option.some.inj hm32
  simp [retQ, hc14, hc30]

theorem enters88 : entersB Tryd.prog 88 = true := by kernel_rfl

theorem rg_ref02_Shape (T : Tabs) : ∀ (n : Nat), (∀ {H : Heap} {a0 : Tm} {r0 : Bool} (hm : ref02_Shape n a0 = some r0), ACall Tryd.prog T 88 [Tm.av a0] H (AV.sc (.bool r0)) H) := by
  intro n
  induction n with
  | zero =>
    skip
    all_goals
      intros
      rename_i hm
      cases hm
  | succ n ih =>
    intro H a0 r0 hm
    rw [ref02_Shape] at hm
    refine ACallP.intro (fn := Tryd.f88) Tryd.func88 rfl enters88 (Nat.le_of_ble_eq_true rfl) ?_
    refine AWp.sr [] fun K1 hk2 => ?_
    simp
    apply hk2
    refine AWp.seqK fun K3 hk4 => ?_
    obtain ⟨j5, hj6, hm7⟩ := joinB_some hm
    clear hm
    refine AWp.seqP (fun fr h => ∃ (v8 : Bool) (g1_23 : Nat), H = h ∧ (fr.env 1 = AV.lptr 1 g1_23 0 ∧ fr.env 26 = AV.sc (.bool v8) ∧ fr.gen 1 = g1_23 ∧ fr.box 1 = some [AV.sc (.int .i64 a0.kind), AV.sc (.int .i64 a0.index), AV.sc (.int .i64 a0.typeF.kind), AV.slice .frz (List.map Ty.av a0.typeF.args), AV.slice .frz (List.map Tm.av a0.args)]) ∧ j5 v8 = some r0) (fun K9 hk10 => ?_) ?_
    · refine AWp.regionD [] false mixed (by decide +kernel) (by decide +kernel) ?_
      obtain ⟨x11, hx12, hm13⟩ := bind1_some hm7
      clear hm7
      try dsimp only at hm13
      simp
      refine CallAtD.fn (r_ref02_args T hx12) (by simp) ?_
      rcases ite_some hm13 with ⟨hc14, hm15⟩ | ⟨hc14, hm16⟩
      · clear hm13
        simp [hc14]
        refine hk10 _ _ ⟨true, 1, ?_, ⟨?_, ?_, ?_, ?_⟩, hm15⟩ <;> first | rfl | simp [hc14]
      clear hm13
      rcases ite_some hm16 with ⟨hc17, hm18⟩ | ⟨hc17, hm19⟩
      · clear hm16
        simp [hc14, hc17]
        refine hk10 _ _ ⟨true, 1, ?_, ⟨?_, ?_, ?_, ?_⟩, hm18⟩ <;> first | rfl | simp [hc14, hc17]
      clear hm16
      rcases ite_some hm19 with ⟨hc20, hm21⟩ | ⟨hc20, hm22⟩
      rotate_left
      · clear hm19
        simp [hc14, hc17, hc20]
        refine hk10 _ _ ⟨false, 1, ?_, ⟨?_, ?_, ?_, ?_⟩, hm22⟩ <;> first | rfl | simp [hc14, hc17, hc20]
      clear hm19
      simp [hc14, hc17, hc20]
      refine hk10 _ _ ⟨(ine a0.index 0), 1, ?_, ⟨?_, ?_, ?_, ?_⟩, hm21⟩ <;> first | rfl | simp [hc14, hc17, hc20]
    clear hm7
    rintro fr23 h23 ⟨v8, g1_23, rfl, E23, hm24⟩
    subst hj6
    refine AWp.condK fun A25 B26 ga27 gb28 => ?_
    rcases ite_some hm24 with ⟨hc29, hm30⟩ | ⟨hc29, hm31⟩
    · clear hm24
      simp [E23, hc29]
      apply ga27
      refine AWp.sr [] fun K32 hk33 => ?_
      simp [E23, hc29]
      apply hk33
      refine AWp.ret ?_
      obtain rfl := Option.some.inj hm30
      simp [retQ, E23, hc29]
    clear hm24
    simp [E23, hc29]
    apply gb28
    refine AWp.skip ?_
    apply hk4
    obtain ⟨j34, hj35, hm36⟩ := joinB_some hm31
    clear hm31
    refine AWp.seqP (fun fr h => ∃ (g1_98 : Nat), H = h ∧ (fr.env 1 = AV.lptr 1 g1_98 0 ∧ fr.gen 1 = g1_98 ∧ fr.box 1 = some [AV.sc (.int .i64 a0.kind), AV.sc (.int .i64 a0.index), AV.sc (.int .i64 a0.typeF.kind), AV.slice .frz (List.map Ty.av a0.typeF.args), AV.slice .frz (List.map Tm.av a0.args)]) ∧ j34 = some r0) (fun K37 hk38 => ?_) ?_
    · refine AWp.sr [] fun K39 hk40 => ?_
      simp [E23, hc29]
      apply hk40
      refine AWp.blockK fun Q41 nn42 ne43 nx44 nr45 => ?_
      refine AWp.seqP (fun fr h => ∃ (g1_62 : Nat), H = h ∧ (fr.env 1 = AV.lptr 1 g1_62 0 ∧ fr.env 33 = AV.sc (.bool (sel (ieq a0.kind 2) true (sel (ieq a0.kind 6) true (ieq a0.kind 9)))) ∧ fr.gen 1 = g1_62 ∧ fr.box 1 = some [AV.sc (.int .i64 a0.kind), AV.sc (.int .i64 a0.index), AV.sc (.int .i64 a0.typeF.kind), AV.slice .frz (List.map Ty.av a0.typeF.args), AV.slice .frz (List.map Tm.av a0.args)])) (fun K46 hk47 => ?_) ?_
      · refine AWp.sr [] fun K48 hk49 => ?_
        simp [E23, hc29]
        apply hk49
        refine AWp.condK fun A50 B51 ga52 gb53 => ?_
        rcases Bool.eq_false_or_eq_true (ieq a0.kind 2) with hc54 | hc54
        · simp [E23, hc29, hc54]
          apply ga52
          refine AWp.skip ?_
          refine hk47 _ _ ⟨g1_23, ?_, ⟨?_, ?_, ?_, ?_⟩⟩ <;> first | rfl | simp [E23, hc29, hc54]
        simp [E23, hc29, hc54]
        apply gb53
        refine AWp.sr [] fun K55 hk56 => ?_
        simp [E23, hc29, hc54]
        apply hk56
        refine AWp.condK fun A57 B58 ga59 gb60 => ?_
        rcases Bool.eq_false_or_eq_true (ieq a0.kind 6) with hc61 | hc61
        · simp [E23, hc29, hc54, hc61]
          apply ga59
          refine AWp.skip ?_
          refine hk47 _ _ ⟨g1_23, ?_, ⟨?_, ?_, ?_, ?_⟩⟩ <;> first | rfl | simp [E23, hc29, hc54, hc61]
        simp [E23, hc29, hc54, hc61]
        apply gb60
        refine AWp.region [] (by decide +kernel) ?_
        simp [E23, hc29, hc54, hc61]
        refine hk47 _ _ ⟨g1_23, ?_, ⟨?_, ?_, ?_, ?_⟩⟩ <;> first | rfl | simp [E23, hc29, hc54, hc61]
      rintro fr62 h62 ⟨g1_62, rfl, E62⟩
      refine AWp.condK fun A63 B64 ga65 gb66 => ?_
      rcases ite_some hm36 with ⟨hc67, hm68⟩ | ⟨hc67, hm69⟩
      rotate_left
      · clear hm36
        simp [E62, hc29, hc67]
        apply gb66
        refine AWp.sr [] fun K70 hk71 => ?_
        obtain ⟨x72, hx73, hm74⟩ := bind1_some hm69
        clear hm69
        try dsimp only at hm74
        simp [E62, hc29, hc67]
        refine CallAt.fn (r_ref01_Zero T hx73) ?_
        simp [E62, hc29, hc67]
        apply hk71
        refine AWp.condK fun A75 B76 ga77 gb78 => ?_
        rcases ite_some hm74 with ⟨hc79, hm80⟩ | ⟨hc79, hm81⟩
        · clear hm74
          simp [E62, hc29, hc67, hc79]
          apply gb78
          refine AWp.skip ?_
          apply nn42
          refine hk38 _ _ ⟨g1_62, ?_, ⟨?_, ?_, ?_⟩, hm80⟩ <;> first | rfl | simp [E62, hc29, hc67, hc79]
        clear hm74
        simp [E62, hc29, hc67, hc79]
        apply ga77
        refine AWp.sr [] fun K82 hk83 => ?_
        simp [E62, hc29, hc67, hc79]
        apply hk83
        refine AWp.ret ?_
        apply nr45
        obtain rfl := Option.some.inj hm81
        simp [retQ, E62, hc29, hc67, hc79]
      clear hm36
      simp [E62, hc29, hc67]
      apply ga65
      refine AWp.sr [] fun K84 hk85 => ?_
      obtain ⟨x86, hx87, hm88⟩ := bind1_some hm68
      clear hm68
      try dsimp only at hm88
      simp [E62, hc29, hc67]
      refine CallAt.fn (r_ref01_Check T hx87) ?_
      simp [E62, hc29, hc67]
      apply hk85
      refine AWp.condK fun A89 B90 ga91 gb92 => ?_
      rcases ite_some hm88 with ⟨hc93, hm94⟩ | ⟨hc93, hm95⟩
      rotate_left
      · clear hm88
        simp [E62, hc29, hc67, hc93]
        apply gb92
        refine AWp.skip ?_
        apply nn42
        refine hk38 _ _ ⟨g1_62, ?_, ⟨?_, ?_, ?_⟩, hm95⟩ <;> first | rfl | simp [E62, hc29, hc67, hc93]
      clear hm88
      simp [E62, hc29, hc67, hc93]
      apply ga91
      refine AWp.sr [] fun K96 hk97 => ?_
      simp [E62, hc29, hc67, hc93]
      apply hk97
      refine AWp.ret ?_
      apply nr45
      obtain rfl := Option.some.inj hm94
      simp [retQ, E62, hc29, hc67, hc93]
    clear hm36
    rintro fr98 h98 ⟨g1_98, rfl, E98, hm99⟩
    subst hj35
    refine AWp.seqK fun K100 hk101 => ?_
    refine AWp.sr [] fun K102 hk103 => ?_
    simp [E98, hc29]
    apply hk103
    obtain ⟨hok104, hm105⟩ := chk_some hm99
    clear hm99
    obtain ⟨F106, hF107, hm108⟩ := joinB_some hm105
    clear hm105
    try dsimp only at hm108
    obtain ⟨out109, hl110, hmB111⟩ := bind1_some hm108
    clear hm108
    refine AWp.blockK fun Q112 nn113 ne114 nx115 nr116 => ?_
    refine AWp.loopF (fun n117 fr h => ∃ (i118 : Nat) (j119 : Int), H = h ∧ (fr.env 42 = AV.slice .frz (List.map Tm.av a0.args) ∧ fr.env 43 = AV.sc (.int .i64 (llen a0.args)) ∧ fr.env 44 = AV.sc (.int .i64 j119)) ∧ j119 = (i118 : Int) ∧ i118 + n117 = List.length a0.args ∧ forR F106 (List.drop i118 a0.args) i118 () = some out109) (List.length a0.args) ?_ ?_
    · refine ⟨0, 0, ?_, ⟨?_, ?_, ?_⟩, rfl, (by simp), hl110⟩ <;> first | rfl | simp [E98, hc29]
    rintro n117 fr120 h120 ⟨i118, j119, rfl, E120, hj121, hi122, hl110⟩ K123 hK124
    rcases n117 with _ | n117
    · have hlt125 := ilt_notJ (l := a0.args) hj121 (by omega)
      refine AWp.sr [] fun K126 hk127 => ?_
      simp [E120, hlt125, hc29]
      apply hk127
      refine AWp.seqK fun K128 hk129 => ?_
      refine AWp.condK fun A130 B131 ga132 gb133 => ?_
      simp [E120, hlt125, hc29]
      apply gb133
      refine AWp.exit ?_
      apply ne114
      rw [List.drop_eq_nil_of_le (by omega), forR_nil] at hl110
      obtain rfl := Option.some.inj hl110
      rw [sumK_inl] at hmB111
      try dsimp only at hmB111
      apply hk101
      refine AWp.sr [] fun K134 hk135 => ?_
      simp [E120, hlt125, hc29]
      apply hk135
      refine AWp.ret ?_
      obtain rfl := Option.some.inj hmB111
      simp [retQ, E120, hlt125, hc29]
    have hlt125 := ilt_ofJ (l := a0.args) hj121 (by omega)
    obtain ⟨x136, hdn117, hg137⟩ := drop_ltJ (l := a0.args) hj121 (by omega)
    rw [hdn117, forR_cons] at hl110
    obtain ⟨c138, hb139, hk140⟩ := bind1_some hl110
    clear hl110
    rw [hF107, ← hj121] at hb139
    try dsimp only at hb139
    refine AWp.sr [] fun K141 hk142 => ?_
    simp [E120, hlt125, hg137, hc29]
    apply hk142
    refine AWp.seqK fun K143 hk144 => ?_
    refine AWp.condK fun A145 B146 ga147 gb148 => ?_
    simp [E120, hlt125, hg137, hc29]
    apply ga147
    refine AWp.skip ?_
    apply hk144
    refine AWp.seqK fun K149 hk150 => ?_
    refine AWp.blockK fun Q151 nn152 ne153 nx154 nr155 => ?_
    refine AWp.sr [] fun K156 hk157 => ?_
    simp [E120, hlt125, hg137, hc29]
    apply hk157
    refine AWp.sr [] fun K158 hk159 => ?_
    obtain ⟨x160, hx161, hm162⟩ := bind1_some hb139
    clear hb139
    try dsimp only at hm162
    simp [E120, hlt125, hg137, hc29]
    refine CallAt.fn (ih hx161) ?_
    simp [E120, hlt125, hg137, hc29]
    apply hk159
    refine AWp.condK fun A163 B164 ga165 gb166 => ?_
    rcases ite_some hm162 with ⟨hc167, hm168⟩ | ⟨hc167, hm169⟩
    rotate_left
    · clear hm162
      simp [E120, hlt125, hg137, hc29, hc167]
      apply ga165
      refine AWp.sr [] fun K170 hk171 => ?_
      simp [E120, hlt125, hg137, hc29, hc167]
      apply hk171
      refine AWp.ret ?_
      apply nr155
      apply nr116
      obtain rfl := Option.some.inj hm169
      rw [ctlK_ret] at hk140
      obtain rfl := Option.some.inj hk140
      rw [sumK_inr] at hmB111
      try dsimp only at hmB111
      obtain rfl := Option.some.inj hmB111
      simp [retQ, E120, hlt125, hg137, hc29, hc167]
    clear hm162
    simp [E120, hlt125, hg137, hc29, hc167]
    apply gb166
    refine AWp.skip ?_
    apply nn152
    apply hk150
    refine AWp.region [] (by decide +kernel) ?_
    simp [E120, hlt125, hg137, hc29, hc167]
    obtain rfl := Option.some.inj hm168
    rw [ctlK_next] at hk140
    refine hK124 _ _ n117 (Nat.lt_succ_self _) ⟨(i118 + 1), (iadd .i64 j119 1), ?_, ⟨?_, ?_, ?_⟩, (iadd_idxJ hj121 (by omega) hok104), (by omega), hk140⟩ <;> first | rfl | simp [E120, hlt125, hg137, hc29, hc167]
theorem r_ref02_Shape (T : Tabs) {H : Heap} {a0 : Tm} {r0 : Bool} {n : Nat} (hm : ref02_Shape n a0 = some r0) : ACall Tryd.prog T 88 [Tm.av a0] H (AV.sc (.bool r0)) H := (rg_ref02_Shape T n) hm

theorem enters98 : entersB Tryd.prog 98 = true := by kernel_rfl

theorem r_ref07_quantifier (T : Tabs) {H : Heap} {a0 : Int} {r0 : Bool} (hm : ref07_quantifier a0 = some r0) : ACall Tryd.prog T 98 [AV.sc (.int .i64 a0)] H (AV.sc (.bool r0)) H := by
  rw [ref07_quantifier] at hm
  refine ACallP.intro (fn := Tryd.f98) Tryd.func98 rfl enters98 (Nat.le_of_ble_eq_true rfl) ?_
  refine AWp.sr [] fun K1 hk2 => ?_
  simp
  apply hk2
  refine AWp.seqP (fun fr h => H = h ∧ fr.env 2 = AV.sc (.bool (sel (ieq a0 4) true (sel (ieq a0 5) true (sel (ieq a0 6) true (ieq a0 7)))))) (fun K3 hk4 => ?_) ?_
  rotate_left
  · rintro fr5 h5 ⟨rfl, E5⟩
    refine AWp.ret ?_
    obtain rfl := Option.some.inj hm
    simp [retQ, E5]
  refine AWp.region [] (by decide +kernel) ?_
  rcases Bool.eq_false_or_eq_true (ieq a0 4) with hc6 | hc6
  · simp [hc6]
    refine hk4 _ _ ⟨?_, ?_⟩ <;> first | rfl | simp [hc6]
  rcases Bool.eq_false_or_eq_true (ieq a0 5) with hc7 | hc7
  · simp [hc6, hc7]
    refine hk4 _ _ ⟨?_, ?_⟩ <;> first | rfl | simp [hc6, hc7]
  rcases Bool.eq_false_or_eq_true (ieq a0 6) with hc8 | hc8
  · simp [hc6, hc7, hc8]
    refine hk4 _ _ ⟨?_, ?_⟩ <;> first | rfl | simp [hc6, hc7, hc8]
  simp [hc6, hc7, hc8]
  refine hk4 _ _ ⟨?_, ?_⟩ <;> first | rfl | simp [hc6, hc7, hc8]

theorem enters81 : entersB Tryd.prog 81 = true := by kernel_rfl

theorem rg_ref07_Shape (T : Tabs) : ∀ (n : Nat), (∀ {H : Heap} {a0 : Fm} {r0 : Bool} (hm : ref07_Shape n a0 = some r0), ACall Tryd.prog T 81 [Fm.av a0] H (AV.sc (.bool r0)) H) := by
  intro n
  induction n with
  | zero =>
    skip
    all_goals
      intros
      rename_i hm
      cases hm
  | succ n ih =>
    intro H a0 r0 hm
    rw [ref07_Shape] at hm
    refine ACallP.intro (fn := Tryd.f81) Tryd.func81 rfl enters81 (Nat.le_of_ble_eq_true rfl) ?_
    refine AWp.sr [] fun K1 hk2 => ?_
    simp
    apply hk2
    refine AWp.seqK fun K3 hk4 => ?_
    refine AWp.blockK fun Q5 nn6 ne7 nx8 nr9 => ?_
    refine AWp.sr [] fun K10 hk11 => ?_
    simp
    apply hk11
    refine AWp.condK fun A12 B13 ga14 gb15 => ?_
    rcases ite_some hm with ⟨hc16, hm17⟩ | ⟨hc16, hm18⟩
    · clear hm
      simp [hc16]
      apply ga14
      obtain ⟨j19, hj20, hm21⟩ := joinB_some hm17
      clear hm17
      refine AWp.seqP (fun fr h => ∃ (v22 : Bool), H = h ∧ fr.env 2 = AV.sc (.bool v22) ∧ j19 v22 = some r0) (fun K23 hk24 => ?_) ?_
      rotate_left
      · clear hm21
        rintro fr25 h25 ⟨v22, rfl, E25, hm26⟩
        subst hj20
        refine AWp.ret ?_
        apply nr9
        obtain rfl := Option.some.inj hm26
        simp [retQ, E25, hc16]
      refine AWp.region [] (by decide +kernel) ?_
      rcases ite_some hm21 with ⟨hc27, hm28⟩ | ⟨hc27, hm29⟩
      rotate_left
      · clear hm21
        simp [hc16, hc27]
        refine hk24 _ _ ⟨false, ?_, ?_, hm29⟩ <;> first | rfl | simp [hc16, hc27]
      clear hm21
      obtain ⟨x30, hx31, hm32⟩ := bind1_some hm28
      clear hm28
      try dsimp only at hm32
      simp [hc16, hc27]
      refine CallAt.fn (r_ref01_Zero T hx31) ?_
      rcases ite_some hm32 with ⟨hc33, hm34⟩ | ⟨hc33, hm35⟩
      rotate_left
      · clear hm32
        simp [hc16, hc27, hc33]
        refine hk24 _ _ ⟨false, ?_, ?_, hm35⟩ <;> first | rfl | simp [hc16, hc27, hc33]
      clear hm32
      rcases ite_some hm34 with ⟨hc36, hm37⟩ | ⟨hc36, hm38⟩
      rotate_left
      · clear hm34
        simp [hc16, hc27, hc33, hc36]
        refine hk24 _ _ ⟨false, ?_, ?_, hm38⟩ <;> first | rfl | simp [hc16, hc27, hc33, hc36]
      clear hm34
      obtain ⟨x39, hx40, hm41⟩ := bind1_some hm37
      clear hm37
      try dsimp only at hm41
      obtain ⟨x42, hx43, hm44⟩ := bind1_some hm41
      clear hm41
      try dsimp only at hm44
      simp [hx40, hc16, hc27, hc33, hc36]
      refine CallAt.fn (r_ref02_Shape T hx43) ?_
      rcases ite_some hm44 with ⟨hc45, hm46⟩ | ⟨hc45, hm47⟩
      rotate_left
      · clear hm44
        simp [hx40, hc16, hc27, hc33, hc36, hc45]
        refine hk24 _ _ ⟨false, ?_, ?_, hm47⟩ <;> first | rfl | simp [hx40, hc16, hc27, hc33, hc36, hc45]
      clear hm44
      obtain ⟨x48, hx49, hm50⟩ := bind1_some hm46
      clear hm46
      try dsimp only at hm50
      obtain ⟨x51, hx52, hm53⟩ := bind1_some hm50
      clear hm50
      try dsimp only at hm53
      simp [hx40, hx49, hc16, hc27, hc33, hc36, hc45]
      refine CallAt.fn (r_ref02_Shape T hx52) ?_
      simp [hx40, hx49, hc16, hc27, hc33, hc36, hc45]
      refine hk24 _ _ ⟨x51, ?_, ?_, hm53⟩ <;> first | rfl | simp [hx40, hx49, hc16, hc27, hc33, hc36, hc45]
    clear hm
    simp [hc16]
    apply gb15
    refine AWp.seqP (fun fr h => ∃ (g1_57 : Nat), H = h ∧ (fr.env 1 = AV.lptr 1 g1_57 0 ∧ fr.env 36 = AV.sc (.bool (sel (ieq a0.kind 2) true (ieq a0.kind 3))) ∧ fr.gen 1 = g1_57 ∧ fr.box 1 = some [AV.sc (.int .i64 a0.kind), AV.sc (.int .i64 a0.typeF.kind), AV.slice .frz (List.map Ty.av a0.typeF.args), AV.slice .frz (List.map Tm.av a0.terms), AV.slice .frz (List.map Fm.av a0.args)])) (fun K54 hk55 => ?_) ?_
    · refine AWp.region [] (by decide +kernel) ?_
      rcases Bool.eq_false_or_eq_true (ieq a0.kind 2) with hc56 | hc56
      · simp [hc16, hc56]
        refine hk55 _ _ ⟨1, ?_, ⟨?_, ?_, ?_, ?_⟩⟩ <;> first | rfl | simp [hc16, hc56]
      simp [hc16, hc56]
      refine hk55 _ _ ⟨1, ?_, ⟨?_, ?_, ?_, ?_⟩⟩ <;> first | rfl | simp [hc16, hc56]
    rintro fr57 h57 ⟨g1_57, rfl, E57⟩
    refine AWp.condK fun A58 B59 ga60 gb61 => ?_
    rcases ite_some hm18 with ⟨hc62, hm63⟩ | ⟨hc62, hm64⟩
    · clear hm18
      simp [E57, hc16, hc62]
      apply ga60
      obtain ⟨j65, hj66, hm67⟩ := joinB_some hm63
      clear hm63
      refine AWp.seqP (fun fr h => ∃ (v68 : Bool), H = h ∧ fr.env 2 = AV.sc (.bool v68) ∧ j65 v68 = some r0) (fun K69 hk70 => ?_) ?_
      rotate_left
      · clear hm67
        rintro fr71 h71 ⟨v68, rfl, E71, hm72⟩
        subst hj66
        refine AWp.ret ?_
        apply nr9
        obtain rfl := Option.some.inj hm72
        simp [retQ, E71, hc16, hc62]
      refine AWp.region [] (by decide +kernel) ?_
      rcases ite_some hm67 with ⟨hc73, hm74⟩ | ⟨hc73, hm75⟩
      rotate_left
      · clear hm67
        simp [E57, hc16, hc62, hc73]
        refine hk70 _ _ ⟨false, ?_, ?_, hm75⟩ <;> first | rfl | simp [E57, hc16, hc62, hc73]
      clear hm67
      obtain ⟨x76, hx77, hm78⟩ := bind1_some hm74
      clear hm74
      try dsimp only at hm78
      simp [E57, hc16, hc62, hc73]
      refine CallAt.fn (r_ref01_Zero T hx77) ?_
      rcases ite_some hm78 with ⟨hc79, hm80⟩ | ⟨hc79, hm81⟩
      rotate_left
      · clear hm78
        simp [E57, hc16, hc62, hc73, hc79]
        refine hk70 _ _ ⟨false, ?_, ?_, hm81⟩ <;> first | rfl | simp [E57, hc16, hc62, hc73, hc79]
      clear hm78
      rcases ite_some hm80 with ⟨hc82, hm83⟩ | ⟨hc82, hm84⟩
      rotate_left
      · clear hm80
        simp [E57, hc16, hc62, hc73, hc79, hc82]
        refine hk70 _ _ ⟨false, ?_, ?_, hm84⟩ <;> first | rfl | simp [E57, hc16, hc62, hc73, hc79, hc82]
      clear hm80
      obtain ⟨x85, hx86, hm87⟩ := bind1_some hm83
      clear hm83
      try dsimp only at hm87
      obtain ⟨x88, hx89, hm90⟩ := bind1_some hm87
      clear hm87
      try dsimp only at hm90
      simp [E57, hx86, hc16, hc62, hc73, hc79, hc82]
      refine CallAt.fn (ih hx89) ?_
      rcases ite_some hm90 with ⟨hc91, hm92⟩ | ⟨hc91, hm93⟩
      rotate_left
      · clear hm90
        simp [E57, hx86, hc16, hc62, hc73, hc79, hc82, hc91]
        refine hk70 _ _ ⟨false, ?_, ?_, hm93⟩ <;> first | rfl | simp [E57, hx86, hc16, hc62, hc73, hc79, hc82, hc91]
      clear hm90
      obtain ⟨x94, hx95, hm96⟩ := bind1_some hm92
      clear hm92
      try dsimp only at hm96
      obtain ⟨x97, hx98, hm99⟩ := bind1_some hm96
      clear hm96
      try dsimp only at hm99
      simp [E57, hx86, hx95, hc16, hc62, hc73, hc79, hc82, hc91]
      refine CallAt.fn (ih hx98) ?_
      simp [E57, hx86, hx95, hc16, hc62, hc73, hc79, hc82, hc91]
      refine hk70 _ _ ⟨x97, ?_, ?_, hm99⟩ <;> first | rfl | simp [E57, hx86, hx95, hc16, hc62, hc73, hc79, hc82, hc91]
    clear hm18
    simp [E57, hc16, hc62]
    apply gb61
    refine AWp.sr [] fun K100 hk101 => ?_
    obtain ⟨x102, hx103, hm104⟩ := bind1_some hm64
    clear hm64
    try dsimp only at hm104
    simp [E57, hc16, hc62]
    refine CallAt.fn (r_ref07_quantifier T hx103) ?_
    simp [E57, hc16, hc62]
    apply hk101
    refine AWp.condK fun A105 B106 ga107 gb108 => ?_
    rcases ite_some hm104 with ⟨hc109, hm110⟩ | ⟨hc109, hm111⟩
    rotate_left
    · clear hm104
      simp [E57, hc16, hc62, hc109]
      apply gb108
      refine AWp.skip ?_
      apply nn6
      apply hk4
      refine AWp.sr [] fun K112 hk113 => ?_
      simp [E57, hc16, hc62, hc109]
      apply hk113
      refine AWp.ret ?_
      obtain rfl := Option.some.inj hm111
      simp [retQ, E57, hc16, hc62, hc109]
    clear hm104
    simp [E57, hc16, hc62, hc109]
    apply ga107
    obtain ⟨j114, hj115, hm116⟩ := joinB_some hm110
    clear hm110
    refine AWp.seqP (fun fr h => ∃ (v117 : Bool), H = h ∧ fr.env 2 = AV.sc (.bool v117) ∧ j114 v117 = some r0) (fun K118 hk119 => ?_) ?_
    rotate_left
    · clear hm116
      rintro fr120 h120 ⟨v117, rfl, E120, hm121⟩
      subst hj115
      refine AWp.ret ?_
      apply nr9
      obtain rfl := Option.some.inj hm121
      simp [retQ, E120, hc16, hc62, hc109]
    refine AWp.region [] (by decide +kernel) ?_
    rcases ite_some hm116 with ⟨hc122, hm123⟩ | ⟨hc122, hm124⟩
    rotate_left
    · clear hm116
      simp [E57, hc16, hc62, hc109, hc122]
      refine hk119 _ _ ⟨false, ?_, ?_, hm124⟩ <;> first | rfl | simp [E57, hc16, hc62, hc109, hc122]
    clear hm116
    obtain ⟨x125, hx126, hm127⟩ := bind1_some hm123
    clear hm123
    try dsimp only at hm127
    simp [E57, hc16, hc62, hc109, hc122]
    refine CallAt.fn (r_ref01_Check T hx126) ?_
    rcases ite_some hm127 with ⟨hc128, hm129⟩ | ⟨hc128, hm130⟩
    rotate_left
    · clear hm127
      simp [E57, hc16, hc62, hc109, hc122, hc128]
      refine hk119 _ _ ⟨false, ?_, ?_, hm130⟩ <;> first | rfl | simp [E57, hc16, hc62, hc109, hc122, hc128]
    clear hm127
    rcases ite_some hm129 with ⟨hc131, hm132⟩ | ⟨hc131, hm133⟩
    rotate_left
    · clear hm129
      simp [E57, hc16, hc62, hc109, hc122, hc128, hc131]
      refine hk119 _ _ ⟨false, ?_, ?_, hm133⟩ <;> first | rfl | simp [E57, hc16, hc62, hc109, hc122, hc128, hc131]
    clear hm129
    obtain ⟨x134, hx135, hm136⟩ := bind1_some hm132
    clear hm132
    try dsimp only at hm136
    obtain ⟨x137, hx138, hm139⟩ := bind1_some hm136
    clear hm136
    try dsimp only at hm139
    simp [E57, hx135, hc16, hc62, hc109, hc122, hc128, hc131]
    refine CallAt.fn (ih hx138) ?_
    simp [E57, hx135, hc16, hc62, hc109, hc122, hc128, hc131]
    refine hk119 _ _ ⟨x137, ?_, ?_, hm139⟩ <;> first | rfl | simp [E57, hx135, hc16, hc62, hc109, hc122, hc128, hc131]
theorem r_ref07_Shape (T : Tabs) {H : Heap} {a0 : Fm} {r0 : Bool} {n : Nat} (hm : ref07_Shape n a0 = some r0) : ACall Tryd.prog T 81 [Fm.av a0] H (AV.sc (.bool r0)) H := (rg_ref07_Shape T n) hm

end Go.Proofs.YtdihelfnjememaaDoor
