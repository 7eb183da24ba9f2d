/- The program's functions do what the models say. -/
import Derived.Test.YtdihelfnjememaaDoorCR03
import Derived.Test.YtdihelfnjememaaDoorCM
set_option maxRecDepth 20000
set_option maxHeartbeats 4000000
set_option linter.unusedSimpArgs false
set_option linter.unusedVariables false
namespace Go.Proofs.YtdihelfnjememaaDoor
open Go Go.Abs Go.Mdl

theorem enters55 : entersB Tryd.prog 55 = true := by kernel_rfl

theorem r_mk_Mod (T : Tabs) {H : Heap} {a0 : Int} {a1 : Int} {r0 : Int} (hm : mk_Mod a0 a1 = some r0) : ACall Tryd.prog T 55 [AV.sc (.int .i64 a0), AV.sc (.int .i64 a1)] H (AV.sc (.int .i64 r0)) H := by
  rw [mk_Mod] at hm
  refine ACallP.intro (fn := Tryd.f55) Tryd.func55 rfl enters55 (Nat.le_of_ble_eq_true rfl) ?_
  refine AWp.sr [] fun K1 hk2 => ?_
  simp
  apply hk2
  refine AWp.sr [] fun K3 hk4 => ?_
  obtain ⟨hx5, hm6⟩ := chk_some hm
  clear hm
  obtain ⟨hx7, hm8⟩ := chk_some hm6
  clear hm6
  simp [hx5, hx7]
  apply hk4
  refine AWp.ret ?_
  obtain rfl := Option.some.inj hm8
  simp [retQ, hx5, hx7]

theorem enters28 : entersB Tryd.prog 28 = true := by kernel_rfl

theorem r_mk_Deck_Next (T : Tabs) {H : Heap} {a0 : Smk_Deck} {a1 : Int} {r0 : Int} {rd : Smk_Deck} {o : Nat} (ho : o < List.length H) (hm : mk_Deck_Next a0 a1 = some (r0, rd)) : ACall Tryd.prog T 28 [AV.gptr o 0, AV.sc (.int .i64 a1)] (hset H o [AV.slice .frz (List.map (fun n => AV.sc (Value.int .i64 n)) a0.l), AV.sc (.int .i64 a0.atF)]) (AV.sc (.int .i64 r0)) (hset H o [AV.slice .frz (List.map (fun n => AV.sc (Value.int .i64 n)) rd.l), AV.sc (.int .i64 rd.atF)]) := by
  rw [mk_Deck_Next] at hm
  have hget : ∀ c, (hset H o c)[o]? = some c := fun c => by simp [hset, ho]
  refine ACallP.intro (fn := Tryd.f28) Tryd.func28 rfl enters28 (Nat.le_of_ble_eq_true rfl) ?_
  refine AWp.sr [] fun K1 hk2 => ?_
  simp [hget]
  apply hk2
  refine AWp.seqK fun K3 hk4 => ?_
  refine AWp.seqP (fun fr h => hset H o [AV.slice .frz (List.map (fun n => AV.sc (Value.int .i64 n)) a0.l), AV.sc (.int .i64 a0.atF)] = h ∧ (fr.env 0 = AV.gptr o 0 ∧ fr.env 1 = AV.sc (.int .i64 a1) ∧ fr.env 19 = AV.sc (.bool (sel (ilt a1 1) true (ige a0.atF (llen a0.l)))))) (fun K5 hk6 => ?_) ?_
  · refine AWp.regionD [] true mixed (by decide +kernel) (by decide +kernel) ?_
    rcases Bool.eq_false_or_eq_true (ilt a1 1) with hc7 | hc7
    · simp [hget, hc7]
      refine hk6 _ _ ⟨?_, ⟨?_, ?_, ?_⟩⟩ <;> first | rfl | simp [hget, hc7]
    simp [hget, hc7]
    refine hk6 _ _ ⟨?_, ⟨?_, ?_, ?_⟩⟩ <;> first | rfl | simp [hget, hc7]
  rintro fr8 h8 ⟨rfl, E8⟩
  refine AWp.condK fun A9 B10 ga11 gb12 => ?_
  rcases ite_some hm with ⟨hc13, hm14⟩ | ⟨hc13, hm15⟩
  · clear hm
    simp [E8, hget, hc13]
    apply ga11
    refine AWp.sr [] fun K16 hk17 => ?_
    simp [E8, hget, hc13]
    apply hk17
    refine AWp.ret ?_
    simp only [Option.some.injEq, Prod.mk.injEq] at hm14
    obtain ⟨rfl, rfl⟩ := hm14
    simp [retQ, E8, hget, hc13]
  clear hm
  simp [E8, hget, hc13]
  apply gb12
  refine AWp.skip ?_
  apply hk4
  refine AWp.seqK fun K18 hk19 => ?_
  refine AWp.regionD [] true mixed (by decide +kernel) (by decide +kernel) ?_
  obtain ⟨x20, hx21, hm22⟩ := bind1_some hm15
  clear hm15
  try dsimp only at hm22
  simp [E8, hget, hx21, hc13]
  apply hk19
  refine AWp.sr [] fun K23 hk24 => ?_
  simp [E8, hget, hx21, hc13]
  apply hk24
  refine AWp.sr [] fun K25 hk26 => ?_
  obtain ⟨x27, hx28, hm29⟩ := bind1_some hm22
  clear hm22
  try dsimp only at hm29
  simp [E8, hget, hx21, hc13]
  refine CallAt.fn (r_mk_Mod T hx28) ?_
  simp [E8, hget, hx21, hc13]
  apply hk26
  refine AWp.ret ?_
  simp only [Option.some.injEq, Prod.mk.injEq] at hm29
  obtain ⟨rfl, rfl⟩ := hm29
  simp [retQ, E8, hget, hx21, hc13]

theorem enters42 : entersB Tryd.prog 42 = true := by kernel_rfl

theorem r_ref01_Nat (T : Tabs) {H : Heap}  {r0 : Ty} (hm : ref01_Nat = some r0) : ACall Tryd.prog T 42 [] H (Ty.av r0) H := by
  rw [ref01_Nat] at hm
  refine ACallP.intro (fn := Tryd.f42) Tryd.func42 rfl enters42 (Nat.le_of_ble_eq_true rfl) ?_
  refine AWp.sr [] fun K1 hk2 => ?_
  simp
  apply hk2
  refine AWp.sr [] fun K3 hk4 => ?_
  simp
  apply hk4
  refine AWp.ret ?_
  obtain rfl := Option.some.inj hm
  simp [retQ]

theorem enters67 : entersB Tryd.prog 67 = true := by kernel_rfl

theorem r_ref01_List (T : Tabs) {H : Heap}  {r0 : Ty} (hm : ref01_List = some r0) : ACall Tryd.prog T 67 [] H (Ty.av r0) H := by
  rw [ref01_List] at hm
  refine ACallP.intro (fn := Tryd.f67) Tryd.func67 rfl enters67 (Nat.le_of_ble_eq_true rfl) ?_
  refine AWp.sr [] fun K1 hk2 => ?_
  simp
  apply hk2
  refine AWp.sr [] fun K3 hk4 => ?_
  simp
  apply hk4
  refine AWp.ret ?_
  obtain rfl := Option.some.inj hm
  simp [retQ]

theorem enters72 : entersB Tryd.prog 72 = true := by kernel_rfl

theorem r_ref01_Unit (T : Tabs) {H : Heap}  {r0 : Ty} (hm : ref01_Unit = some r0) : ACall Tryd.prog T 72 [] H (Ty.av r0) H := by
  rw [ref01_Unit] at hm
  refine ACallP.intro (fn := Tryd.f72) Tryd.func72 rfl enters72 (Nat.le_of_ble_eq_true rfl) ?_
  refine AWp.sr [] fun K1 hk2 => ?_
  simp
  apply hk2
  refine AWp.sr [] fun K3 hk4 => ?_
  simp
  apply hk4
  refine AWp.ret ?_
  obtain rfl := Option.some.inj hm
  simp [retQ]

theorem enters73 : entersB Tryd.prog 73 = true := by kernel_rfl

theorem r_ref01_Two (T : Tabs) {H : Heap} {a0 : Ty} {a1 : Ty} {r0 : Ty} (hm : ref01_Two a0 a1 = some r0) : ACall Tryd.prog T 73 [Ty.av a0, Ty.av a1] H (Ty.av r0) H := by
  rw [ref01_Two] at hm
  refine ACallP.intro (fn := Tryd.f73) Tryd.func73 rfl enters73 (Nat.le_of_ble_eq_true rfl) ?_
  refine AWp.sr [] fun K1 hk2 => ?_
  simp
  apply hk2
  refine AWp.seqK fun K3 hk4 => ?_
  refine AWp.regionD [] false mixed (by decide +kernel) (by decide +kernel) ?_
  obtain ⟨x5, hx6, hm7⟩ := bind1_some hm
  clear hm
  try dsimp only at hm7
  simp
  refine CallAtD.fn (r_ref01_Copy T hx6) (by simp) ?_
  obtain ⟨x8, hx9, hm10⟩ := bind1_some hm7
  clear hm7
  try dsimp only at hm10
  simp
  refine CallAtD.fn (r_ref01_Copy T hx9) (by simp) ?_
  simp
  apply hk4
  refine AWp.ret ?_
  have hf11 : AV.agg [AV.sc (.int .i64 3), AV.slice .frz [Ty.av x5, Ty.av x8]] = Ty.av (Ty.mk 3 [x5, x8]) := by rw [Ty.av_mk]; rfl
  have hf12 : AV.agg [AV.sc (.int .i64 3), AV.slice .frz [Ty.av x5, Ty.av x8]] = Ty.av (Ty.mk 3 [x5, x8]) := by rw [Ty.av_mk]; rfl
  obtain rfl := Option.some.inj hm10
  simp [retQ, hf11, hf12]

theorem enters74 : entersB Tryd.prog 74 = true := by kernel_rfl

theorem r_ref01_Fun (T : Tabs) {H : Heap} {a0 : Ty} {a1 : Ty} {r0 : Ty} (hm : ref01_Fun a0 a1 = some r0) : ACall Tryd.prog T 74 [Ty.av a0, Ty.av a1] H (Ty.av r0) H := by
  rw [ref01_Fun] at hm
  refine ACallP.intro (fn := Tryd.f74) Tryd.func74 rfl enters74 (Nat.le_of_ble_eq_true rfl) ?_
  refine AWp.sr [] fun K1 hk2 => ?_
  simp
  apply hk2
  refine AWp.seqK fun K3 hk4 => ?_
  refine AWp.regionD [] false mixed (by decide +kernel) (by decide +kernel) ?_
  obtain ⟨x5, hx6, hm7⟩ := bind1_some hm
  clear hm
  try dsimp only at hm7
  simp
  refine CallAtD.fn (r_ref01_Copy T hx6) (by simp) ?_
  obtain ⟨x8, hx9, hm10⟩ := bind1_some hm7
  clear hm7
  try dsimp only at hm10
  simp
  refine CallAtD.fn (r_ref01_Copy T hx9) (by simp) ?_
  simp
  apply hk4
  refine AWp.ret ?_
  have hf11 : AV.agg [AV.sc (.int .i64 4), AV.slice .frz [Ty.av x5, Ty.av x8]] = Ty.av (Ty.mk 4 [x5, x8]) := by rw [Ty.av_mk]; rfl
  have hf12 : AV.agg [AV.sc (.int .i64 4), AV.slice .frz [Ty.av x5, Ty.av x8]] = Ty.av (Ty.mk 4 [x5, x8]) := by rw [Ty.av_mk]; rfl
  obtain rfl := Option.some.inj hm10
  simp [retQ, hf11, hf12]

theorem enters34 : entersB Tryd.prog 34 = true := by kernel_rfl

theorem rg_mk_Type (T : Tabs) : ∀ (n : Nat), (∀ {H : Heap} {a0 : Smk_Deck} {a1 : Int} {r0 : Ty} {rd : Smk_Deck} {o : Nat} (ho : o < List.length H) (hm : mk_Type n a0 a1 = some (r0, rd)), ACall Tryd.prog T 34 [AV.gptr o 0, AV.sc (.int .i64 a1)] (hset H o [AV.slice .frz (List.map (fun n => AV.sc (Value.int .i64 n)) a0.l), AV.sc (.int .i64 a0.atF)]) (Ty.av r0) (hset H o [AV.slice .frz (List.map (fun n => AV.sc (Value.int .i64 n)) rd.l), AV.sc (.int .i64 rd.atF)])) := by
  intro n
  induction n with
  | zero =>
    skip
    all_goals
      intros
      rename_i hm
      cases hm
  | succ n ih =>
    intro H a0 a1 r0 rd o ho hm
    rw [mk_Type] at hm
    have hget : ∀ c, (hset H o c)[o]? = some c := fun c => by simp [hset, ho]
    refine ACallP.intro (fn := Tryd.f34) Tryd.func34 rfl enters34 (Nat.le_of_ble_eq_true rfl) ?_
    refine AWp.sr [] fun K1 hk2 => ?_
    simp [hget]
    apply hk2
    obtain ⟨j3, hj4, hm5⟩ := joinB_some hm
    clear hm
    refine AWp.seqP (fun fr h => ∃ (v6 : Smk_Deck) (g4_9 : Nat), hset H o [AV.slice .frz (List.map (fun n => AV.sc (Value.int .i64 n)) v6.l), AV.sc (.int .i64 v6.atF)] = h ∧ (fr.env 4 = AV.lptr 4 g4_9 0 ∧ fr.gen 4 = g4_9 ∧ fr.box 4 = some [AV.sc (.int .i64 0), AV.slice .full []]) ∧ j3 v6 = some (r0, rd)) (fun K7 hk8 => ?_) ?_
    rotate_left
    · clear hm5
      rintro fr9 h9 ⟨v6, g4_9, rfl, E9, hm10⟩
      subst hj4
      refine AWp.sr [] fun K11 hk12 => ?_
      obtain ⟨x13, hx14, hm15⟩ := bind1_some hm10
      clear hm10
      try dsimp only at hm15
      simp [E9, hget]
      refine CallAt.fn (r_ref01_Nat T hx14) ?_
      simp [E9, hget]
      apply hk12
      refine AWp.ret ?_
      simp only [Option.some.injEq, Prod.mk.injEq] at hm15
      obtain ⟨rfl, rfl⟩ := hm15
      simp [retQ, E9, hget]
    refine AWp.sr [] fun K16 hk17 => ?_
    obtain ⟨x18, d19, hx20, hm21⟩ := bind2_some hm5
    clear hm5
    try dsimp only at hm21
    simp [hget]
    refine CallAt.fn (r_mk_Deck_Next T (by first | exact ho | decide) hx20) ?_
    simp [hget]
    apply hk17
    refine AWp.blockK fun Q22 nn23 ne24 nx25 nr26 => ?_
    refine AWp.seqP (fun fr h => ∃ (g4_43 : Nat), hset H o [AV.slice .frz (List.map (fun n => AV.sc (Value.int .i64 n)) d19.l), AV.sc (.int .i64 d19.atF)] = h ∧ (fr.env 0 = AV.gptr o 0 ∧ fr.env 1 = AV.sc (.int .i64 a1) ∧ fr.env 4 = AV.lptr 4 g4_43 0 ∧ fr.env 6 = AV.sc (.int .i64 x18) ∧ fr.env 7 = AV.sc (.bool (sel (ieq x18 0) true (sel (ieq x18 1) true (ieq x18 2)))) ∧ fr.gen 4 = g4_43 ∧ fr.box 4 = some [AV.sc (.int .i64 0), AV.slice .full []])) (fun K27 hk28 => ?_) ?_
    · refine AWp.sr [] fun K29 hk30 => ?_
      simp [hget]
      apply hk30
      refine AWp.condK fun A31 B32 ga33 gb34 => ?_
      rcases Bool.eq_false_or_eq_true (ieq x18 0) with hc35 | hc35
      · simp [hget, hc35]
        apply ga33
        refine AWp.skip ?_
        refine hk28 _ _ ⟨1, ?_, ⟨?_, ?_, ?_, ?_, ?_, ?_, ?_⟩⟩ <;> first | rfl | simp [hget, hc35]
      simp [hget, hc35]
      apply gb34
      refine AWp.sr [] fun K36 hk37 => ?_
      simp [hget, hc35]
      apply hk37
      refine AWp.condK fun A38 B39 ga40 gb41 => ?_
      rcases Bool.eq_false_or_eq_true (ieq x18 1) with hc42 | hc42
      · simp [hget, hc35, hc42]
        apply ga40
        refine AWp.skip ?_
        refine hk28 _ _ ⟨1, ?_, ⟨?_, ?_, ?_, ?_, ?_, ?_, ?_⟩⟩ <;> first | rfl | simp [hget, hc35, hc42]
      simp [hget, hc35, hc42]
      apply gb41
      refine AWp.region [] (by decide +kernel) ?_
      simp [hget, hc35, hc42]
      refine hk28 _ _ ⟨1, ?_, ⟨?_, ?_, ?_, ?_, ?_, ?_, ?_⟩⟩ <;> first | rfl | simp [hget, hc35, hc42]
    rintro fr43 h43 ⟨g4_43, rfl, E43⟩
    refine AWp.condK fun A44 B45 ga46 gb47 => ?_
    rcases ite_some hm21 with ⟨hc48, hm49⟩ | ⟨hc48, hm50⟩
    · clear hm21
      simp [E43, hget, hc48]
      apply ga46
      refine AWp.sr [] fun K51 hk52 => ?_
      obtain ⟨x53, hx54, hm55⟩ := bind1_some hm49
      clear hm49
      try dsimp only at hm55
      simp [E43, hget, hc48]
      refine CallAt.fn (r_ref01_Nat T hx54) ?_
      simp [E43, hget, hc48]
      apply hk52
      refine AWp.ret ?_
      apply nr26
      simp only [Option.some.injEq, Prod.mk.injEq] at hm55
      obtain ⟨rfl, rfl⟩ := hm55
      simp [retQ, E43, hget, hc48]
    clear hm21
    simp [E43, hget, hc48]
    apply gb47
    refine AWp.sr [] fun K56 hk57 => ?_
    simp [E43, hget, hc48]
    apply hk57
    refine AWp.condK fun A58 B59 ga60 gb61 => ?_
    rcases ite_some hm50 with ⟨hc62, hm63⟩ | ⟨hc62, hm64⟩
    · clear hm50
      simp [E43, hget, hc48, hc62]
      apply ga60
      refine AWp.sr [] fun K65 hk66 => ?_
      obtain ⟨x67, hx68, hm69⟩ := bind1_some hm63
      clear hm63
      try dsimp only at hm69
      simp [E43, hget, hc48, hc62]
      refine CallAt.fn (r_ref01_List T hx68) ?_
      simp [E43, hget, hc48, hc62]
      apply hk66
      refine AWp.ret ?_
      apply nr26
      simp only [Option.some.injEq, Prod.mk.injEq] at hm69
      obtain ⟨rfl, rfl⟩ := hm69
      simp [retQ, E43, hget, hc48, hc62]
    clear hm50
    simp [E43, hget, hc48, hc62]
    apply gb61
    refine AWp.sr [] fun K70 hk71 => ?_
    simp [E43, hget, hc48, hc62]
    apply hk71
    refine AWp.condK fun A72 B73 ga74 gb75 => ?_
    rcases ite_some hm64 with ⟨hc76, hm77⟩ | ⟨hc76, hm78⟩
    · clear hm64
      simp [E43, hget, hc48, hc62, hc76]
      apply ga74
      refine AWp.sr [] fun K79 hk80 => ?_
      obtain ⟨x81, hx82, hm83⟩ := bind1_some hm77
      clear hm77
      try dsimp only at hm83
      simp [E43, hget, hc48, hc62, hc76]
      refine CallAt.fn (r_ref01_Unit T hx82) ?_
      simp [E43, hget, hc48, hc62, hc76]
      apply hk80
      refine AWp.ret ?_
      apply nr26
      simp only [Option.some.injEq, Prod.mk.injEq] at hm83
      obtain ⟨rfl, rfl⟩ := hm83
      simp [retQ, E43, hget, hc48, hc62, hc76]
    clear hm64
    simp [E43, hget, hc48, hc62, hc76]
    apply gb75
    refine AWp.sr [] fun K84 hk85 => ?_
    simp [E43, hget, hc48, hc62, hc76]
    apply hk85
    refine AWp.condK fun A86 B87 ga88 gb89 => ?_
    rcases ite_some hm78 with ⟨hc90, hm91⟩ | ⟨hc90, hm92⟩
    · clear hm78
      simp [E43, hget, hc48, hc62, hc76, hc90]
      apply ga88
      refine AWp.sr [] fun K93 hk94 => ?_
      simp [E43, hget, hc48, hc62, hc76, hc90]
      apply hk94
      refine AWp.condK fun A95 B96 ga97 gb98 => ?_
      rcases ite_some hm91 with ⟨hc99, hm100⟩ | ⟨hc99, hm101⟩
      rotate_left
      · clear hm91
        simp [E43, hget, hc48, hc62, hc76, hc90, hc99]
        apply gb98
        refine AWp.skip ?_
        apply nn23
        refine hk8 _ _ ⟨d19, g4_43, ?_, ⟨?_, ?_, ?_⟩, hm101⟩ <;> first | rfl | simp [E43, hget, hc48, hc62, hc76, hc90, hc99]
      clear hm91
      simp [E43, hget, hc48, hc62, hc76, hc90, hc99]
      apply ga97
      refine AWp.sr [] fun K102 hk103 => ?_
      obtain ⟨x104, d105, hx106, hm107⟩ := bind2_some hm100
      clear hm100
      try dsimp only at hm107
      simp [E43, hget, hc48, hc62, hc76, hc90, hc99]
      refine CallAt.fn (ih (by first | exact ho | decide) hx106) ?_
      obtain ⟨x108, d109, hx110, hm111⟩ := bind2_some hm107
      clear hm107
      try dsimp only at hm111
      simp [E43, hget, hc48, hc62, hc76, hc90, hc99]
      refine CallAt.fn (ih (by first | exact ho | decide) hx110) ?_
      obtain ⟨x112, hx113, hm114⟩ := bind1_some hm111
      clear hm111
      try dsimp only at hm114
      simp [E43, hget, hc48, hc62, hc76, hc90, hc99]
      refine CallAt.fn (r_ref01_Two T hx113) ?_
      simp [E43, hget, hc48, hc62, hc76, hc90, hc99]
      apply hk103
      refine AWp.ret ?_
      apply nr26
      simp only [Option.some.injEq, Prod.mk.injEq] at hm114
      obtain ⟨rfl, rfl⟩ := hm114
      simp [retQ, E43, hget, hc48, hc62, hc76, hc90, hc99]
    clear hm78
    simp [E43, hget, hc48, hc62, hc76, hc90]
    apply gb89
    refine AWp.sr [] fun K115 hk116 => ?_
    simp [E43, hget, hc48, hc62, hc76, hc90]
    apply hk116
    refine AWp.condK fun A117 B118 ga119 gb120 => ?_
    rcases ite_some hm92 with ⟨hc121, hm122⟩ | ⟨hc121, hm123⟩
    rotate_left
    · clear hm92
      simp [E43, hget, hc48, hc62, hc76, hc90, hc121]
      apply gb120
      refine AWp.skip ?_
      apply nn23
      refine hk8 _ _ ⟨d19, g4_43, ?_, ⟨?_, ?_, ?_⟩, hm123⟩ <;> first | rfl | simp [E43, hget, hc48, hc62, hc76, hc90, hc121]
    clear hm92
    simp [E43, hget, hc48, hc62, hc76, hc90, hc121]
    apply ga119
    refine AWp.sr [] fun K124 hk125 => ?_
    simp [E43, hget, hc48, hc62, hc76, hc90, hc121]
    apply hk125
    refine AWp.condK fun A126 B127 ga128 gb129 => ?_
    rcases ite_some hm122 with ⟨hc130, hm131⟩ | ⟨hc130, hm132⟩
    rotate_left
    · clear hm122
      simp [E43, hget, hc48, hc62, hc76, hc90, hc121, hc130]
      apply gb129
      refine AWp.skip ?_
      apply nn23
      refine hk8 _ _ ⟨d19, g4_43, ?_, ⟨?_, ?_, ?_⟩, hm132⟩ <;> first | rfl | simp [E43, hget, hc48, hc62, hc76, hc90, hc121, hc130]
    clear hm122
    simp [E43, hget, hc48, hc62, hc76, hc90, hc121, hc130]
    apply ga128
    refine AWp.sr [] fun K133 hk134 => ?_
    obtain ⟨x135, d136, hx137, hm138⟩ := bind2_some hm131
    clear hm131
    try dsimp only at hm138
    simp [E43, hget, hc48, hc62, hc76, hc90, hc121, hc130]
    refine CallAt.fn (ih (by first | exact ho | decide) hx137) ?_
    obtain ⟨x139, d140, hx141, hm142⟩ := bind2_some hm138
    clear hm138
    try dsimp only at hm142
    simp [E43, hget, hc48, hc62, hc76, hc90, hc121, hc130]
    refine CallAt.fn (ih (by first | exact ho | decide) hx141) ?_
    obtain ⟨x143, hx144, hm145⟩ := bind1_some hm142
    clear hm142
    try dsimp only at hm145
    simp [E43, hget, hc48, hc62, hc76, hc90, hc121, hc130]
    refine CallAt.fn (r_ref01_Fun T hx144) ?_
    simp [E43, hget, hc48, hc62, hc76, hc90, hc121, hc130]
    apply hk134
    refine AWp.ret ?_
    apply nr26
    simp only [Option.some.injEq, Prod.mk.injEq] at hm145
    obtain ⟨rfl, rfl⟩ := hm145
    simp [retQ, E43, hget, hc48, hc62, hc76, hc90, hc121, hc130]
theorem r_mk_Type (T : Tabs) {H : Heap} {a0 : Smk_Deck} {a1 : Int} {r0 : Ty} {rd : Smk_Deck} {o : Nat} (ho : o < List.length H) {n : Nat} (hm : mk_Type n a0 a1 = some (r0, rd)) : ACall Tryd.prog T 34 [AV.gptr o 0, AV.sc (.int .i64 a1)] (hset H o [AV.slice .frz (List.map (fun n => AV.sc (Value.int .i64 n)) a0.l), AV.sc (.int .i64 a0.atF)]) (Ty.av r0) (hset H o [AV.slice .frz (List.map (fun n => AV.sc (Value.int .i64 n)) rd.l), AV.sc (.int .i64 rd.atF)]) := (rg_mk_Type T n) ho hm

theorem enters25 : entersB Tryd.prog 25 = true := by kernel_rfl

theorem r_mk_Context (T : Tabs) {H : Heap} {a0 : Smk_Deck} {r0 : (List Ty)} {rd : Smk_Deck} {o : Nat} (ho : o < List.length H) (hm : mk_Context a0 = some (r0, rd)) : ACall Tryd.prog T 25 [AV.gptr o 0] (hset H o [AV.slice .frz (List.map (fun n => AV.sc (Value.int .i64 n)) a0.l), AV.sc (.int .i64 a0.atF)]) (AV.slice .frz (List.map Ty.av r0)) (hset H o [AV.slice .frz (List.map (fun n => AV.sc (Value.int .i64 n)) rd.l), AV.sc (.int .i64 rd.atF)]) := by
  rw [mk_Context] at hm
  have hget : ∀ c, (hset H o c)[o]? = some c := fun c => by simp [hset, ho]
  refine ACallP.intro (fn := Tryd.f25) Tryd.func25 rfl enters25 (Nat.le_of_ble_eq_true rfl) ?_
  refine AWp.sr [] fun K1 hk2 => ?_
  simp [hget]
  apply hk2
  refine AWp.sr [] fun K3 hk4 => ?_
  simp [hget]
  apply hk4
  refine AWp.seqK fun K5 hk6 => ?_
  refine AWp.sr [] fun K7 hk8 => ?_
  obtain ⟨x9, d10, hx11, hm12⟩ := bind2_some hm
  clear hm
  try dsimp only at hm12
  simp [hget]
  refine CallAt.fn (r_mk_Deck_Next T (by first | exact ho | decide) hx11) ?_
  simp [hget]
  apply hk8
  obtain ⟨F13, hF14, hm15⟩ := joinB_some hm12
  clear hm12
  try dsimp only at hm15
  obtain ⟨out16, hl17, hmB18⟩ := bind1_some hm15
  clear hm15
  refine AWp.blockK fun Q19 nn20 ne21 nx22 nr23 => ?_
  refine AWp.loopF (fun n24 fr h => ∃ (v25 : (List Ty)) (v26 : Int) (v27 : Smk_Deck) (tg0_28 : Tag), hset H o [AV.slice .frz (List.map (fun n => AV.sc (Value.int .i64 n)) v27.l), AV.sc (.int .i64 v27.atF)] = h ∧ (fr.env 0 = AV.gptr o 0 ∧ fr.env 3 = AV.slice tg0_28 (List.map Ty.av v25) ∧ fr.env 4 = AV.sc (.int .i64 v26)) ∧ OwnT fr.tab fr.tgen [15] tg0_28 (List.length v25) ∧ loopN F13 n24 (v25, v26, v27) = some out16) FU ?_ ?_
  · refine ⟨[], x9, d10, .full, ?_, ⟨?_, ?_, ?_⟩, OwnT.full, hl17⟩ <;> first | rfl | simp [hget]
  rintro n24 fr28 h28 ⟨v25, v26, v27, tg0_28, rfl, E28, o0_28, hl17⟩ K29 hK30
  rcases n24 with _ | n24
  · rw [loopN_zero] at hl17
    cases hl17
  rw [loopN_succ] at hl17
  obtain ⟨c31, hb32, hk33⟩ := bind1_some hl17
  clear hl17
  rw [hF14] at hb32
  try dsimp only at hb32
  rw [un3_mk] at hb32
  try dsimp only at hb32
  refine AWp.seqK fun K34 hk35 => ?_
  refine AWp.sr [] fun K36 hk37 => ?_
  simp [E28, hget]
  apply hk37
  refine AWp.condK fun A38 B39 ga40 gb41 => ?_
  rcases ite_some hb32 with ⟨hc42, hm43⟩ | ⟨hc42, hm44⟩
  rotate_left
  · clear hb32
    simp [E28, hget, hc42]
    apply gb41
    refine AWp.exit ?_
    apply ne21
    obtain rfl := Option.some.inj hm44
    rw [ctlK_brk] at hk33
    obtain rfl := Option.some.inj hk33
    rw [sumK_inl, un3_mk] at hmB18
    try dsimp only at hmB18
    apply hk6
    refine AWp.sr [] fun K45 hk46 => ?_
    simp [E28, hget, hc42]
    apply hk46
    refine AWp.ret ?_
    simp only [Option.some.injEq, Prod.mk.injEq] at hmB18
    obtain ⟨rfl, rfl⟩ := hmB18
    simp [retQ, E28, hget, hc42]
  clear hb32
  simp [E28, hget, hc42]
  apply ga40
  refine AWp.skip ?_
  apply hk35
  refine AWp.seqK fun K47 hk48 => ?_
  refine AWp.blockK fun Q49 nn50 ne51 nx52 nr53 => ?_
  refine AWp.region [] (by decide +kernel) ?_
  obtain ⟨x54, d55, hx56, hm57⟩ := bind2_some hm43
  clear hm43
  try dsimp only at hm57
  simp [E28, hget, hc42]
  refine CallAt.fn (r_mk_Type T (by first | exact ho | decide) hx56) ?_
  obtain ⟨ha281, hm58⟩ := chk_some hm57
  clear hm57
  simp [E28, hget, hc42]
  refine AppAt.own (f := Ty.av) v25 [x54] o0_28 ap23 (by intro x; simp) ha281 (by first | rfl | simp) (by first | rfl | simp) ?_
  simp [E28, hget, hc42]
  apply nn50
  apply hk48
  refine AWp.region [] (by decide +kernel) ?_
  simp [E28, hget, hc42]
  obtain rfl := Option.some.inj hm58
  rw [ctlK_next] at hk33
  refine hK30 _ _ n24 (Nat.lt_succ_self _) ⟨(lapp v25 [x54]), (isub .i64 v26 1), d55, (.loc 15 (fr28.tgen 15 + 1)), ?_, ⟨?_, ?_, ?_⟩, (OwnT.mono (D := [15]) (OwnT.new (D := [15]) (d := 15) (by decide)) (by decide)), hk33⟩ <;> first | rfl | simp [E28, hget, hc42]

theorem enters53 : entersB Tryd.prog 53 = true := by kernel_rfl

theorem rg_ref07_Copy (T : Tabs) : ∀ (n : Nat), (∀ {H : Heap} {a0 : Fm} {r0 : Fm} (hm : ref07_Copy n a0 = some r0), ACall Tryd.prog T 53 [Fm.av a0] H (Fm.av r0) H) := by
  intro n
  induction n with
  | zero =>
    skip
    all_goals
      intros
      rename_i hm
      cases hm
  | succ n ih =>
    intro H a0 r0 hm
    rw [ref07_Copy] at hm
    refine ACallP.intro (fn := Tryd.f53) Tryd.func53 rfl enters53 (Nat.le_of_ble_eq_true rfl) ?_
    refine AWp.sr [] fun K1 hk2 => ?_
    simp
    apply hk2
    refine AWp.seqK fun K3 hk4 => ?_
    refine AWp.regionD [] false mixed (by decide +kernel) (by decide +kernel) ?_
    obtain ⟨x5, hx6, hm7⟩ := bind1_some hm
    clear hm
    try dsimp only at hm7
    simp
    refine CallAtD.fn (r_ref01_Copy T hx6) (by simp) ?_
    simp
    apply hk4
    refine AWp.seqK fun K8 hk9 => ?_
    refine AWp.sr [] fun K10 hk11 => ?_
    simp
    apply hk11
    obtain ⟨hok12, hm13⟩ := chk_some hm7
    clear hm7
    obtain ⟨F14, hF15, hm16⟩ := joinB_some hm13
    clear hm13
    try dsimp only at hm16
    obtain ⟨out17, hl18, hmB19⟩ := bind1_some hm16
    clear hm16
    refine AWp.blockK fun Q20 nn21 ne22 nx23 nr24 => ?_
    refine AWp.loopF (fun n25 fr h => ∃ (i26 : Nat) (j27 : Int) (v28 : (List Tm)) (tg0_29 : Tag) (g1_29 : Nat) (g2_29 : Nat) (g3_29 : Nat), H = h ∧ (fr.env 1 = AV.lptr 1 g1_29 0 ∧ fr.env 2 = AV.lptr 2 g2_29 0 ∧ fr.env 3 = AV.lptr 3 g3_29 0 ∧ fr.env 15 = AV.slice .frz (List.map Tm.av a0.terms) ∧ fr.env 16 = AV.sc (.int .i64 (llen a0.terms)) ∧ fr.env 17 = AV.sc (.int .i64 j27) ∧ fr.gen 1 = g1_29 ∧ fr.box 1 = some [AV.sc (.int .i64 a0.kind), AV.sc (.int .i64 a0.typeF.kind), AV.slice .frz (List.map Ty.av a0.typeF.args), AV.slice .frz (List.map Tm.av a0.terms), AV.slice .frz (List.map Fm.av a0.args)] ∧ fr.gen 2 = g2_29 ∧ fr.box 2 = some [AV.sc (.int .i64 0), AV.sc (.int .i64 0), AV.slice .full [], AV.slice .full [], AV.slice .full []] ∧ fr.gen 3 = g3_29 ∧ fr.box 3 = some [AV.sc (.int .i64 a0.kind), AV.sc (.int .i64 x5.kind), AV.slice .frz (List.map Ty.av x5.args), AV.slice tg0_29 (List.map Tm.av v28), AV.slice .full []]) ∧ OwnT fr.tab fr.tgen [26] tg0_29 (List.length v28) ∧ j27 = (i26 : Int) ∧ i26 + n25 = List.length a0.terms ∧ forR F14 (List.drop i26 a0.terms) i26 v28 = some out17) (List.length a0.terms) ?_ ?_
    · refine ⟨0, 0, [], .full, 1, 1, 1, ?_, ⟨?_, ?_, ?_, ?_, ?_, ?_, ?_, ?_, ?_, ?_, ?_, ?_⟩, OwnT.full, rfl, (by simp), hl18⟩ <;> first | rfl | simp
    rintro n25 fr29 h29 ⟨i26, j27, v28, tg0_29, g1_29, g2_29, g3_29, rfl, E29, o0_29, hj30, hi31, hl18⟩ K32 hK33
    rcases n25 with _ | n25
    rotate_left
    · have hlt34 := ilt_ofJ (l := a0.terms) hj30 (by omega)
      obtain ⟨x35, hdn25, hg36⟩ := drop_ltJ (l := a0.terms) hj30 (by omega)
      rw [hdn25, forR_cons] at hl18
      obtain ⟨c37, hb38, hk39⟩ := bind1_some hl18
      clear hl18
      rw [hF15, ← hj30] at hb38
      try dsimp only at hb38
      refine AWp.sr [] fun K40 hk41 => ?_
      simp [E29, hlt34, hg36]
      apply hk41
      refine AWp.seqK fun K42 hk43 => ?_
      refine AWp.condK fun A44 B45 ga46 gb47 => ?_
      simp [E29, hlt34, hg36]
      apply ga46
      refine AWp.skip ?_
      apply hk43
      refine AWp.seqK fun K48 hk49 => ?_
      refine AWp.blockK fun Q50 nn51 ne52 nx53 nr54 => ?_
      refine AWp.sr [] fun K55 hk56 => ?_
      simp [E29, hlt34, hg36]
      apply hk56
      refine AWp.regionD [] false mixed (by decide +kernel) (by decide +kernel) ?_
      obtain ⟨x57, hx58, hm59⟩ := bind1_some hb38
      clear hb38
      try dsimp only at hm59
      simp [E29, hlt34, hg36]
      refine CallAtD.fn (r_ref02_Copy T hx58) (by simp) ?_
      obtain ⟨ha242, hm60⟩ := chk_some hm59
      clear hm59
      simp [E29, hlt34, hg36]
      refine AppAt.own (f := Tm.av) v28 [x57] o0_29 ap26 (by intro x; simp) ha242 (by first | rfl | simp) (by first | rfl | simp) ?_
      simp [E29, hlt34, hg36]
      apply nn51
      apply hk49
      refine AWp.region [] (by decide +kernel) ?_
      simp [E29, hlt34, hg36]
      obtain rfl := Option.some.inj hm60
      rw [ctlK_next] at hk39
      refine hK33 _ _ n25 (Nat.lt_succ_self _) ⟨(i26 + 1), (iadd .i64 j27 1), (lapp v28 [x57]), (.loc 26 (fr29.tgen 26 + 1)), g1_29, g2_29, g3_29, ?_, ⟨?_, ?_, ?_, ?_, ?_, ?_, ?_, ?_, ?_, ?_, ?_, ?_⟩, (OwnT.mono (D := [26]) (OwnT.new (D := [26]) (d := 26) (by decide)) (by decide)), (iadd_idxJ hj30 (by omega) hok12), (by omega), hk39⟩ <;> first | rfl | simp [E29, hlt34, hg36]
    have hlt34 := ilt_notJ (l := a0.terms) hj30 (by omega)
    refine AWp.sr [] fun K61 hk62 => ?_
    simp [E29, hlt34]
    apply hk62
    refine AWp.seqK fun K63 hk64 => ?_
    refine AWp.condK fun A65 B66 ga67 gb68 => ?_
    simp [E29, hlt34]
    apply gb68
    refine AWp.exit ?_
    apply ne22
    rw [List.drop_eq_nil_of_le (by omega), forR_nil] at hl18
    obtain rfl := Option.some.inj hl18
    rw [sumK_inl] at hmB19
    try dsimp only at hmB19
    apply hk9
    refine AWp.seqK fun K69 hk70 => ?_
    refine AWp.sr [] fun K71 hk72 => ?_
    simp [E29, hlt34]
    apply hk72
    obtain ⟨hok73, hm74⟩ := chk_some hmB19
    clear hmB19
    obtain ⟨F75, hF76, hm77⟩ := joinB_some hm74
    clear hm74
    try dsimp only at hm77
    obtain ⟨out78, hl79, hmB80⟩ := bind1_some hm77
    clear hm77
    refine AWp.blockK fun Q81 nn82 ne83 nx84 nr85 => ?_
    refine AWp.loopF (fun n86 fr h => ∃ (i87 : Nat) (j88 : Int) (v89 : (List Fm)) (tg0_90 : Tag) (tg1_90 : Tag) (g2_90 : Nat) (g3_90 : Nat), H = h ∧ (fr.env 2 = AV.lptr 2 g2_90 0 ∧ fr.env 3 = AV.lptr 3 g3_90 0 ∧ fr.env 30 = AV.slice .frz (List.map Fm.av a0.args) ∧ fr.env 31 = AV.sc (.int .i64 (llen a0.args)) ∧ fr.env 32 = AV.sc (.int .i64 j88) ∧ fr.gen 2 = g2_90 ∧ fr.box 2 = some [AV.sc (.int .i64 0), AV.sc (.int .i64 0), AV.slice .full [], AV.slice .full [], AV.slice .full []] ∧ fr.gen 3 = g3_90 ∧ fr.box 3 = some [AV.sc (.int .i64 a0.kind), AV.sc (.int .i64 x5.kind), AV.slice .frz (List.map Ty.av x5.args), AV.slice tg0_90 (List.map Tm.av v28), AV.slice tg1_90 (List.map Fm.av v89)]) ∧ OwnT fr.tab fr.tgen [26] tg0_90 (List.length v28) ∧ OwnT fr.tab fr.tgen [41] tg1_90 (List.length v89) ∧ j88 = (i87 : Int) ∧ i87 + n86 = List.length a0.args ∧ forR F75 (List.drop i87 a0.args) i87 v89 = some out78) (List.length a0.args) ?_ ?_
    · refine ⟨0, 0, [], tg0_29, .full, g2_29, g3_29, ?_, ⟨?_, ?_, ?_, ?_, ?_, ?_, ?_, ?_, ?_⟩, (OwnT.mono (D := [26]) o0_29 (by decide)), OwnT.full, rfl, (by simp), hl79⟩ <;> first | rfl | simp [E29, hlt34]
    rintro n86 fr90 h90 ⟨i87, j88, v89, tg0_90, tg1_90, g2_90, g3_90, rfl, E90, o0_90, o1_90, hj91, hi92, hl79⟩ K93 hK94
    rcases n86 with _ | n86
    · have hlt95 := ilt_notJ (l := a0.args) hj91 (by omega)
      refine AWp.sr [] fun K96 hk97 => ?_
      simp [E90, hlt34, hlt95]
      apply hk97
      refine AWp.seqK fun K98 hk99 => ?_
      refine AWp.condK fun A100 B101 ga102 gb103 => ?_
      simp [E90, hlt34, hlt95]
      apply gb103
      refine AWp.exit ?_
      apply ne83
      rw [List.drop_eq_nil_of_le (by omega), forR_nil] at hl79
      obtain rfl := Option.some.inj hl79
      rw [sumK_inl] at hmB80
      try dsimp only at hmB80
      apply hk70
      refine AWp.sr [] fun K104 hk105 => ?_
      simp [E90, hlt34, hlt95]
      apply hk105
      refine AWp.ret ?_
      obtain rfl := Option.some.inj hmB80
      simp [retQ, E90, hlt34, hlt95]
    have hlt95 := ilt_ofJ (l := a0.args) hj91 (by omega)
    obtain ⟨x106, hdn86, hg107⟩ := drop_ltJ (l := a0.args) hj91 (by omega)
    rw [hdn86, forR_cons] at hl79
    obtain ⟨c108, hb109, hk110⟩ := bind1_some hl79
    clear hl79
    rw [hF76, ← hj91] at hb109
    try dsimp only at hb109
    refine AWp.sr [] fun K111 hk112 => ?_
    simp [E90, hlt34, hlt95, hg107]
    apply hk112
    refine AWp.seqK fun K113 hk114 => ?_
    refine AWp.condK fun A115 B116 ga117 gb118 => ?_
    simp [E90, hlt34, hlt95, hg107]
    apply ga117
    refine AWp.skip ?_
    apply hk114
    refine AWp.seqK fun K119 hk120 => ?_
    refine AWp.blockK fun Q121 nn122 ne123 nx124 nr125 => ?_
    refine AWp.sr [] fun K126 hk127 => ?_
    simp [E90, hlt34, hlt95, hg107]
    apply hk127
    refine AWp.regionD [] false mixed (by decide +kernel) (by decide +kernel) ?_
    obtain ⟨x128, hx129, hm130⟩ := bind1_some hb109
    clear hb109
    try dsimp only at hm130
    simp [E90, hlt34, hlt95, hg107]
    refine CallAtD.fn (ih hx129) (by simp) ?_
    obtain ⟨ha487, hm131⟩ := chk_some hm130
    clear hm130
    simp [E90, hlt34, hlt95, hg107]
    refine AppAt.own (f := Fm.av) v89 [x128] o1_90 ap27 (by intro x; simp) ha487 (by first | rfl | simp) (by first | rfl | simp) ?_
    simp [E90, hlt34, hlt95, hg107]
    apply nn122
    apply hk120
    refine AWp.region [] (by decide +kernel) ?_
    simp [E90, hlt34, hlt95, hg107]
    obtain rfl := Option.some.inj hm131
    rw [ctlK_next] at hk110
    refine hK94 _ _ n86 (Nat.lt_succ_self _) ⟨(i87 + 1), (iadd .i64 j88 1), (lapp v89 [x128]), tg0_90, (.loc 41 (fr90.tgen 41 + 1)), g2_90, g3_90, ?_, ⟨?_, ?_, ?_, ?_, ?_, ?_, ?_, ?_, ?_⟩, (OwnT.mono (D := [26]) (OwnT.other o0_90 o1_90 (by decide) (by decide)) (by decide)), (OwnT.mono (D := [41]) (OwnT.new (D := [41]) (d := 41) (by decide)) (by decide)), (iadd_idxJ hj91 (by omega) hok73), (by omega), hk110⟩ <;> first | rfl | simp [E90, hlt34, hlt95, hg107]
theorem r_ref07_Copy (T : Tabs) {H : Heap} {a0 : Fm} {r0 : Fm} {n : Nat} (hm : ref07_Copy n a0 = some r0) : ACall Tryd.prog T 53 [Fm.av a0] H (Fm.av r0) H := (rg_ref07_Copy T n) hm

theorem enters39 : entersB Tryd.prog 39 = true := by kernel_rfl

theorem r_ref07_Two (T : Tabs) {H : Heap} {a0 : Int} {a1 : Fm} {a2 : Fm} {r0 : Fm} (hm : ref07_Two a0 a1 a2 = some r0) : ACall Tryd.prog T 39 [AV.sc (.int .i64 a0), Fm.av a1, Fm.av a2] H (Fm.av r0) H := by
  rw [ref07_Two] at hm
  refine ACallP.intro (fn := Tryd.f39) Tryd.func39 rfl enters39 (Nat.le_of_ble_eq_true rfl) ?_
  refine AWp.sr [] fun K1 hk2 => ?_
  simp
  apply hk2
  refine AWp.seqK fun K3 hk4 => ?_
  refine AWp.regionD [] false mixed (by decide +kernel) (by decide +kernel) ?_
  obtain ⟨x5, hx6, hm7⟩ := bind1_some hm
  clear hm
  try dsimp only at hm7
  simp
  refine CallAtD.fn (r_ref07_Copy T hx6) (by simp) ?_
  obtain ⟨x8, hx9, hm10⟩ := bind1_some hm7
  clear hm7
  try dsimp only at hm10
  simp
  refine CallAtD.fn (r_ref07_Copy T hx9) (by simp) ?_
  simp
  apply hk4
  refine AWp.ret ?_
  have hf11 : AV.agg [AV.sc (.int .i64 a0), AV.sc (.int .i64 0), AV.slice .frz [], AV.slice .frz [], AV.slice .frz [Fm.av x5, Fm.av x8]] = Fm.av (Fm.mk a0 (Ty.mk 0 []) [] [x5, x8]) := by rw [Fm.av_mk]; rfl
  have hf12 : AV.agg [AV.sc (.int .i64 a0), AV.sc (.int .i64 0), AV.slice .frz [], AV.slice .frz [], AV.slice .frz [Fm.av x5, Fm.av x8]] = Fm.av (Fm.mk a0 (Ty.mk 0 []) [] [x5, x8]) := by rw [Fm.av_mk]; rfl
  obtain rfl := Option.some.inj hm10
  simp [retQ, hf11, hf12]

theorem enters41 : entersB Tryd.prog 41 = true := by kernel_rfl

theorem r_mk_longer (T : Tabs) {H : Heap} {a0 : (List Ty)} {a1 : (List Ty)} {r0 : (List Ty)} (hm : mk_longer a0 a1 = some r0) : ACall Tryd.prog T 41 [AV.slice .frz (List.map Ty.av a0), AV.slice .frz (List.map Ty.av a1)] H (AV.slice .frz (List.map Ty.av r0)) H := by
  rw [mk_longer] at hm
  refine ACallP.intro (fn := Tryd.f41) Tryd.func41 rfl enters41 (Nat.le_of_ble_eq_true rfl) ?_
  refine AWp.sr [] fun K1 hk2 => ?_
  simp
  apply hk2
  refine AWp.sr [] fun K3 hk4 => ?_
  obtain ⟨ha9, hm5⟩ := chk_some hm
  clear hm
  simp
  refine AppAt.own (f := Ty.av) [] a0 (OwnT.full (D := [])) ap23 (by intro x; simp) ha9 (by first | rfl | simp) (by first | rfl | simp) ?_
  obtain ⟨ha11, hm6⟩ := chk_some hm5
  clear hm5
  simp
  refine AppAt.own (f := Ty.av) (lapp [] a0) a1 (OwnT.new (D := [6]) (d := 6) (by decide)) ap23 (by intro x; simp) ha11 (by first | rfl | simp) (by first | rfl | simp) ?_
  simp
  apply hk4
  refine AWp.ret ?_
  obtain rfl := Option.some.inj hm6
  simp [retQ]

end Go.Proofs.YtdihelfnjememaaDoor
