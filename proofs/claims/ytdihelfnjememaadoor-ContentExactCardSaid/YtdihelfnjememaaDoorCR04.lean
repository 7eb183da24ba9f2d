/- The program's functions do what the models say. -/
import Derived.Test.YtdihelfnjememaaDoorCR03
import Derived.Test.YtdihelfnjememaaDoorCM
set_option linter.unusedSimpArgs false
set_option linter.unusedVariables false
namespace Go.Proofs.YtdihelfnjememaaDoor
open Go Go.Abs Go.Mdl

theorem enters55 : entersB Tryd.prog 55 = true := by kernel_rfl
set_option maxRecDepth 20000 in
set_option maxHeartbeats 4000000 in
theorem r_mk_Mod (T : Tabs) {H : Heap} {a0 : Int} {a1 : Int} {r0 : Int} (hm : mk_Mod a0 a1 = some r0) : ACall Tryd.prog T 55 [AV.sc (.int .i64 a0), AV.sc (.int .i64 a1)] H (AV.sc (.int .i64 r0)) H := by
  rw [mk_Mod] at hm
  refine ACallP.intro (fn := Tryd.f55) Tryd.func55 rfl enters55 (Nat.le_of_ble_eq_true rfl) ?_
  refine AWp.seqK fun K1 hk2 => ?_
  refine AWp.region [] (by decide +kernel) ?_
  simp
  refine hk2 _ _ ?_
  refine AWp.seqK fun K7 hk8 => ?_
  refine AWp.region [] (by decide +kernel) ?_
  obtain ⟨hx9, hm10⟩ := chk_some hm
  clear hm
  obtain ⟨hx11, hm12⟩ := chk_some hm10
  clear hm10
  simp [hx9, hx11]
  refine hk8 _ _ ?_
  refine AWp.ret ?_
  try simp only [thenQ_ret]
  obtain rfl := Option.some.inj hm12
  simp [retQ, hx9, hx11]

theorem enters28 : entersB Tryd.prog 28 = true := by kernel_rfl
set_option maxRecDepth 20000 in
set_option maxHeartbeats 4000000 in
theorem r_mk_Deck_Next (T : Tabs) {H : Heap} {a0 : Smk_Deck} {a1 : Int} {r0 : Int} {rd : Smk_Deck} {o : Nat} (ho : o < List.length H) (hm : mk_Deck_Next a0 a1 = some (r0, rd)) : ACall Tryd.prog T 28 [AV.gptr o 0, AV.sc (.int .i64 a1)] (hset H o [AV.slice .frz (List.map (fun n => AV.sc (Value.int .i64 n)) a0.l), AV.sc (.int .i64 a0.atF)]) (AV.sc (.int .i64 r0)) (hset H o [AV.slice .frz (List.map (fun n => AV.sc (Value.int .i64 n)) rd.l), AV.sc (.int .i64 rd.atF)]) := by
  rw [mk_Deck_Next] at hm
  have hget : ∀ c, (hset H o c)[o]? = some c := fun c => by simp [hset, ho]
  refine ACallP.intro (fn := Tryd.f28) Tryd.func28 rfl enters28 (Nat.le_of_ble_eq_true rfl) ?_
  refine AWp.seqK fun K1 hk2 => ?_
  refine AWp.region [] (by decide +kernel) ?_
  simp [hget]
  refine hk2 _ _ ?_
  refine AWp.seqK fun K21 hk22 => ?_
  refine AWp.seqP (fun fr h => hset H o [AV.slice .frz (List.map (fun n => AV.sc (Value.int .i64 n)) a0.l), AV.sc (.int .i64 a0.atF)] = h ∧ fr.env 0 = AV.gptr o 0 ∧ fr.env 1 = AV.sc (.int .i64 a1) ∧ fr.env 19 = AV.sc (.bool (sel (ilt a1 1) true (ige a0.atF (llen a0.l))))) (fun K26 hk27 => ?_) ?_
  · refine AWp.regionD [] true mixed (by decide +kernel) (by decide +kernel) ?_
    rcases Bool.eq_false_or_eq_true (ilt a1 1) with hc29 | hc29
    · simp [hget, hc29]
      refine hk27 _ _ ⟨?_, ?_, ?_, ?_⟩ <;> first | rfl | simp [hget, hc29]
    · simp [hget, hc29]
      refine hk27 _ _ ⟨?_, ?_, ?_, ?_⟩ <;> first | rfl | simp [hget, hc29]
  · rintro fr28 h28 ⟨rfl, e0_28, e1_28, e19_28⟩
    refine AWp.condK rfl fun A32 B33 ga34 gb35 => ?_
    rcases ite_some hm with ⟨hc36, hm37⟩ | ⟨hc36, hm38⟩
    · clear hm
      simp [e0_28, e1_28, e19_28, hget, hc36]
      refine ga34 _ _ ?_
      refine AWp.seqK fun K39 hk40 => ?_
      refine AWp.region [] (by decide +kernel) ?_
      simp [e0_28, e1_28, e19_28, hget, hc36]
      refine hk40 _ _ ?_
      refine AWp.ret ?_
      try simp only [thenQ_ret]
      simp only [Option.some.injEq, Prod.mk.injEq] at hm37
      obtain ⟨rfl, rfl⟩ := hm37
      simp [retQ, e0_28, e1_28, e19_28, hget, hc36]
    · clear hm
      simp [e0_28, e1_28, e19_28, hget, hc36]
      refine gb35 _ _ ?_
      refine AWp.skip ?_
      try simp only [thenQ_normal]
      refine hk22 _ _ ?_
      refine AWp.seqK fun K44 hk45 => ?_
      refine AWp.regionD [] true mixed (by decide +kernel) (by decide +kernel) ?_
      obtain ⟨x46, hx47, hm48⟩ := bind1_some hm38
      clear hm38
      try dsimp only at hm48
      simp [e0_28, e1_28, e19_28, hget, hx47, hc36]
      refine hk45 _ _ ?_
      refine AWp.seqK fun K49 hk50 => ?_
      refine AWp.region [] (by decide +kernel) ?_
      simp [e0_28, e1_28, e19_28, hget, hx47, hc36]
      refine hk50 _ _ ?_
      refine AWp.seqK fun K54 hk55 => ?_
      refine AWp.region [] (by decide +kernel) ?_
      obtain ⟨x56, hx57, hm58⟩ := bind1_some hm48
      clear hm48
      try dsimp only at hm58
      simp [e0_28, e1_28, e19_28, hget, hx47, hc36]
      refine CallAt.fn (r_mk_Mod T hx57) ?_
      simp [e0_28, e1_28, e19_28, hget, hx47, hc36]
      refine hk55 _ _ ?_
      refine AWp.ret ?_
      try simp only [thenQ_ret]
      simp only [Option.some.injEq, Prod.mk.injEq] at hm58
      obtain ⟨rfl, rfl⟩ := hm58
      simp [retQ, e0_28, e1_28, e19_28, hget, hx47, hc36]

theorem enters42 : entersB Tryd.prog 42 = true := by kernel_rfl
set_option maxRecDepth 20000 in
set_option maxHeartbeats 4000000 in
theorem r_ref01_Nat (T : Tabs) {H : Heap}  {r0 : Ty} (hm : ref01_Nat = some r0) : ACall Tryd.prog T 42 [] H (Ty.av r0) H := by
  rw [ref01_Nat] at hm
  refine ACallP.intro (fn := Tryd.f42) Tryd.func42 rfl enters42 (Nat.le_of_ble_eq_true rfl) ?_
  refine AWp.seqK fun K1 hk2 => ?_
  refine AWp.region [] (by decide +kernel) ?_
  simp
  refine hk2 _ _ ?_
  refine AWp.seqK fun K3 hk4 => ?_
  refine AWp.region [] (by decide +kernel) ?_
  simp
  refine hk4 _ _ ?_
  refine AWp.ret ?_
  try simp only [thenQ_ret]
  obtain rfl := Option.some.inj hm
  simp [retQ]

theorem enters67 : entersB Tryd.prog 67 = true := by kernel_rfl
set_option maxRecDepth 20000 in
set_option maxHeartbeats 4000000 in
theorem r_ref01_List (T : Tabs) {H : Heap}  {r0 : Ty} (hm : ref01_List = some r0) : ACall Tryd.prog T 67 [] H (Ty.av r0) H := by
  rw [ref01_List] at hm
  refine ACallP.intro (fn := Tryd.f67) Tryd.func67 rfl enters67 (Nat.le_of_ble_eq_true rfl) ?_
  refine AWp.seqK fun K1 hk2 => ?_
  refine AWp.region [] (by decide +kernel) ?_
  simp
  refine hk2 _ _ ?_
  refine AWp.seqK fun K3 hk4 => ?_
  refine AWp.region [] (by decide +kernel) ?_
  simp
  refine hk4 _ _ ?_
  refine AWp.ret ?_
  try simp only [thenQ_ret]
  obtain rfl := Option.some.inj hm
  simp [retQ]

theorem enters72 : entersB Tryd.prog 72 = true := by kernel_rfl
set_option maxRecDepth 20000 in
set_option maxHeartbeats 4000000 in
theorem r_ref01_Unit (T : Tabs) {H : Heap}  {r0 : Ty} (hm : ref01_Unit = some r0) : ACall Tryd.prog T 72 [] H (Ty.av r0) H := by
  rw [ref01_Unit] at hm
  refine ACallP.intro (fn := Tryd.f72) Tryd.func72 rfl enters72 (Nat.le_of_ble_eq_true rfl) ?_
  refine AWp.seqK fun K1 hk2 => ?_
  refine AWp.region [] (by decide +kernel) ?_
  simp
  refine hk2 _ _ ?_
  refine AWp.seqK fun K3 hk4 => ?_
  refine AWp.region [] (by decide +kernel) ?_
  simp
  refine hk4 _ _ ?_
  refine AWp.ret ?_
  try simp only [thenQ_ret]
  obtain rfl := Option.some.inj hm
  simp [retQ]

theorem enters73 : entersB Tryd.prog 73 = true := by kernel_rfl
set_option maxRecDepth 20000 in
set_option maxHeartbeats 4000000 in
theorem r_ref01_Two (T : Tabs) {H : Heap} {a0 : Ty} {a1 : Ty} {r0 : Ty} (hm : ref01_Two a0 a1 = some r0) : ACall Tryd.prog T 73 [Ty.av a0, Ty.av a1] H (Ty.av r0) H := by
  rw [ref01_Two] at hm
  refine ACallP.intro (fn := Tryd.f73) Tryd.func73 rfl enters73 (Nat.le_of_ble_eq_true rfl) ?_
  refine AWp.seqK fun K1 hk2 => ?_
  refine AWp.region [] (by decide +kernel) ?_
  simp
  refine hk2 _ _ ?_
  refine AWp.seqK fun K9 hk10 => ?_
  refine AWp.regionD [] false mixed (by decide +kernel) (by decide +kernel) ?_
  obtain ⟨x11, hx12, hm13⟩ := bind1_some hm
  clear hm
  try dsimp only at hm13
  simp
  refine CallAtD.fn (r_ref01_Copy T hx12) (by simp) ?_
  obtain ⟨x14, hx15, hm16⟩ := bind1_some hm13
  clear hm13
  try dsimp only at hm16
  simp
  refine CallAtD.fn (r_ref01_Copy T hx15) (by simp) ?_
  simp
  refine hk10 _ _ ?_
  refine AWp.ret ?_
  try simp only [thenQ_ret]
  have hf17 : AV.agg [AV.sc (.int .i64 3), AV.slice .frz [Ty.av x11, Ty.av x14]] = Ty.av (Ty.mk 3 [x11, x14]) := by rw [Ty.av_mk]; rfl
  have hf18 : AV.agg [AV.sc (.int .i64 3), AV.slice .frz [Ty.av x11, Ty.av x14]] = Ty.av (Ty.mk 3 [x11, x14]) := by rw [Ty.av_mk]; rfl
  obtain rfl := Option.some.inj hm16
  simp [retQ, hf17, hf18]

theorem enters74 : entersB Tryd.prog 74 = true := by kernel_rfl
set_option maxRecDepth 20000 in
set_option maxHeartbeats 4000000 in
theorem r_ref01_Fun (T : Tabs) {H : Heap} {a0 : Ty} {a1 : Ty} {r0 : Ty} (hm : ref01_Fun a0 a1 = some r0) : ACall Tryd.prog T 74 [Ty.av a0, Ty.av a1] H (Ty.av r0) H := by
  rw [ref01_Fun] at hm
  refine ACallP.intro (fn := Tryd.f74) Tryd.func74 rfl enters74 (Nat.le_of_ble_eq_true rfl) ?_
  refine AWp.seqK fun K1 hk2 => ?_
  refine AWp.region [] (by decide +kernel) ?_
  simp
  refine hk2 _ _ ?_
  refine AWp.seqK fun K9 hk10 => ?_
  refine AWp.regionD [] false mixed (by decide +kernel) (by decide +kernel) ?_
  obtain ⟨x11, hx12, hm13⟩ := bind1_some hm
  clear hm
  try dsimp only at hm13
  simp
  refine CallAtD.fn (r_ref01_Copy T hx12) (by simp) ?_
  obtain ⟨x14, hx15, hm16⟩ := bind1_some hm13
  clear hm13
  try dsimp only at hm16
  simp
  refine CallAtD.fn (r_ref01_Copy T hx15) (by simp) ?_
  simp
  refine hk10 _ _ ?_
  refine AWp.ret ?_
  try simp only [thenQ_ret]
  have hf17 : AV.agg [AV.sc (.int .i64 4), AV.slice .frz [Ty.av x11, Ty.av x14]] = Ty.av (Ty.mk 4 [x11, x14]) := by rw [Ty.av_mk]; rfl
  have hf18 : AV.agg [AV.sc (.int .i64 4), AV.slice .frz [Ty.av x11, Ty.av x14]] = Ty.av (Ty.mk 4 [x11, x14]) := by rw [Ty.av_mk]; rfl
  obtain rfl := Option.some.inj hm16
  simp [retQ, hf17, hf18]

theorem enters34 : entersB Tryd.prog 34 = true := by kernel_rfl
set_option maxRecDepth 20000 in
set_option maxHeartbeats 4000000 in
theorem rg_mk_Type (T : Tabs) : ∀ (n : Nat), (∀ {H : Heap} {a0 : Smk_Deck} {a1 : Int} {r0 : Ty} {rd : Smk_Deck} {o : Nat} (ho : o < List.length H) (hm : mk_Type n a0 a1 = some (r0, rd)), ACall Tryd.prog T 34 [AV.gptr o 0, AV.sc (.int .i64 a1)] (hset H o [AV.slice .frz (List.map (fun n => AV.sc (Value.int .i64 n)) a0.l), AV.sc (.int .i64 a0.atF)]) (Ty.av r0) (hset H o [AV.slice .frz (List.map (fun n => AV.sc (Value.int .i64 n)) rd.l), AV.sc (.int .i64 rd.atF)])) := by
  intro n
  induction n with
  | zero =>
    skip
    all_goals
      intros
      rename_i hm
      cases hm
  | succ n ih =>
    intro H a0 a1 r0 rd o ho hm
    rw [mk_Type] at hm
    have hget : ∀ c, (hset H o c)[o]? = some c := fun c => by simp [hset, ho]
    refine ACallP.intro (fn := Tryd.f34) Tryd.func34 rfl enters34 (Nat.le_of_ble_eq_true rfl) ?_
    refine AWp.seqK fun K1 hk2 => ?_
    refine AWp.region [] (by decide +kernel) ?_
    simp [hget]
    refine hk2 _ _ ?_
    obtain ⟨j194, hj195, hm196⟩ := joinB_some hm
    clear hm
    refine AWp.seqP (fun fr h => ∃ (v193 : Smk_Deck) (g4_192 : Nat), hset H o [AV.slice .frz (List.map (fun n => AV.sc (Value.int .i64 n)) v193.l), AV.sc (.int .i64 v193.atF)] = h ∧ fr.env 4 = AV.lptr 4 g4_192 0 ∧ fr.gen 4 = g4_192 ∧ fr.box 4 = some [AV.sc (.int .i64 0), AV.slice .full []] ∧ j194 v193 = some (r0, rd)) (fun K190 hk191 => ?_) ?_
    · refine AWp.seqK fun K202 hk203 => ?_
      refine AWp.region [] (by decide +kernel) ?_
      obtain ⟨x204, d205, hx206, hm207⟩ := bind2_some hm196
      clear hm196
      try dsimp only at hm207
      simp [hget]
      refine CallAt.fn (r_mk_Deck_Next T (by first | exact ho | decide) hx206) ?_
      simp [hget]
      refine hk203 _ _ ?_
      refine AWp.blockK fun Q208 nn209 ne210 nx211 nr212 => ?_
      refine AWp.seqP (fun fr h => ∃ (g4_233 : Nat), hset H o [AV.slice .frz (List.map (fun n => AV.sc (Value.int .i64 n)) d205.l), AV.sc (.int .i64 d205.atF)] = h ∧ fr.env 0 = AV.gptr o 0 ∧ fr.env 1 = AV.sc (.int .i64 a1) ∧ fr.env 4 = AV.lptr 4 g4_233 0 ∧ fr.env 6 = AV.sc (.int .i64 x204) ∧ fr.env 7 = AV.sc (.bool (sel (ieq x204 0) true (sel (ieq x204 1) true (ieq x204 2)))) ∧ fr.gen 4 = g4_233 ∧ fr.box 4 = some [AV.sc (.int .i64 0), AV.slice .full []]) (fun K231 hk232 => ?_) ?_
      · refine AWp.seqK fun K234 hk235 => ?_
        refine AWp.region [] (by decide +kernel) ?_
        simp [hget]
        refine hk235 _ _ ?_
        refine AWp.condK rfl fun A236 B237 ga238 gb239 => ?_
        rcases Bool.eq_false_or_eq_true (ieq x204 0) with hc240 | hc240
        · simp [hget, hc240]
          refine ga238 _ _ ?_
          refine AWp.skip ?_
          try simp only [thenQ_normal]
          refine hk232 _ _ ⟨1, ?_, ?_, ?_, ?_, ?_, ?_, ?_, ?_⟩ <;> first | rfl | simp [hget, hc240]
        · simp [hget, hc240]
          refine gb239 _ _ ?_
          refine AWp.seqK fun K243 hk244 => ?_
          refine AWp.region [] (by decide +kernel) ?_
          simp [hget, hc240]
          refine hk244 _ _ ?_
          refine AWp.condK rfl fun A245 B246 ga247 gb248 => ?_
          rcases Bool.eq_false_or_eq_true (ieq x204 1) with hc249 | hc249
          · simp [hget, hc240, hc249]
            refine ga247 _ _ ?_
            refine AWp.skip ?_
            try simp only [thenQ_normal]
            refine hk232 _ _ ⟨1, ?_, ?_, ?_, ?_, ?_, ?_, ?_, ?_⟩ <;> first | rfl | simp [hget, hc240, hc249]
          · simp [hget, hc240, hc249]
            refine gb248 _ _ ?_
            refine AWp.region [] (by decide +kernel) ?_
            simp [hget, hc240, hc249]
            refine hk232 _ _ ⟨1, ?_, ?_, ?_, ?_, ?_, ?_, ?_, ?_⟩ <;> first | rfl | simp [hget, hc240, hc249]
      · rintro fr233 h233 ⟨g4_233, rfl, e0_233, e1_233, e4_233, e6_233, e7_233, g4e_233, b4_233⟩
        refine AWp.condK rfl fun A252 B253 ga254 gb255 => ?_
        rcases ite_some hm207 with ⟨hc256, hm257⟩ | ⟨hc256, hm258⟩
        · clear hm207
          simp [e0_233, e1_233, e4_233, e6_233, e7_233, g4e_233, b4_233, hget, hc256]
          refine ga254 _ _ ?_
          refine AWp.seqK fun K262 hk263 => ?_
          refine AWp.region [] (by decide +kernel) ?_
          obtain ⟨x264, hx265, hm266⟩ := bind1_some hm257
          clear hm257
          try dsimp only at hm266
          simp [e0_233, e1_233, e4_233, e6_233, e7_233, g4e_233, b4_233, hget, hc256]
          refine CallAt.fn (r_ref01_Nat T hx265) ?_
          simp [e0_233, e1_233, e4_233, e6_233, e7_233, g4e_233, b4_233, hget, hc256]
          refine hk263 _ _ ?_
          refine AWp.ret ?_
          try simp only [thenQ_ret]
          refine nr212 _ _ ?_
          try simp only [thenQ_ret]
          simp only [Option.some.injEq, Prod.mk.injEq] at hm266
          obtain ⟨rfl, rfl⟩ := hm266
          simp [retQ, e0_233, e1_233, e4_233, e6_233, e7_233, g4e_233, b4_233, hget, hc256]
        · clear hm207
          simp [e0_233, e1_233, e4_233, e6_233, e7_233, g4e_233, b4_233, hget, hc256]
          refine gb255 _ _ ?_
          refine AWp.seqK fun K267 hk268 => ?_
          refine AWp.region [] (by decide +kernel) ?_
          simp [e0_233, e1_233, e4_233, e6_233, e7_233, g4e_233, b4_233, hget, hc256]
          refine hk268 _ _ ?_
          refine AWp.condK rfl fun A269 B270 ga271 gb272 => ?_
          rcases ite_some hm258 with ⟨hc273, hm274⟩ | ⟨hc273, hm275⟩
          · clear hm258
            simp [e0_233, e1_233, e4_233, e6_233, e7_233, g4e_233, b4_233, hget, hc256, hc273]
            refine ga271 _ _ ?_
            refine AWp.seqK fun K279 hk280 => ?_
            refine AWp.region [] (by decide +kernel) ?_
            obtain ⟨x281, hx282, hm283⟩ := bind1_some hm274
            clear hm274
            try dsimp only at hm283
            simp [e0_233, e1_233, e4_233, e6_233, e7_233, g4e_233, b4_233, hget, hc256, hc273]
            refine CallAt.fn (r_ref01_List T hx282) ?_
            simp [e0_233, e1_233, e4_233, e6_233, e7_233, g4e_233, b4_233, hget, hc256, hc273]
            refine hk280 _ _ ?_
            refine AWp.ret ?_
            try simp only [thenQ_ret]
            refine nr212 _ _ ?_
            try simp only [thenQ_ret]
            simp only [Option.some.injEq, Prod.mk.injEq] at hm283
            obtain ⟨rfl, rfl⟩ := hm283
            simp [retQ, e0_233, e1_233, e4_233, e6_233, e7_233, g4e_233, b4_233, hget, hc256, hc273]
          · clear hm258
            simp [e0_233, e1_233, e4_233, e6_233, e7_233, g4e_233, b4_233, hget, hc256, hc273]
            refine gb272 _ _ ?_
            refine AWp.seqK fun K284 hk285 => ?_
            refine AWp.region [] (by decide +kernel) ?_
            simp [e0_233, e1_233, e4_233, e6_233, e7_233, g4e_233, b4_233, hget, hc256, hc273]
            refine hk285 _ _ ?_
            refine AWp.condK rfl fun A286 B287 ga288 gb289 => ?_
            rcases ite_some hm275 with ⟨hc290, hm291⟩ | ⟨hc290, hm292⟩
            · clear hm275
              simp [e0_233, e1_233, e4_233, e6_233, e7_233, g4e_233, b4_233, hget, hc256, hc273, hc290]
              refine ga288 _ _ ?_
              refine AWp.seqK fun K296 hk297 => ?_
              refine AWp.region [] (by decide +kernel) ?_
              obtain ⟨x298, hx299, hm300⟩ := bind1_some hm291
              clear hm291
              try dsimp only at hm300
              simp [e0_233, e1_233, e4_233, e6_233, e7_233, g4e_233, b4_233, hget, hc256, hc273, hc290]
              refine CallAt.fn (r_ref01_Unit T hx299) ?_
              simp [e0_233, e1_233, e4_233, e6_233, e7_233, g4e_233, b4_233, hget, hc256, hc273, hc290]
              refine hk297 _ _ ?_
              refine AWp.ret ?_
              try simp only [thenQ_ret]
              refine nr212 _ _ ?_
              try simp only [thenQ_ret]
              simp only [Option.some.injEq, Prod.mk.injEq] at hm300
              obtain ⟨rfl, rfl⟩ := hm300
              simp [retQ, e0_233, e1_233, e4_233, e6_233, e7_233, g4e_233, b4_233, hget, hc256, hc273, hc290]
            · clear hm275
              simp [e0_233, e1_233, e4_233, e6_233, e7_233, g4e_233, b4_233, hget, hc256, hc273, hc290]
              refine gb289 _ _ ?_
              refine AWp.seqK fun K301 hk302 => ?_
              refine AWp.region [] (by decide +kernel) ?_
              simp [e0_233, e1_233, e4_233, e6_233, e7_233, g4e_233, b4_233, hget, hc256, hc273, hc290]
              refine hk302 _ _ ?_
              refine AWp.condK rfl fun A303 B304 ga305 gb306 => ?_
              rcases ite_some hm292 with ⟨hc307, hm308⟩ | ⟨hc307, hm309⟩
              · clear hm292
                simp [e0_233, e1_233, e4_233, e6_233, e7_233, g4e_233, b4_233, hget, hc256, hc273, hc290, hc307]
                refine ga305 _ _ ?_
                refine AWp.seqK fun K310 hk311 => ?_
                refine AWp.region [] (by decide +kernel) ?_
                simp [e0_233, e1_233, e4_233, e6_233, e7_233, g4e_233, b4_233, hget, hc256, hc273, hc290, hc307]
                refine hk311 _ _ ?_
                refine AWp.condK rfl fun A312 B313 ga314 gb315 => ?_
                rcases ite_some hm308 with ⟨hc316, hm317⟩ | ⟨hc316, hm318⟩
                · clear hm308
                  simp [e0_233, e1_233, e4_233, e6_233, e7_233, g4e_233, b4_233, hget, hc256, hc273, hc290, hc307, hc316]
                  refine ga314 _ _ ?_
                  refine AWp.seqK fun K330 hk331 => ?_
                  refine AWp.region [] (by decide +kernel) ?_
                  obtain ⟨x332, d333, hx334, hm335⟩ := bind2_some hm317
                  clear hm317
                  try dsimp only at hm335
                  simp [e0_233, e1_233, e4_233, e6_233, e7_233, g4e_233, b4_233, hget, hc256, hc273, hc290, hc307, hc316]
                  refine CallAt.fn (ih (by first | exact ho | decide) hx334) ?_
                  obtain ⟨x336, d337, hx338, hm339⟩ := bind2_some hm335
                  clear hm335
                  try dsimp only at hm339
                  simp [e0_233, e1_233, e4_233, e6_233, e7_233, g4e_233, b4_233, hget, hc256, hc273, hc290, hc307, hc316]
                  refine CallAt.fn (ih (by first | exact ho | decide) hx338) ?_
                  obtain ⟨x340, hx341, hm342⟩ := bind1_some hm339
                  clear hm339
                  try dsimp only at hm342
                  simp [e0_233, e1_233, e4_233, e6_233, e7_233, g4e_233, b4_233, hget, hc256, hc273, hc290, hc307, hc316]
                  refine CallAt.fn (r_ref01_Two T hx341) ?_
                  simp [e0_233, e1_233, e4_233, e6_233, e7_233, g4e_233, b4_233, hget, hc256, hc273, hc290, hc307, hc316]
                  refine hk331 _ _ ?_
                  refine AWp.ret ?_
                  try simp only [thenQ_ret]
                  refine nr212 _ _ ?_
                  try simp only [thenQ_ret]
                  simp only [Option.some.injEq, Prod.mk.injEq] at hm342
                  obtain ⟨rfl, rfl⟩ := hm342
                  simp [retQ, e0_233, e1_233, e4_233, e6_233, e7_233, g4e_233, b4_233, hget, hc256, hc273, hc290, hc307, hc316]
                · clear hm308
                  simp [e0_233, e1_233, e4_233, e6_233, e7_233, g4e_233, b4_233, hget, hc256, hc273, hc290, hc307, hc316]
                  refine gb315 _ _ ?_
                  refine AWp.skip ?_
                  try simp only [thenQ_normal]
                  refine nn209 _ _ ?_
                  try simp only [thenQ_normal]
                  refine hk191 _ _ ⟨d205, g4_233, ?_, ?_, ?_, ?_, hm318⟩ <;> first | rfl | simp [e0_233, e1_233, e4_233, e6_233, e7_233, g4e_233, b4_233, hget, hc256, hc273, hc290, hc307, hc316]
              · clear hm292
                simp [e0_233, e1_233, e4_233, e6_233, e7_233, g4e_233, b4_233, hget, hc256, hc273, hc290, hc307]
                refine gb306 _ _ ?_
                refine AWp.seqK fun K343 hk344 => ?_
                refine AWp.region [] (by decide +kernel) ?_
                simp [e0_233, e1_233, e4_233, e6_233, e7_233, g4e_233, b4_233, hget, hc256, hc273, hc290, hc307]
                refine hk344 _ _ ?_
                refine AWp.condK rfl fun A345 B346 ga347 gb348 => ?_
                rcases ite_some hm309 with ⟨hc349, hm350⟩ | ⟨hc349, hm351⟩
                · clear hm309
                  simp [e0_233, e1_233, e4_233, e6_233, e7_233, g4e_233, b4_233, hget, hc256, hc273, hc290, hc307, hc349]
                  refine ga347 _ _ ?_
                  refine AWp.seqK fun K352 hk353 => ?_
                  refine AWp.region [] (by decide +kernel) ?_
                  simp [e0_233, e1_233, e4_233, e6_233, e7_233, g4e_233, b4_233, hget, hc256, hc273, hc290, hc307, hc349]
                  refine hk353 _ _ ?_
                  refine AWp.condK rfl fun A354 B355 ga356 gb357 => ?_
                  rcases ite_some hm350 with ⟨hc358, hm359⟩ | ⟨hc358, hm360⟩
                  · clear hm350
                    simp [e0_233, e1_233, e4_233, e6_233, e7_233, g4e_233, b4_233, hget, hc256, hc273, hc290, hc307, hc349, hc358]
                    refine ga356 _ _ ?_
                    refine AWp.seqK fun K372 hk373 => ?_
                    refine AWp.region [] (by decide +kernel) ?_
                    obtain ⟨x374, d375, hx376, hm377⟩ := bind2_some hm359
                    clear hm359
                    try dsimp only at hm377
                    simp [e0_233, e1_233, e4_233, e6_233, e7_233, g4e_233, b4_233, hget, hc256, hc273, hc290, hc307, hc349, hc358]
                    refine CallAt.fn (ih (by first | exact ho | decide) hx376) ?_
                    obtain ⟨x378, d379, hx380, hm381⟩ := bind2_some hm377
                    clear hm377
                    try dsimp only at hm381
                    simp [e0_233, e1_233, e4_233, e6_233, e7_233, g4e_233, b4_233, hget, hc256, hc273, hc290, hc307, hc349, hc358]
                    refine CallAt.fn (ih (by first | exact ho | decide) hx380) ?_
                    obtain ⟨x382, hx383, hm384⟩ := bind1_some hm381
                    clear hm381
                    try dsimp only at hm384
                    simp [e0_233, e1_233, e4_233, e6_233, e7_233, g4e_233, b4_233, hget, hc256, hc273, hc290, hc307, hc349, hc358]
                    refine CallAt.fn (r_ref01_Fun T hx383) ?_
                    simp [e0_233, e1_233, e4_233, e6_233, e7_233, g4e_233, b4_233, hget, hc256, hc273, hc290, hc307, hc349, hc358]
                    refine hk373 _ _ ?_
                    refine AWp.ret ?_
                    try simp only [thenQ_ret]
                    refine nr212 _ _ ?_
                    try simp only [thenQ_ret]
                    simp only [Option.some.injEq, Prod.mk.injEq] at hm384
                    obtain ⟨rfl, rfl⟩ := hm384
                    simp [retQ, e0_233, e1_233, e4_233, e6_233, e7_233, g4e_233, b4_233, hget, hc256, hc273, hc290, hc307, hc349, hc358]
                  · clear hm350
                    simp [e0_233, e1_233, e4_233, e6_233, e7_233, g4e_233, b4_233, hget, hc256, hc273, hc290, hc307, hc349, hc358]
                    refine gb357 _ _ ?_
                    refine AWp.skip ?_
                    try simp only [thenQ_normal]
                    refine nn209 _ _ ?_
                    try simp only [thenQ_normal]
                    refine hk191 _ _ ⟨d205, g4_233, ?_, ?_, ?_, ?_, hm360⟩ <;> first | rfl | simp [e0_233, e1_233, e4_233, e6_233, e7_233, g4e_233, b4_233, hget, hc256, hc273, hc290, hc307, hc349, hc358]
                · clear hm309
                  simp [e0_233, e1_233, e4_233, e6_233, e7_233, g4e_233, b4_233, hget, hc256, hc273, hc290, hc307, hc349]
                  refine gb348 _ _ ?_
                  refine AWp.skip ?_
                  try simp only [thenQ_normal]
                  refine nn209 _ _ ?_
                  try simp only [thenQ_normal]
                  refine hk191 _ _ ⟨d205, g4_233, ?_, ?_, ?_, ?_, hm351⟩ <;> first | rfl | simp [e0_233, e1_233, e4_233, e6_233, e7_233, g4e_233, b4_233, hget, hc256, hc273, hc290, hc307, hc349]
    · clear hm196
      rintro fr192 h192 ⟨v193, g4_192, rfl, e4_192, g4e_192, b4_192, hm197⟩
      subst hj195
      refine AWp.seqK fun K388 hk389 => ?_
      refine AWp.region [] (by decide +kernel) ?_
      obtain ⟨x390, hx391, hm392⟩ := bind1_some hm197
      clear hm197
      try dsimp only at hm392
      simp [e4_192, g4e_192, b4_192, hget]
      refine CallAt.fn (r_ref01_Nat T hx391) ?_
      simp [e4_192, g4e_192, b4_192, hget]
      refine hk389 _ _ ?_
      refine AWp.ret ?_
      try simp only [thenQ_ret]
      simp only [Option.some.injEq, Prod.mk.injEq] at hm392
      obtain ⟨rfl, rfl⟩ := hm392
      simp [retQ, e4_192, g4e_192, b4_192, hget]
theorem r_mk_Type (T : Tabs) {H : Heap} {a0 : Smk_Deck} {a1 : Int} {r0 : Ty} {rd : Smk_Deck} {o : Nat} (ho : o < List.length H) {n : Nat} (hm : mk_Type n a0 a1 = some (r0, rd)) : ACall Tryd.prog T 34 [AV.gptr o 0, AV.sc (.int .i64 a1)] (hset H o [AV.slice .frz (List.map (fun n => AV.sc (Value.int .i64 n)) a0.l), AV.sc (.int .i64 a0.atF)]) (Ty.av r0) (hset H o [AV.slice .frz (List.map (fun n => AV.sc (Value.int .i64 n)) rd.l), AV.sc (.int .i64 rd.atF)]) := (rg_mk_Type T n) ho hm

theorem enters25 : entersB Tryd.prog 25 = true := by kernel_rfl
set_option maxRecDepth 20000 in
set_option maxHeartbeats 4000000 in
theorem r_mk_Context (T : Tabs) {H : Heap} {a0 : Smk_Deck} {r0 : (List Ty)} {rd : Smk_Deck} {o : Nat} (ho : o < List.length H) (hm : mk_Context a0 = some (r0, rd)) : ACall Tryd.prog T 25 [AV.gptr o 0] (hset H o [AV.slice .frz (List.map (fun n => AV.sc (Value.int .i64 n)) a0.l), AV.sc (.int .i64 a0.atF)]) (AV.slice .frz (List.map Ty.av r0)) (hset H o [AV.slice .frz (List.map (fun n => AV.sc (Value.int .i64 n)) rd.l), AV.sc (.int .i64 rd.atF)]) := by
  rw [mk_Context] at hm
  have hget : ∀ c, (hset H o c)[o]? = some c := fun c => by simp [hset, ho]
  refine ACallP.intro (fn := Tryd.f25) Tryd.func25 rfl enters25 (Nat.le_of_ble_eq_true rfl) ?_
  refine AWp.seqK fun K1 hk2 => ?_
  refine AWp.region [] (by decide +kernel) ?_
  simp [hget]
  refine hk2 _ _ ?_
  refine AWp.seqK fun K3 hk4 => ?_
  refine AWp.region [] (by decide +kernel) ?_
  simp [hget]
  refine hk4 _ _ ?_
  refine AWp.seqK fun K112 hk113 => ?_
  refine AWp.seqK fun K118 hk119 => ?_
  refine AWp.region [] (by decide +kernel) ?_
  obtain ⟨x120, d121, hx122, hm123⟩ := bind2_some hm
  clear hm
  try dsimp only at hm123
  simp [hget]
  refine CallAt.fn (r_mk_Deck_Next T (by first | exact ho | decide) hx122) ?_
  simp [hget]
  refine hk119 _ _ ?_
  obtain ⟨F221, hF222, hm285⟩ := joinB_some hm123
  clear hm123
  try dsimp only at hm285
  obtain ⟨out223, hl224, hmB225⟩ := bind1_some hm285
  clear hm285
  refine AWp.blockK fun Q230 nn231 ne232 nx233 nr234 => ?_
  refine AWp.loopF (fun n229 fr h => ∃ (v218 : (List Ty)) (v219 : Int) (v220 : Smk_Deck) (tg0_217 : Tag), hset H o [AV.slice .frz (List.map (fun n => AV.sc (Value.int .i64 n)) v220.l), AV.sc (.int .i64 v220.atF)] = h ∧ fr.env 0 = AV.gptr o 0 ∧ fr.env 3 = AV.slice tg0_217 (List.map Ty.av v218) ∧ fr.env 4 = AV.sc (.int .i64 v219) ∧ OwnT fr.tab fr.tgen [15] tg0_217 (List.length v218) ∧ loopN F221 n229 (v218, v219, v220) = some out223) FU ?_ ?_
  · refine ⟨[], x120, d121, .full, ?_, ?_, ?_, ?_, OwnT.full, hl224⟩ <;> first | rfl | simp [hget]
  · rintro n229 fr217 h217 ⟨v218, v219, v220, tg0_217, rfl, e0_217, e3_217, e4_217, o0_217, hl224⟩ K236 hK235
    rcases n229 with _ | n229
    · rw [loopN_zero] at hl224
      cases hl224
    · rw [loopN_succ] at hl224
      obtain ⟨c226, hb228, hk227⟩ := bind1_some hl224
      clear hl224
      rw [hF222] at hb228
      try dsimp only at hb228
      rw [un3_mk] at hb228
      try dsimp only at hb228
      refine AWp.seqK fun K248 hk249 => ?_
      refine AWp.seqK fun K250 hk251 => ?_
      refine AWp.region [] (by decide +kernel) ?_
      simp [e0_217, e3_217, e4_217, hget]
      refine hk251 _ _ ?_
      refine AWp.condK rfl fun A252 B253 ga254 gb255 => ?_
      rcases ite_some hb228 with ⟨hc256, hm257⟩ | ⟨hc256, hm258⟩
      · clear hb228
        simp [e0_217, e3_217, e4_217, hget, hc256]
        refine ga254 _ _ ?_
        refine AWp.skip ?_
        try simp only [thenQ_normal]
        refine hk249 _ _ ?_
        refine AWp.seqK fun K270 hk271 => ?_
        refine AWp.blockK fun Q272 nn273 ne274 nx275 nr276 => ?_
        refine AWp.region [] (by decide +kernel) ?_
        obtain ⟨x277, d278, hx279, hm280⟩ := bind2_some hm257
        clear hm257
        try dsimp only at hm280
        simp [e0_217, e3_217, e4_217, hget, hc256]
        refine CallAt.fn (r_mk_Type T (by first | exact ho | decide) hx279) ?_
        obtain ⟨ha281, hm282⟩ := chk_some hm280
        clear hm280
        simp [e0_217, e3_217, e4_217, hget, hc256]
        refine AppAt.own (f := Ty.av) v218 [x277] o0_217 ap23 (by intro x; simp) ha281 (by first | rfl | simp) (by first | rfl | simp) ?_
        simp [e0_217, e3_217, e4_217, hget, hc256]
        refine nn273 _ _ ?_
        try simp only [thenQ_normal]
        refine hk271 _ _ ?_
        refine AWp.region [] (by decide +kernel) ?_
        simp [e0_217, e3_217, e4_217, hget, hc256]
        obtain rfl := Option.some.inj hm282
        rw [ctlK_next] at hk227
        refine hK235 _ _ n229 (Nat.lt_succ_self _) ⟨(lapp v218 [x277]), (isub .i64 v219 1), d278, (.loc 15 (fr217.tgen 15 + 1)), ?_, ?_, ?_, ?_, (OwnT.mono (D := [15]) (OwnT.new (D := [15]) (d := 15) (by decide)) (by decide)), hk227⟩ <;> first | rfl | simp [e0_217, e3_217, e4_217, hget, hc256]
      · clear hb228
        simp [e0_217, e3_217, e4_217, hget, hc256]
        refine gb255 _ _ ?_
        refine AWp.exit ?_
        try simp only [thenQ_exit]
        refine ne232 _ _ ?_
        try simp only [thenQ_normal]
        obtain rfl := Option.some.inj hm258
        rw [ctlK_brk] at hk227
        obtain rfl := Option.some.inj hk227
        rw [sumK_inl, un3_mk] at hmB225
        try dsimp only at hmB225
        refine hk113 _ _ ?_
        refine AWp.seqK fun K283 hk284 => ?_
        refine AWp.region [] (by decide +kernel) ?_
        simp [e0_217, e3_217, e4_217, hget, hc256]
        refine hk284 _ _ ?_
        refine AWp.ret ?_
        try simp only [thenQ_ret]
        simp only [Option.some.injEq, Prod.mk.injEq] at hmB225
        obtain ⟨rfl, rfl⟩ := hmB225
        simp [retQ, e0_217, e3_217, e4_217, hget, hc256]

theorem enters53 : entersB Tryd.prog 53 = true := by kernel_rfl
set_option maxRecDepth 20000 in
set_option maxHeartbeats 4000000 in
theorem rg_ref07_Copy (T : Tabs) : ∀ (n : Nat), (∀ {H : Heap} {a0 : Fm} {r0 : Fm} (hm : ref07_Copy n a0 = some r0), ACall Tryd.prog T 53 [Fm.av a0] H (Fm.av r0) H) := by
  intro n
  induction n with
  | zero =>
    skip
    all_goals
      intros
      rename_i hm
      cases hm
  | succ n ih =>
    intro H a0 r0 hm
    rw [ref07_Copy] at hm
    refine ACallP.intro (fn := Tryd.f53) Tryd.func53 rfl enters53 (Nat.le_of_ble_eq_true rfl) ?_
    refine AWp.seqK fun K1 hk2 => ?_
    refine AWp.region [] (by decide +kernel) ?_
    simp
    refine hk2 _ _ ?_
    refine AWp.seqK fun K6 hk7 => ?_
    refine AWp.regionD [] false mixed (by decide +kernel) (by decide +kernel) ?_
    obtain ⟨x8, hx9, hm10⟩ := bind1_some hm
    clear hm
    try dsimp only at hm10
    simp
    refine CallAtD.fn (r_ref01_Copy T hx9) (by simp) ?_
    simp
    refine hk7 _ _ ?_
    refine AWp.seqK fun K97 hk98 => ?_
    refine AWp.seqK fun K99 hk100 => ?_
    refine AWp.region [] (by decide +kernel) ?_
    simp
    refine hk100 _ _ ?_
    obtain ⟨hok203, hm505⟩ := chk_some hm10
    clear hm10
    obtain ⟨F185, hF186, hm506⟩ := joinB_some hm505
    clear hm505
    try dsimp only at hm506
    obtain ⟨out187, hl188, hmB189⟩ := bind1_some hm506
    clear hm506
    refine AWp.blockK fun Q194 nn195 ne196 nx197 nr198 => ?_
    refine AWp.loopF (fun n193 fr h => ∃ (i102 : Nat) (j101 : Int) (v184 : (List Tm)) (tg0_183 : Tag) (g1_183 : Nat) (g2_183 : Nat) (g3_183 : Nat), H = h ∧ fr.env 1 = AV.lptr 1 g1_183 0 ∧ fr.env 2 = AV.lptr 2 g2_183 0 ∧ fr.env 3 = AV.lptr 3 g3_183 0 ∧ fr.env 15 = AV.slice .frz (List.map Tm.av a0.terms) ∧ fr.env 16 = AV.sc (.int .i64 (llen a0.terms)) ∧ fr.env 17 = AV.sc (.int .i64 j101) ∧ fr.gen 1 = g1_183 ∧ fr.box 1 = some [AV.sc (.int .i64 a0.kind), AV.sc (.int .i64 a0.typeF.kind), AV.slice .frz (List.map Ty.av a0.typeF.args), AV.slice .frz (List.map Tm.av a0.terms), AV.slice .frz (List.map Fm.av a0.args)] ∧ fr.gen 2 = g2_183 ∧ fr.box 2 = some [AV.sc (.int .i64 0), AV.sc (.int .i64 0), AV.slice .full [], AV.slice .full [], AV.slice .full []] ∧ fr.gen 3 = g3_183 ∧ fr.box 3 = some [AV.sc (.int .i64 a0.kind), AV.sc (.int .i64 x8.kind), AV.slice .frz (List.map Ty.av x8.args), AV.slice tg0_183 (List.map Tm.av v184), AV.slice .full []] ∧ OwnT fr.tab fr.tgen [26] tg0_183 (List.length v184) ∧ j101 = (i102 : Int) ∧ i102 + n193 = List.length a0.terms ∧ forR F185 (List.drop i102 a0.terms) i102 v184 = some out187) (List.length a0.terms) ?_ ?_
    · refine ⟨0, 0, [], .full, 1, 1, 1, ?_, ?_, ?_, ?_, ?_, ?_, ?_, ?_, ?_, ?_, ?_, ?_, ?_, OwnT.full, rfl, (by simp), hl188⟩ <;> first | rfl | simp
    · rintro n193 fr183 h183 ⟨i102, j101, v184, tg0_183, g1_183, g2_183, g3_183, rfl, e1_183, e2_183, e3_183, e15_183, e16_183, e17_183, g1e_183, b1_183, g2e_183, b2_183, g3e_183, b3_183, o0_183, hj201, hi202, hl188⟩ K200 hK199
      rcases n193 with _ | n193
      · have hlt204 := ilt_notJ (l := a0.terms) hj201 (by omega)
        refine AWp.seqK fun K244 hk245 => ?_
        refine AWp.region [] (by decide +kernel) ?_
        simp [e1_183, e2_183, e3_183, e15_183, e16_183, e17_183, g1e_183, b1_183, g2e_183, b2_183, g3e_183, b3_183, hlt204]
        refine hk245 _ _ ?_
        refine AWp.seqK fun K250 hk251 => ?_
        refine AWp.condK rfl fun A252 B253 ga254 gb255 => ?_
        simp [e1_183, e2_183, e3_183, e15_183, e16_183, e17_183, g1e_183, b1_183, g2e_183, b2_183, g3e_183, b3_183, hlt204]
        refine gb255 _ _ ?_
        refine AWp.exit ?_
        try simp only [thenQ_exit]
        refine ne196 _ _ ?_
        try simp only [thenQ_normal]
        rw [List.drop_eq_nil_of_le (by omega), forR_nil] at hl188
        obtain rfl := Option.some.inj hl188
        rw [sumK_inl] at hmB189
        try dsimp only at hmB189
        refine hk98 _ _ ?_
        refine AWp.seqK fun K342 hk343 => ?_
        refine AWp.seqK fun K344 hk345 => ?_
        refine AWp.region [] (by decide +kernel) ?_
        simp [e1_183, e2_183, e3_183, e15_183, e16_183, e17_183, g1e_183, b1_183, g2e_183, b2_183, g3e_183, b3_183, hlt204]
        refine hk345 _ _ ?_
        obtain ⟨hok448, hm503⟩ := chk_some hmB189
        clear hmB189
        obtain ⟨F430, hF431, hm504⟩ := joinB_some hm503
        clear hm503
        try dsimp only at hm504
        obtain ⟨out432, hl433, hmB434⟩ := bind1_some hm504
        clear hm504
        refine AWp.blockK fun Q439 nn440 ne441 nx442 nr443 => ?_
        refine AWp.loopF (fun n438 fr h => ∃ (i347 : Nat) (j346 : Int) (v429 : (List Fm)) (tg0_428 : Tag) (tg1_428 : Tag) (g2_428 : Nat) (g3_428 : Nat), H = h ∧ fr.env 2 = AV.lptr 2 g2_428 0 ∧ fr.env 3 = AV.lptr 3 g3_428 0 ∧ fr.env 30 = AV.slice .frz (List.map Fm.av a0.args) ∧ fr.env 31 = AV.sc (.int .i64 (llen a0.args)) ∧ fr.env 32 = AV.sc (.int .i64 j346) ∧ fr.gen 2 = g2_428 ∧ fr.box 2 = some [AV.sc (.int .i64 0), AV.sc (.int .i64 0), AV.slice .full [], AV.slice .full [], AV.slice .full []] ∧ fr.gen 3 = g3_428 ∧ fr.box 3 = some [AV.sc (.int .i64 a0.kind), AV.sc (.int .i64 x8.kind), AV.slice .frz (List.map Ty.av x8.args), AV.slice tg0_428 (List.map Tm.av v184), AV.slice tg1_428 (List.map Fm.av v429)] ∧ OwnT fr.tab fr.tgen [26] tg0_428 (List.length v184) ∧ OwnT fr.tab fr.tgen [41] tg1_428 (List.length v429) ∧ j346 = (i347 : Int) ∧ i347 + n438 = List.length a0.args ∧ forR F430 (List.drop i347 a0.args) i347 v429 = some out432) (List.length a0.args) ?_ ?_
        · refine ⟨0, 0, [], tg0_183, .full, g2_183, g3_183, ?_, ?_, ?_, ?_, ?_, ?_, ?_, ?_, ?_, ?_, (OwnT.mono (D := [26]) o0_183 (by decide)), OwnT.full, rfl, (by simp), hl433⟩ <;> first | rfl | simp [e1_183, e2_183, e3_183, e15_183, e16_183, e17_183, g1e_183, b1_183, g2e_183, b2_183, g3e_183, b3_183, hlt204]
        · rintro n438 fr428 h428 ⟨i347, j346, v429, tg0_428, tg1_428, g2_428, g3_428, rfl, e2_428, e3_428, e30_428, e31_428, e32_428, g2e_428, b2_428, g3e_428, b3_428, o0_428, o1_428, hj446, hi447, hl433⟩ K445 hK444
          rcases n438 with _ | n438
          · have hlt449 := ilt_notJ (l := a0.args) hj446 (by omega)
            refine AWp.seqK fun K489 hk490 => ?_
            refine AWp.region [] (by decide +kernel) ?_
            simp [e2_428, e3_428, e30_428, e31_428, e32_428, g2e_428, b2_428, g3e_428, b3_428, hlt204, hlt449]
            refine hk490 _ _ ?_
            refine AWp.seqK fun K495 hk496 => ?_
            refine AWp.condK rfl fun A497 B498 ga499 gb500 => ?_
            simp [e2_428, e3_428, e30_428, e31_428, e32_428, g2e_428, b2_428, g3e_428, b3_428, hlt204, hlt449]
            refine gb500 _ _ ?_
            refine AWp.exit ?_
            try simp only [thenQ_exit]
            refine ne441 _ _ ?_
            try simp only [thenQ_normal]
            rw [List.drop_eq_nil_of_le (by omega), forR_nil] at hl433
            obtain rfl := Option.some.inj hl433
            rw [sumK_inl] at hmB434
            try dsimp only at hmB434
            refine hk343 _ _ ?_
            refine AWp.seqK fun K501 hk502 => ?_
            refine AWp.region [] (by decide +kernel) ?_
            simp [e2_428, e3_428, e30_428, e31_428, e32_428, g2e_428, b2_428, g3e_428, b3_428, hlt204, hlt449]
            refine hk502 _ _ ?_
            refine AWp.ret ?_
            try simp only [thenQ_ret]
            obtain rfl := Option.some.inj hmB434
            simp [retQ, e2_428, e3_428, e30_428, e31_428, e32_428, g2e_428, b2_428, g3e_428, b3_428, hlt204, hlt449]
          · have hlt449 := ilt_ofJ (l := a0.args) hj446 (by omega)
            obtain ⟨x348, hdn438, hg450⟩ := drop_ltJ (l := a0.args) hj446 (by omega)
            rw [hdn438, forR_cons] at hl433
            obtain ⟨c435, hb437, hk436⟩ := bind1_some hl433
            clear hl433
            rw [hF431, ← hj446] at hb437
            try dsimp only at hb437
            refine AWp.seqK fun K451 hk452 => ?_
            refine AWp.region [] (by decide +kernel) ?_
            simp [e2_428, e3_428, e30_428, e31_428, e32_428, g2e_428, b2_428, g3e_428, b3_428, hlt204, hlt449, hg450]
            refine hk452 _ _ ?_
            refine AWp.seqK fun K457 hk458 => ?_
            refine AWp.condK rfl fun A459 B460 ga461 gb462 => ?_
            simp [e2_428, e3_428, e30_428, e31_428, e32_428, g2e_428, b2_428, g3e_428, b3_428, hlt204, hlt449, hg450]
            refine ga461 _ _ ?_
            refine AWp.skip ?_
            try simp only [thenQ_normal]
            refine hk458 _ _ ?_
            refine AWp.seqK fun K475 hk476 => ?_
            refine AWp.blockK fun Q477 nn478 ne479 nx480 nr481 => ?_
            refine AWp.seqK fun K482 hk483 => ?_
            refine AWp.region [] (by decide +kernel) ?_
            simp [e2_428, e3_428, e30_428, e31_428, e32_428, g2e_428, b2_428, g3e_428, b3_428, hlt204, hlt449, hg450]
            refine hk483 _ _ ?_
            refine AWp.regionD [] false mixed (by decide +kernel) (by decide +kernel) ?_
            obtain ⟨x484, hx485, hm486⟩ := bind1_some hb437
            clear hb437
            try dsimp only at hm486
            simp [e2_428, e3_428, e30_428, e31_428, e32_428, g2e_428, b2_428, g3e_428, b3_428, hlt204, hlt449, hg450]
            refine CallAtD.fn (ih hx485) (by simp) ?_
            obtain ⟨ha487, hm488⟩ := chk_some hm486
            clear hm486
            simp [e2_428, e3_428, e30_428, e31_428, e32_428, g2e_428, b2_428, g3e_428, b3_428, hlt204, hlt449, hg450]
            refine AppAt.own (f := Fm.av) v429 [x484] o1_428 ap27 (by intro x; simp) ha487 (by first | rfl | simp) (by first | rfl | simp) ?_
            simp [e2_428, e3_428, e30_428, e31_428, e32_428, g2e_428, b2_428, g3e_428, b3_428, hlt204, hlt449, hg450]
            refine nn478 _ _ ?_
            try simp only [thenQ_normal]
            refine hk476 _ _ ?_
            refine AWp.region [] (by decide +kernel) ?_
            simp [e2_428, e3_428, e30_428, e31_428, e32_428, g2e_428, b2_428, g3e_428, b3_428, hlt204, hlt449, hg450]
            obtain rfl := Option.some.inj hm488
            rw [ctlK_next] at hk436
            refine hK444 _ _ n438 (Nat.lt_succ_self _) ⟨(i347 + 1), (iadd .i64 j346 1), (lapp v429 [x484]), tg0_428, (.loc 41 (fr428.tgen 41 + 1)), g2_428, g3_428, ?_, ?_, ?_, ?_, ?_, ?_, ?_, ?_, ?_, ?_, (OwnT.mono (D := [26]) (OwnT.other o0_428 o1_428 (by decide) (by decide)) (by decide)), (OwnT.mono (D := [41]) (OwnT.new (D := [41]) (d := 41) (by decide)) (by decide)), (iadd_idxJ hj446 (by omega) hok448), (by omega), hk436⟩ <;> first | rfl | simp [e2_428, e3_428, e30_428, e31_428, e32_428, g2e_428, b2_428, g3e_428, b3_428, hlt204, hlt449, hg450]
      · have hlt204 := ilt_ofJ (l := a0.terms) hj201 (by omega)
        obtain ⟨x103, hdn193, hg205⟩ := drop_ltJ (l := a0.terms) hj201 (by omega)
        rw [hdn193, forR_cons] at hl188
        obtain ⟨c190, hb192, hk191⟩ := bind1_some hl188
        clear hl188
        rw [hF186, ← hj201] at hb192
        try dsimp only at hb192
        refine AWp.seqK fun K206 hk207 => ?_
        refine AWp.region [] (by decide +kernel) ?_
        simp [e1_183, e2_183, e3_183, e15_183, e16_183, e17_183, g1e_183, b1_183, g2e_183, b2_183, g3e_183, b3_183, hlt204, hg205]
        refine hk207 _ _ ?_
        refine AWp.seqK fun K212 hk213 => ?_
        refine AWp.condK rfl fun A214 B215 ga216 gb217 => ?_
        simp [e1_183, e2_183, e3_183, e15_183, e16_183, e17_183, g1e_183, b1_183, g2e_183, b2_183, g3e_183, b3_183, hlt204, hg205]
        refine ga216 _ _ ?_
        refine AWp.skip ?_
        try simp only [thenQ_normal]
        refine hk213 _ _ ?_
        refine AWp.seqK fun K230 hk231 => ?_
        refine AWp.blockK fun Q232 nn233 ne234 nx235 nr236 => ?_
        refine AWp.seqK fun K237 hk238 => ?_
        refine AWp.region [] (by decide +kernel) ?_
        simp [e1_183, e2_183, e3_183, e15_183, e16_183, e17_183, g1e_183, b1_183, g2e_183, b2_183, g3e_183, b3_183, hlt204, hg205]
        refine hk238 _ _ ?_
        refine AWp.regionD [] false mixed (by decide +kernel) (by decide +kernel) ?_
        obtain ⟨x239, hx240, hm241⟩ := bind1_some hb192
        clear hb192
        try dsimp only at hm241
        simp [e1_183, e2_183, e3_183, e15_183, e16_183, e17_183, g1e_183, b1_183, g2e_183, b2_183, g3e_183, b3_183, hlt204, hg205]
        refine CallAtD.fn (r_ref02_Copy T hx240) (by simp) ?_
        obtain ⟨ha242, hm243⟩ := chk_some hm241
        clear hm241
        simp [e1_183, e2_183, e3_183, e15_183, e16_183, e17_183, g1e_183, b1_183, g2e_183, b2_183, g3e_183, b3_183, hlt204, hg205]
        refine AppAt.own (f := Tm.av) v184 [x239] o0_183 ap26 (by intro x; simp) ha242 (by first | rfl | simp) (by first | rfl | simp) ?_
        simp [e1_183, e2_183, e3_183, e15_183, e16_183, e17_183, g1e_183, b1_183, g2e_183, b2_183, g3e_183, b3_183, hlt204, hg205]
        refine nn233 _ _ ?_
        try simp only [thenQ_normal]
        refine hk231 _ _ ?_
        refine AWp.region [] (by decide +kernel) ?_
        simp [e1_183, e2_183, e3_183, e15_183, e16_183, e17_183, g1e_183, b1_183, g2e_183, b2_183, g3e_183, b3_183, hlt204, hg205]
        obtain rfl := Option.some.inj hm243
        rw [ctlK_next] at hk191
        refine hK199 _ _ n193 (Nat.lt_succ_self _) ⟨(i102 + 1), (iadd .i64 j101 1), (lapp v184 [x239]), (.loc 26 (fr183.tgen 26 + 1)), g1_183, g2_183, g3_183, ?_, ?_, ?_, ?_, ?_, ?_, ?_, ?_, ?_, ?_, ?_, ?_, ?_, (OwnT.mono (D := [26]) (OwnT.new (D := [26]) (d := 26) (by decide)) (by decide)), (iadd_idxJ hj201 (by omega) hok203), (by omega), hk191⟩ <;> first | rfl | simp [e1_183, e2_183, e3_183, e15_183, e16_183, e17_183, g1e_183, b1_183, g2e_183, b2_183, g3e_183, b3_183, hlt204, hg205]
theorem r_ref07_Copy (T : Tabs) {H : Heap} {a0 : Fm} {r0 : Fm} {n : Nat} (hm : ref07_Copy n a0 = some r0) : ACall Tryd.prog T 53 [Fm.av a0] H (Fm.av r0) H := (rg_ref07_Copy T n) hm

theorem enters39 : entersB Tryd.prog 39 = true := by kernel_rfl
set_option maxRecDepth 20000 in
set_option maxHeartbeats 4000000 in
theorem r_ref07_Two (T : Tabs) {H : Heap} {a0 : Int} {a1 : Fm} {a2 : Fm} {r0 : Fm} (hm : ref07_Two a0 a1 a2 = some r0) : ACall Tryd.prog T 39 [AV.sc (.int .i64 a0), Fm.av a1, Fm.av a2] H (Fm.av r0) H := by
  rw [ref07_Two] at hm
  refine ACallP.intro (fn := Tryd.f39) Tryd.func39 rfl enters39 (Nat.le_of_ble_eq_true rfl) ?_
  refine AWp.seqK fun K1 hk2 => ?_
  refine AWp.region [] (by decide +kernel) ?_
  simp
  refine hk2 _ _ ?_
  refine AWp.seqK fun K9 hk10 => ?_
  refine AWp.regionD [] false mixed (by decide +kernel) (by decide +kernel) ?_
  obtain ⟨x11, hx12, hm13⟩ := bind1_some hm
  clear hm
  try dsimp only at hm13
  simp
  refine CallAtD.fn (r_ref07_Copy T hx12) (by simp) ?_
  obtain ⟨x14, hx15, hm16⟩ := bind1_some hm13
  clear hm13
  try dsimp only at hm16
  simp
  refine CallAtD.fn (r_ref07_Copy T hx15) (by simp) ?_
  simp
  refine hk10 _ _ ?_
  refine AWp.ret ?_
  try simp only [thenQ_ret]
  have hf17 : AV.agg [AV.sc (.int .i64 a0), AV.sc (.int .i64 0), AV.slice .frz [], AV.slice .frz [], AV.slice .frz [Fm.av x11, Fm.av x14]] = Fm.av (Fm.mk a0 (Ty.mk 0 []) [] [x11, x14]) := by rw [Fm.av_mk]; rfl
  have hf18 : AV.agg [AV.sc (.int .i64 a0), AV.sc (.int .i64 0), AV.slice .frz [], AV.slice .frz [], AV.slice .frz [Fm.av x11, Fm.av x14]] = Fm.av (Fm.mk a0 (Ty.mk 0 []) [] [x11, x14]) := by rw [Fm.av_mk]; rfl
  obtain rfl := Option.some.inj hm16
  simp [retQ, hf17, hf18]

theorem enters41 : entersB Tryd.prog 41 = true := by kernel_rfl
set_option maxRecDepth 20000 in
set_option maxHeartbeats 4000000 in
theorem r_mk_longer (T : Tabs) {H : Heap} {a0 : (List Ty)} {a1 : (List Ty)} {r0 : (List Ty)} (hm : mk_longer a0 a1 = some r0) : ACall Tryd.prog T 41 [AV.slice .frz (List.map Ty.av a0), AV.slice .frz (List.map Ty.av a1)] H (AV.slice .frz (List.map Ty.av r0)) H := by
  rw [mk_longer] at hm
  refine ACallP.intro (fn := Tryd.f41) Tryd.func41 rfl enters41 (Nat.le_of_ble_eq_true rfl) ?_
  refine AWp.seqK fun K1 hk2 => ?_
  refine AWp.region [] (by decide +kernel) ?_
  simp
  refine hk2 _ _ ?_
  refine AWp.seqK fun K7 hk8 => ?_
  refine AWp.region [] (by decide +kernel) ?_
  obtain ⟨ha9, hm10⟩ := chk_some hm
  clear hm
  simp
  refine AppAt.own (f := Ty.av) [] a0 (OwnT.full (D := [])) ap23 (by intro x; simp) ha9 (by first | rfl | simp) (by first | rfl | simp) ?_
  obtain ⟨ha11, hm12⟩ := chk_some hm10
  clear hm10
  simp
  refine AppAt.own (f := Ty.av) (lapp [] a0) a1 (OwnT.new (D := [6]) (d := 6) (by decide)) ap23 (by intro x; simp) ha11 (by first | rfl | simp) (by first | rfl | simp) ?_
  simp
  refine hk8 _ _ ?_
  refine AWp.ret ?_
  try simp only [thenQ_ret]
  obtain rfl := Option.some.inj hm12
  simp [retQ]

end Go.Proofs.YtdihelfnjememaaDoor
