/- The program's functions do what the models say. -/
import Derived.Test.YtdihelfnjememaaDoorCR09
import Derived.Test.YtdihelfnjememaaDoorCM
set_option linter.unusedSimpArgs false
set_option linter.unusedVariables false
namespace Go.Proofs.YtdihelfnjememaaDoor
open Go Go.Abs Go.Mdl

theorem enters6 : entersB Tryd.prog 6 = true := by kernel_rfl
set_option maxRecDepth 20000 in
set_option maxHeartbeats 4000000 in
theorem r_law23_ContentUniform (T : Tabs) (hT : T 0 = some (AV.agg (List.map (fun n => AV.sc (Value.int .i64 n)) tree_arities))) {a0 : (List Int)} {r0 : Bool} (hm : law23_ContentUniform a0 = some r0) : ACallP Tryd.prog T 6 [AV.slice .frz (List.map (fun n => AV.sc (Value.int .i64 n)) a0)] [] (fun x _ => x = AV.sc (.bool r0)) := by
  rw [law23_ContentUniform] at hm
  refine ACallP.intro (fn := Tryd.f6) Tryd.func6 rfl enters6 (Nat.le_of_ble_eq_true rfl) ?_
  refine AWp.seqK fun K1 hk2 => ?_
  refine AWp.region [] (by decide +kernel) ?_
  simp [hT]
  refine hk2 _ _ ?_
  refine AWp.seqK fun K44 hk45 => ?_
  obtain ⟨j59, hj60, hm61⟩ := joinB_some hm
  clear hm
  refine AWp.seqP (fun fr h => ∃ (v58 : Bool), ([] : Heap) = h ∧ fr.env 0 = AV.slice .frz (List.map (fun n => AV.sc (Value.int .i64 n)) a0) ∧ fr.env 24 = AV.sc (.bool v58) ∧ j59 v58 = some r0) (fun K55 hk56 => ?_) ?_
  · refine AWp.region [] (by decide +kernel) ?_
    obtain ⟨x63, hx64, hm65⟩ := bind1_some hm61
    clear hm61
    try dsimp only at hm65
    simp [hT]
    refine CallAt.fn (r_law23_awake T hT hx64) ?_
    rcases ite_some hm65 with ⟨hc66, hm67⟩ | ⟨hc66, hm68⟩
    · clear hm65
      obtain ⟨x69, hx70, hm71⟩ := bind1_some hm67
      clear hm67
      try dsimp only at hm71
      simp [hT, hc66]
      refine CallAt.fn (r_mk_Few T hx70) ?_
      simp [hT, hc66]
      refine hk56 _ _ ⟨(bnot x69), ?_, ?_, ?_, hm71⟩ <;> first | rfl | simp [hT, hc66]
    · clear hm65
      simp [hT, hc66]
      refine hk56 _ _ ⟨true, ?_, ?_, ?_, hm68⟩ <;> first | rfl | simp [hT, hc66]
  · clear hm61
    rintro fr57 h57 ⟨v58, rfl, e0_57, e24_57, hm62⟩
    subst hj60
    refine AWp.condK rfl fun A72 B73 ga74 gb75 => ?_
    rcases ite_some hm62 with ⟨hc76, hm77⟩ | ⟨hc76, hm78⟩
    · clear hm62
      simp [e0_57, e24_57, hT, hc76]
      refine ga74 _ _ ?_
      refine AWp.seqK fun K82 hk83 => ?_
      refine AWp.region [] (by decide +kernel) ?_
      obtain ⟨x84, hx85, hm86⟩ := bind1_some hm77
      clear hm77
      try dsimp only at hm86
      simp [e0_57, e24_57, hT, hc76]
      refine CallAt.fn (r_law23_awake T hT hx85) ?_
      simp [e0_57, e24_57, hT, hc76]
      refine hk83 _ _ ?_
      refine AWp.ret ?_
      try simp only [thenQ_ret]
      obtain rfl := Option.some.inj hm86
      simp [retQ, e0_57, e24_57, hT, hc76]
    · clear hm62
      simp [e0_57, e24_57, hT, hc76]
      refine gb75 _ _ ?_
      refine AWp.skip ?_
      try simp only [thenQ_normal]
      refine hk45 _ _ ?_
      refine AWp.seqK fun K90 hk91 => ?_
      refine AWp.region [] (by decide +kernel) ?_
      obtain ⟨x92, hx93, hm94⟩ := bind1_some hm78
      clear hm78
      try dsimp only at hm94
      simp [e0_57, e24_57, hT, hc76]
      refine CallAt.fn (r_mk_New T hx93) ?_
      simp [e0_57, e24_57, hT, hc76]
      refine hk91 _ _ ?_
      refine AWp.seqK fun K99 hk100 => ?_
      refine AWp.region [] (by decide +kernel) ?_
      obtain ⟨x101, d102, hx103, hm104⟩ := bind2_some hm94
      clear hm94
      try dsimp only at hm104
      simp [e0_57, e24_57, hT, hc76]
      refine CallAt.fn (r_mk_Type T (by first | exact ho | decide) hx103) ?_
      simp [e0_57, e24_57, hT, hc76]
      refine hk100 _ _ ?_
      refine AWp.seqK fun K109 hk110 => ?_
      refine AWp.region [] (by decide +kernel) ?_
      obtain ⟨x111, d112, hx113, hm114⟩ := bind2_some hm104
      clear hm104
      try dsimp only at hm114
      simp [e0_57, e24_57, hT, hc76]
      refine CallAt.fn (r_mk_Formula T (by first | exact ho | decide) hx113) ?_
      simp [e0_57, e24_57, hT, hc76]
      refine hk110 _ _ ?_
      refine AWp.seqK fun K119 hk120 => ?_
      refine AWp.region [] (by decide +kernel) ?_
      obtain ⟨x121, x122, hx123, hm124⟩ := bind2_some hm114
      clear hm114
      try dsimp only at hm124
      simp [e0_57, e24_57, hT, hc76]
      refine CallAt.fn (r_content_Type T hT hx123) ?_
      simp [e0_57, e24_57, hT, hc76]
      refine hk120 _ _ ?_
      refine AWp.seqK fun K129 hk130 => ?_
      refine AWp.region [] (by decide +kernel) ?_
      obtain ⟨x131, x132, hx133, hm134⟩ := bind2_some hm124
      clear hm124
      try dsimp only at hm134
      simp [e0_57, e24_57, hT, hc76]
      refine CallAt.fn (r_ref08_Content T hx133) ?_
      simp [e0_57, e24_57, hT, hc76]
      refine hk130 _ _ ?_
      refine AWp.seqK fun K159 hk160 => ?_
      refine AWp.seqP (fun fr h => ∃ (g4_166 : Nat) (g5_166 : Nat) (g6_166 : Nat), hset [[]] 0 [AV.slice .frz (List.map (fun n => AV.sc (Value.int .i64 n)) d112.l), AV.sc (.int .i64 d112.atF)] = h ∧ fr.env 4 = AV.lptr 4 g4_166 0 ∧ fr.env 5 = AV.lptr 5 g5_166 0 ∧ fr.env 6 = AV.lptr 6 g6_166 0 ∧ fr.env 7 = AV.sc (.int .i64 x122) ∧ fr.env 8 = AV.sc (.bool x131) ∧ fr.env 49 = AV.sc (.bool (sel (ine x122 0) true (ine x132 0))) ∧ fr.gen 4 = g4_166 ∧ fr.box 4 = some [AV.sc (.int .i64 x101.kind), AV.slice .frz (List.map Ty.av x101.args)] ∧ fr.gen 5 = g5_166 ∧ fr.box 5 = some [AV.sc (.int .i64 x111.kind), AV.sc (.int .i64 x111.typeF.kind), AV.slice .frz (List.map Ty.av x111.typeF.args), AV.slice .frz (List.map Tm.av x111.terms), AV.slice .frz (List.map Fm.av x111.args)] ∧ fr.gen 6 = g6_166 ∧ fr.box 6 = some [AV.sc (.int .i64 x121.kind), AV.slice .frz (List.map Ty.av x121.args)]) (fun K164 hk165 => ?_) ?_
      · refine AWp.region [] (by decide +kernel) ?_
        rcases Bool.eq_false_or_eq_true (ine x122 0) with hc167 | hc167
        · simp [e0_57, e24_57, hT, hc76, hc167]
          refine hk165 _ _ ⟨(fr57.gen 4 + 1), (fr57.gen 5 + 1), (fr57.gen 6 + 1), ?_, ?_, ?_, ?_, ?_, ?_, ?_, ?_, ?_, ?_, ?_, ?_, ?_⟩ <;> first | rfl | simp [e0_57, e24_57, hT, hc76, hc167]
        · simp [e0_57, e24_57, hT, hc76, hc167]
          refine hk165 _ _ ⟨(fr57.gen 4 + 1), (fr57.gen 5 + 1), (fr57.gen 6 + 1), ?_, ?_, ?_, ?_, ?_, ?_, ?_, ?_, ?_, ?_, ?_, ?_, ?_⟩ <;> first | rfl | simp [e0_57, e24_57, hT, hc76, hc167]
      · rintro fr166 h166 ⟨g4_166, g5_166, g6_166, rfl, e4_166, e5_166, e6_166, e7_166, e8_166, e49_166, g4e_166, b4_166, g5e_166, b5_166, g6e_166, b6_166⟩
        refine AWp.condK rfl fun A170 B171 ga172 gb173 => ?_
        rcases ite_some hm134 with ⟨hc174, hm175⟩ | ⟨hc174, hm176⟩
        · clear hm134
          simp [e4_166, e5_166, e6_166, e7_166, e8_166, e49_166, g4e_166, b4_166, g5e_166, b5_166, g6e_166, b6_166, hT, hc76, hc174]
          refine ga172 _ _ ?_
          refine AWp.seqK fun K180 hk181 => ?_
          refine AWp.region [] (by decide +kernel) ?_
          obtain ⟨x182, hx183, hm184⟩ := bind1_some hm175
          clear hm175
          try dsimp only at hm184
          simp [e4_166, e5_166, e6_166, e7_166, e8_166, e49_166, g4e_166, b4_166, g5e_166, b5_166, g6e_166, b6_166, hT, hc76, hc174]
          refine CallAt.fn (r_law23_limits T hx183) ?_
          simp [e4_166, e5_166, e6_166, e7_166, e8_166, e49_166, g4e_166, b4_166, g5e_166, b5_166, g6e_166, b6_166, hT, hc76, hc174]
          refine hk181 _ _ ?_
          refine AWp.ret ?_
          try simp only [thenQ_ret]
          obtain rfl := Option.some.inj hm184
          simp [retQ, e4_166, e5_166, e6_166, e7_166, e8_166, e49_166, g4e_166, b4_166, g5e_166, b5_166, g6e_166, b6_166, hT, hc76, hc174]
        · clear hm134
          simp [e4_166, e5_166, e6_166, e7_166, e8_166, e49_166, g4e_166, b4_166, g5e_166, b5_166, g6e_166, b6_166, hT, hc76, hc174]
          refine gb173 _ _ ?_
          refine AWp.skip ?_
          try simp only [thenQ_normal]
          refine hk160 _ _ ?_
          refine AWp.seqK fun K303 hk304 => ?_
          refine AWp.seqK fun K305 hk306 => ?_
          refine AWp.region [] (by decide +kernel) ?_
          simp [e4_166, e5_166, e6_166, e7_166, e8_166, e49_166, g4e_166, b4_166, g5e_166, b5_166, g6e_166, b6_166, hT, hc76, hc174]
          refine hk306 _ _ ?_
          obtain ⟨L307, hL774, hm775⟩ := joinB_some hm176
          clear hm176
          try dsimp only at hm775
          obtain ⟨hok441, hm776⟩ := chk_some hm775
          clear hm775
          obtain ⟨F423, hF424, hm777⟩ := joinB_some hm776
          clear hm776
          try dsimp only at hm777
          obtain ⟨out425, hl426, hmB427⟩ := bind1_some hm777
          clear hm777
          refine AWp.blockK fun Q432 nn433 ne434 nx435 nr436 => ?_
          refine AWp.loopF (fun n431 fr h => ∃ (i309 : Nat) (j308 : Int) (g4_422 : Nat) (g5_422 : Nat) (g6_422 : Nat), hset [[]] 0 [AV.slice .frz (List.map (fun n => AV.sc (Value.int .i64 n)) d112.l), AV.sc (.int .i64 d112.atF)] = h ∧ fr.env 4 = AV.lptr 4 g4_422 0 ∧ fr.env 5 = AV.lptr 5 g5_422 0 ∧ fr.env 6 = AV.lptr 6 g6_422 0 ∧ fr.env 8 = AV.sc (.bool x131) ∧ fr.env 52 = AV.slice .full (List.map (fun n => AV.sc (Value.int .i64 n)) L307) ∧ fr.env 53 = AV.sc (.int .i64 (llen L307)) ∧ fr.env 54 = AV.sc (.int .i64 j308) ∧ fr.gen 4 = g4_422 ∧ fr.box 4 = some [AV.sc (.int .i64 x101.kind), AV.slice .frz (List.map Ty.av x101.args)] ∧ fr.gen 5 = g5_422 ∧ fr.box 5 = some [AV.sc (.int .i64 x111.kind), AV.sc (.int .i64 x111.typeF.kind), AV.slice .frz (List.map Ty.av x111.typeF.args), AV.slice .frz (List.map Tm.av x111.terms), AV.slice .frz (List.map Fm.av x111.args)] ∧ fr.gen 6 = g6_422 ∧ fr.box 6 = some [AV.sc (.int .i64 x121.kind), AV.slice .frz (List.map Ty.av x121.args)] ∧ j308 = (i309 : Int) ∧ i309 + n431 = List.length L307 ∧ forR F423 (List.drop i309 L307) i309 () = some out425) (List.length L307) ?_ ?_
          · refine ⟨0, 0, g4_166, g5_166, g6_166, ?_, ?_, ?_, ?_, ?_, ?_, ?_, ?_, ?_, ?_, ?_, ?_, ?_, ?_, rfl, (by simp), hl426⟩ <;> first | rfl | (rw [hL774]; rfl) | simp [e4_166, e5_166, e6_166, e7_166, e8_166, e49_166, g4e_166, b4_166, g5e_166, b5_166, g6e_166, b6_166, hT, hL774, llen, hc76, hc174, hL774]
          · rintro n431 fr422 h422 ⟨i309, j308, g4_422, g5_422, g6_422, rfl, e4_422, e5_422, e6_422, e8_422, e52_422, e53_422, e54_422, g4e_422, b4_422, g5e_422, b5_422, g6e_422, b6_422, hj439, hi440, hl426⟩ K438 hK437
            rcases n431 with _ | n431
            · have hlt442 := ilt_notJ (l := L307) hj439 (by omega)
              refine AWp.seqK fun K554 hk555 => ?_
              refine AWp.region [] (by decide +kernel) ?_
              simp [e4_422, e5_422, e6_422, e8_422, e52_422, e53_422, e54_422, g4e_422, b4_422, g5e_422, b5_422, g6e_422, b6_422, hT, hlt442, hc76, hc174]
              refine hk555 _ _ ?_
              refine AWp.seqK fun K560 hk561 => ?_
              refine AWp.condK rfl fun A562 B563 ga564 gb565 => ?_
              simp [e4_422, e5_422, e6_422, e8_422, e52_422, e53_422, e54_422, g4e_422, b4_422, g5e_422, b5_422, g6e_422, b6_422, hT, hlt442, hc76, hc174]
              refine gb565 _ _ ?_
              refine AWp.exit ?_
              try simp only [thenQ_exit]
              refine ne434 _ _ ?_
              try simp only [thenQ_normal]
              rw [List.drop_eq_nil_of_le (by omega), forR_nil] at hl426
              obtain rfl := Option.some.inj hl426
              rw [sumK_inl] at hmB427
              try dsimp only at hmB427
              refine hk304 _ _ ?_
              refine AWp.seqK fun K571 hk572 => ?_
              refine AWp.region [] (by decide +kernel) ?_
              have hf573 : AV.agg [AV.sc (.int .i64 4), AV.sc (.int .i64 x101.kind), AV.slice .frz (List.map Ty.av x101.args), AV.slice .frz [], AV.slice .frz [Fm.av x111]] = Fm.av (Fm.mk 4 x101 [] [x111]) := by rw [Fm.av_mk]; rfl
              obtain ⟨x574, x575, hx576, hm577⟩ := bind2_some hmB427
              clear hmB427
              try dsimp only at hm577
              simp [e4_422, e5_422, e6_422, e8_422, e52_422, e53_422, e54_422, g4e_422, b4_422, g5e_422, b5_422, g6e_422, b6_422, hT, hlt442, hf573, hc76, hc174]
              refine CallAt.fn (r_content_Type T hT hx576) ?_
              simp [e4_422, e5_422, e6_422, e8_422, e52_422, e53_422, e54_422, g4e_422, b4_422, g5e_422, b5_422, g6e_422, b6_422, hT, hlt442, hf573, hc76, hc174]
              refine hk572 _ _ ?_
              refine AWp.seqK fun K583 hk584 => ?_
              refine AWp.region [] (by decide +kernel) ?_
              have hf585 : AV.agg [AV.sc (.int .i64 5), AV.sc (.int .i64 x101.kind), AV.slice .frz (List.map Ty.av x101.args), AV.slice .frz [], AV.slice .frz [Fm.av x111]] = Fm.av (Fm.mk 5 x101 [] [x111]) := by rw [Fm.av_mk]; rfl
              obtain ⟨x586, x587, hx588, hm589⟩ := bind2_some hm577
              clear hm577
              try dsimp only at hm589
              simp [e4_422, e5_422, e6_422, e8_422, e52_422, e53_422, e54_422, g4e_422, b4_422, g5e_422, b5_422, g6e_422, b6_422, hT, hlt442, hf573, hf585, hc76, hc174]
              refine CallAt.fn (r_content_Type T hT hx588) ?_
              simp [e4_422, e5_422, e6_422, e8_422, e52_422, e53_422, e54_422, g4e_422, b4_422, g5e_422, b5_422, g6e_422, b6_422, hT, hlt442, hf573, hf585, hc76, hc174]
              refine hk584 _ _ ?_
              refine AWp.seqK fun K632 hk633 => ?_
              refine AWp.seqP (fun fr h => ∃ (g4_639 : Nat) (g6_639 : Nat) (g14_639 : Nat) (g16_639 : Nat), hset [[]] 0 [AV.slice .frz (List.map (fun n => AV.sc (Value.int .i64 n)) d112.l), AV.sc (.int .i64 d112.atF)] = h ∧ fr.env 4 = AV.lptr 4 g4_639 0 ∧ fr.env 6 = AV.lptr 6 g6_639 0 ∧ fr.env 8 = AV.sc (.bool x131) ∧ fr.env 14 = AV.lptr 14 g14_639 0 ∧ fr.env 15 = AV.sc (.int .i64 x575) ∧ fr.env 16 = AV.lptr 16 g16_639 0 ∧ fr.env 17 = AV.sc (.int .i64 x587) ∧ fr.env 97 = AV.sc (.bool (sel (ine x575 0) true (ine x587 0))) ∧ fr.gen 4 = g4_639 ∧ fr.box 4 = some [AV.sc (.int .i64 x101.kind), AV.slice .frz (List.map Ty.av x101.args)] ∧ fr.gen 6 = g6_639 ∧ fr.box 6 = some [AV.sc (.int .i64 x121.kind), AV.slice .frz (List.map Ty.av x121.args)] ∧ fr.gen 14 = g14_639 ∧ fr.box 14 = some [AV.sc (.int .i64 x574.kind), AV.slice .frz (List.map Ty.av x574.args)] ∧ fr.gen 16 = g16_639 ∧ fr.box 16 = some [AV.sc (.int .i64 x586.kind), AV.slice .frz (List.map Ty.av x586.args)]) (fun K637 hk638 => ?_) ?_
              · refine AWp.region [] (by decide +kernel) ?_
                rcases Bool.eq_false_or_eq_true (ine x575 0) with hc640 | hc640
                · simp [e4_422, e5_422, e6_422, e8_422, e52_422, e53_422, e54_422, g4e_422, b4_422, g5e_422, b5_422, g6e_422, b6_422, hT, hlt442, hf573, hf585, hc76, hc174, hc640]
                  refine hk638 _ _ ⟨g4_422, g6_422, (fr422.gen 14 + 1), (fr422.gen 16 + 1), ?_, ?_, ?_, ?_, ?_, ?_, ?_, ?_, ?_, ?_, ?_, ?_, ?_, ?_, ?_, ?_, ?_⟩ <;> first | rfl | simp [e4_422, e5_422, e6_422, e8_422, e52_422, e53_422, e54_422, g4e_422, b4_422, g5e_422, b5_422, g6e_422, b6_422, hT, hlt442, hf573, hf585, hc76, hc174, hc640]
                · simp [e4_422, e5_422, e6_422, e8_422, e52_422, e53_422, e54_422, g4e_422, b4_422, g5e_422, b5_422, g6e_422, b6_422, hT, hlt442, hf573, hf585, hc76, hc174, hc640]
                  refine hk638 _ _ ⟨g4_422, g6_422, (fr422.gen 14 + 1), (fr422.gen 16 + 1), ?_, ?_, ?_, ?_, ?_, ?_, ?_, ?_, ?_, ?_, ?_, ?_, ?_, ?_, ?_, ?_, ?_⟩ <;> first | rfl | simp [e4_422, e5_422, e6_422, e8_422, e52_422, e53_422, e54_422, g4e_422, b4_422, g5e_422, b5_422, g6e_422, b6_422, hT, hlt442, hf573, hf585, hc76, hc174, hc640]
              · rintro fr639 h639 ⟨g4_639, g6_639, g14_639, g16_639, rfl, e4_639, e6_639, e8_639, e14_639, e15_639, e16_639, e17_639, e97_639, g4e_639, b4_639, g6e_639, b6_639, g14e_639, b14_639, g16e_639, b16_639⟩
                refine AWp.condK rfl fun A643 B644 ga645 gb646 => ?_
                rcases ite_some hm589 with ⟨hc647, hm648⟩ | ⟨hc647, hm649⟩
                · clear hm589
                  simp [e4_639, e6_639, e8_639, e14_639, e15_639, e16_639, e17_639, e97_639, g4e_639, b4_639, g6e_639, b6_639, g14e_639, b14_639, g16e_639, b16_639, hT, hlt442, hf573, hf585, hc76, hc174, hc647]
                  refine ga645 _ _ ?_
                  obtain ⟨j663, hj664, hm665⟩ := joinB_some hm648
                  clear hm648
                  refine AWp.seqP (fun fr h => ∃ (v662 : Bool), hset [[]] 0 [AV.slice .frz (List.map (fun n => AV.sc (Value.int .i64 n)) d112.l), AV.sc (.int .i64 d112.atF)] = h ∧ fr.env 2 = AV.sc (.bool v662) ∧ j663 v662 = some r0) (fun K659 hk660 => ?_) ?_
                  · refine AWp.region [] (by decide +kernel) ?_
                    obtain ⟨x667, hx668, hm669⟩ := bind1_some hm665
                    clear hm665
                    try dsimp only at hm669
                    simp [e4_639, e6_639, e8_639, e14_639, e15_639, e16_639, e17_639, e97_639, g4e_639, b4_639, g6e_639, b6_639, g14e_639, b14_639, g16e_639, b16_639, hT, hlt442, hf573, hf585, hc76, hc174, hc647]
                    refine CallAt.fn (r_law23_limits T hx668) ?_
                    rcases ite_some hm669 with ⟨hc670, hm671⟩ | ⟨hc670, hm672⟩
                    · clear hm669
                      simp [e4_639, e6_639, e8_639, e14_639, e15_639, e16_639, e17_639, e97_639, g4e_639, b4_639, g6e_639, b6_639, g14e_639, b14_639, g16e_639, b16_639, hT, hlt442, hf573, hf585, hc76, hc174, hc647, hc670]
                      refine hk660 _ _ ⟨true, ?_, ?_, hm671⟩ <;> first | rfl | simp [e4_639, e6_639, e8_639, e14_639, e15_639, e16_639, e17_639, e97_639, g4e_639, b4_639, g6e_639, b6_639, g14e_639, b14_639, g16e_639, b16_639, hT, hlt442, hf573, hf585, hc76, hc174, hc647, hc670]
                    · clear hm669
                      obtain ⟨x673, hx674, hm675⟩ := bind1_some hm672
                      clear hm672
                      try dsimp only at hm675
                      simp [e4_639, e6_639, e8_639, e14_639, e15_639, e16_639, e17_639, e97_639, g4e_639, b4_639, g6e_639, b6_639, g14e_639, b14_639, g16e_639, b16_639, hT, hlt442, hf573, hf585, hc76, hc174, hc647, hc670]
                      refine CallAt.fn (r_law23_limits T hx674) ?_
                      simp [e4_639, e6_639, e8_639, e14_639, e15_639, e16_639, e17_639, e97_639, g4e_639, b4_639, g6e_639, b6_639, g14e_639, b14_639, g16e_639, b16_639, hT, hlt442, hf573, hf585, hc76, hc174, hc647, hc670]
                      refine hk660 _ _ ⟨x673, ?_, ?_, hm675⟩ <;> first | rfl | simp [e4_639, e6_639, e8_639, e14_639, e15_639, e16_639, e17_639, e97_639, g4e_639, b4_639, g6e_639, b6_639, g14e_639, b14_639, g16e_639, b16_639, hT, hlt442, hf573, hf585, hc76, hc174, hc647, hc670]
                  · clear hm665
                    rintro fr661 h661 ⟨v662, rfl, e2_661, hm666⟩
                    subst hj664
                    refine AWp.ret ?_
                    try simp only [thenQ_ret]
                    obtain rfl := Option.some.inj hm666
                    simp [retQ, e2_661, hT, hlt442, hf573, hf585, hc76, hc174, hc647]
                · clear hm589
                  simp [e4_639, e6_639, e8_639, e14_639, e15_639, e16_639, e17_639, e97_639, g4e_639, b4_639, g6e_639, b6_639, g14e_639, b14_639, g16e_639, b16_639, hT, hlt442, hf573, hf585, hc76, hc174, hc647]
                  refine gb646 _ _ ?_
                  refine AWp.skip ?_
                  try simp only [thenQ_normal]
                  refine hk633 _ _ ?_
                  refine AWp.seqK fun K705 hk706 => ?_
                  refine AWp.seqK fun K707 hk708 => ?_
                  refine AWp.region [] (by decide +kernel) ?_
                  simp [e4_639, e6_639, e8_639, e14_639, e15_639, e16_639, e17_639, e97_639, g4e_639, b4_639, g6e_639, b6_639, g14e_639, b14_639, g16e_639, b16_639, hT, hlt442, hf573, hf585, hc76, hc174, hc647]
                  refine hk708 _ _ ?_
                  refine AWp.condK rfl fun A709 B710 ga711 gb712 => ?_
                  rcases ite_some hm649 with ⟨hc713, hm714⟩ | ⟨hc713, hm715⟩
                  · clear hm649
                    simp [e4_639, e6_639, e8_639, e14_639, e15_639, e16_639, e17_639, e97_639, g4e_639, b4_639, g6e_639, b6_639, g14e_639, b14_639, g16e_639, b16_639, hT, hlt442, hf573, hf585, hc76, hc174, hc647, hc713]
                    refine gb712 _ _ ?_
                    refine AWp.skip ?_
                    try simp only [thenQ_normal]
                    refine hk706 _ _ ?_
                    obtain ⟨j735, hj736, hm737⟩ := joinB_some hm714
                    clear hm714
                    refine AWp.seqP (fun fr h => ∃ (v734 : Bool), hset [[]] 0 [AV.slice .frz (List.map (fun n => AV.sc (Value.int .i64 n)) d112.l), AV.sc (.int .i64 d112.atF)] = h ∧ fr.env 2 = AV.sc (.bool v734) ∧ j735 v734 = some r0) (fun K731 hk732 => ?_) ?_
                    · refine AWp.regionD [] false mixed (by decide +kernel) (by decide +kernel) ?_
                      obtain ⟨x739, hx740, hm741⟩ := bind1_some hm737
                      clear hm737
                      try dsimp only at hm741
                      simp [e4_639, e6_639, e8_639, e14_639, e15_639, e16_639, e17_639, e97_639, g4e_639, b4_639, g6e_639, b6_639, g14e_639, b14_639, g16e_639, b16_639, hT, hlt442, hf573, hf585, hc76, hc174, hc647, hc713]
                      refine CallAtD.fn (r_ref23_Fun T hx740) (by simp) ?_
                      obtain ⟨x742, hx743, hm744⟩ := bind1_some hm741
                      clear hm741
                      try dsimp only at hm744
                      simp [e4_639, e6_639, e8_639, e14_639, e15_639, e16_639, e17_639, e97_639, g4e_639, b4_639, g6e_639, b6_639, g14e_639, b14_639, g16e_639, b16_639, hT, hlt442, hf573, hf585, hc76, hc174, hc647, hc713]
                      refine CallAtD.fn (r_ref01_Same T hx743) (by simp) ?_
                      rcases ite_some hm744 with ⟨hc745, hm746⟩ | ⟨hc745, hm747⟩
                      · clear hm744
                        obtain ⟨x748, hx749, hm750⟩ := bind1_some hm746
                        clear hm746
                        try dsimp only at hm750
                        simp [e4_639, e6_639, e8_639, e14_639, e15_639, e16_639, e17_639, e97_639, g4e_639, b4_639, g6e_639, b6_639, g14e_639, b14_639, g16e_639, b16_639, hT, hlt442, hf573, hf585, hc76, hc174, hc647, hc713, hc745]
                        refine CallAtD.fn (r_ref23_Pair T hx749) (by simp) ?_
                        obtain ⟨x751, hx752, hm753⟩ := bind1_some hm750
                        clear hm750
                        try dsimp only at hm753
                        simp [e4_639, e6_639, e8_639, e14_639, e15_639, e16_639, e17_639, e97_639, g4e_639, b4_639, g6e_639, b6_639, g14e_639, b14_639, g16e_639, b16_639, hT, hlt442, hf573, hf585, hc76, hc174, hc647, hc713, hc745]
                        refine CallAtD.fn (r_ref01_Same T hx752) (by simp) ?_
                        simp [e4_639, e6_639, e8_639, e14_639, e15_639, e16_639, e17_639, e97_639, g4e_639, b4_639, g6e_639, b6_639, g14e_639, b14_639, g16e_639, b16_639, hT, hlt442, hf573, hf585, hc76, hc174, hc647, hc713, hc745]
                        refine hk732 _ _ ⟨x751, ?_, ?_, hm753⟩ <;> first | rfl | simp [e4_639, e6_639, e8_639, e14_639, e15_639, e16_639, e17_639, e97_639, g4e_639, b4_639, g6e_639, b6_639, g14e_639, b14_639, g16e_639, b16_639, hT, hlt442, hf573, hf585, hc76, hc174, hc647, hc713, hc745]
                      · clear hm744
                        simp [e4_639, e6_639, e8_639, e14_639, e15_639, e16_639, e17_639, e97_639, g4e_639, b4_639, g6e_639, b6_639, g14e_639, b14_639, g16e_639, b16_639, hT, hlt442, hf573, hf585, hc76, hc174, hc647, hc713, hc745]
                        refine hk732 _ _ ⟨false, ?_, ?_, hm747⟩ <;> first | rfl | simp [e4_639, e6_639, e8_639, e14_639, e15_639, e16_639, e17_639, e97_639, g4e_639, b4_639, g6e_639, b6_639, g14e_639, b14_639, g16e_639, b16_639, hT, hlt442, hf573, hf585, hc76, hc174, hc647, hc713, hc745]
                    · clear hm737
                      rintro fr733 h733 ⟨v734, rfl, e2_733, hm738⟩
                      subst hj736
                      refine AWp.ret ?_
                      try simp only [thenQ_ret]
                      obtain rfl := Option.some.inj hm738
                      simp [retQ, e2_733, hT, hlt442, hf573, hf585, hc76, hc174, hc647, hc713]
                  · clear hm649
                    simp [e4_639, e6_639, e8_639, e14_639, e15_639, e16_639, e17_639, e97_639, g4e_639, b4_639, g6e_639, b6_639, g14e_639, b14_639, g16e_639, b16_639, hT, hlt442, hf573, hf585, hc76, hc174, hc647, hc713]
                    refine ga711 _ _ ?_
                    obtain ⟨j764, hj765, hm766⟩ := joinB_some hm715
                    clear hm715
                    refine AWp.seqP (fun fr h => ∃ (v763 : Bool), hset [[]] 0 [AV.slice .frz (List.map (fun n => AV.sc (Value.int .i64 n)) d112.l), AV.sc (.int .i64 d112.atF)] = h ∧ fr.env 2 = AV.sc (.bool v763) ∧ j764 v763 = some r0) (fun K760 hk761 => ?_) ?_
                    · refine AWp.region [] (by decide +kernel) ?_
                      rcases ite_some hm766 with ⟨hc768, hm769⟩ | ⟨hc768, hm770⟩
                      · clear hm766
                        obtain ⟨x771, hx772, hm773⟩ := bind1_some hm769
                        clear hm769
                        try dsimp only at hm773
                        simp [e4_639, e6_639, e8_639, e14_639, e15_639, e16_639, e17_639, e97_639, g4e_639, b4_639, g6e_639, b6_639, g14e_639, b14_639, g16e_639, b16_639, hT, hlt442, hf573, hf585, hc76, hc174, hc647, hc713, hc768]
                        refine CallAt.fn (r_ref01_Same T hx772) ?_
                        simp [e4_639, e6_639, e8_639, e14_639, e15_639, e16_639, e17_639, e97_639, g4e_639, b4_639, g6e_639, b6_639, g14e_639, b14_639, g16e_639, b16_639, hT, hlt442, hf573, hf585, hc76, hc174, hc647, hc713, hc768]
                        refine hk761 _ _ ⟨x771, ?_, ?_, hm773⟩ <;> first | rfl | simp [e4_639, e6_639, e8_639, e14_639, e15_639, e16_639, e17_639, e97_639, g4e_639, b4_639, g6e_639, b6_639, g14e_639, b14_639, g16e_639, b16_639, hT, hlt442, hf573, hf585, hc76, hc174, hc647, hc713, hc768]
                      · clear hm766
                        simp [e4_639, e6_639, e8_639, e14_639, e15_639, e16_639, e17_639, e97_639, g4e_639, b4_639, g6e_639, b6_639, g14e_639, b14_639, g16e_639, b16_639, hT, hlt442, hf573, hf585, hc76, hc174, hc647, hc713, hc768]
                        refine hk761 _ _ ⟨false, ?_, ?_, hm770⟩ <;> first | rfl | simp [e4_639, e6_639, e8_639, e14_639, e15_639, e16_639, e17_639, e97_639, g4e_639, b4_639, g6e_639, b6_639, g14e_639, b14_639, g16e_639, b16_639, hT, hlt442, hf573, hf585, hc76, hc174, hc647, hc713, hc768]
                    · clear hm766
                      rintro fr762 h762 ⟨v763, rfl, e2_762, hm767⟩
                      subst hj765
                      refine AWp.ret ?_
                      try simp only [thenQ_ret]
                      obtain rfl := Option.some.inj hm767
                      simp [retQ, e2_762, hT, hlt442, hf573, hf585, hc76, hc174, hc647, hc713]
            · have hlt442 := ilt_ofJ (l := L307) hj439 (by omega)
              obtain ⟨x310, hdn431, hg443⟩ := drop_ltJ (l := L307) hj439 (by omega)
              rw [hdn431, forR_cons] at hl426
              obtain ⟨c428, hb430, hk429⟩ := bind1_some hl426
              clear hl426
              rw [hF424, ← hj439] at hb430
              try dsimp only at hb430
              refine AWp.seqK fun K444 hk445 => ?_
              refine AWp.region [] (by decide +kernel) ?_
              simp [e4_422, e5_422, e6_422, e8_422, e52_422, e53_422, e54_422, g4e_422, b4_422, g5e_422, b5_422, g6e_422, b6_422, hT, hlt442, hg443, hc76, hc174]
              refine hk445 _ _ ?_
              refine AWp.seqK fun K450 hk451 => ?_
              refine AWp.condK rfl fun A452 B453 ga454 gb455 => ?_
              simp [e4_422, e5_422, e6_422, e8_422, e52_422, e53_422, e54_422, g4e_422, b4_422, g5e_422, b5_422, g6e_422, b6_422, hT, hlt442, hg443, hc76, hc174]
              refine ga454 _ _ ?_
              refine AWp.skip ?_
              try simp only [thenQ_normal]
              refine hk451 _ _ ?_
              refine AWp.seqK fun K504 hk505 => ?_
              refine AWp.blockK fun Q506 nn507 ne508 nx509 nr510 => ?_
              refine AWp.seqK fun K511 hk512 => ?_
              refine AWp.region [] (by decide +kernel) ?_
              simp [e4_422, e5_422, e6_422, e8_422, e52_422, e53_422, e54_422, g4e_422, b4_422, g5e_422, b5_422, g6e_422, b6_422, hT, hlt442, hg443, hc76, hc174]
              refine hk512 _ _ ?_
              refine AWp.seqK fun K518 hk519 => ?_
              refine AWp.region [] (by decide +kernel) ?_
              have hf520 : AV.agg [AV.sc (.int .i64 x310), AV.sc (.int .i64 x101.kind), AV.slice .frz (List.map Ty.av x101.args), AV.slice .frz [], AV.slice .frz [Fm.av x111]] = Fm.av (Fm.mk x310 x101 [] [x111]) := by rw [Fm.av_mk]; rfl
              obtain ⟨x521, x522, hx523, hm524⟩ := bind2_some hb430
              clear hb430
              try dsimp only at hm524
              simp [e4_422, e5_422, e6_422, e8_422, e52_422, e53_422, e54_422, g4e_422, b4_422, g5e_422, b5_422, g6e_422, b6_422, hT, hlt442, hg443, hf520, hc76, hc174]
              refine CallAt.fn (r_content_Type T hT hx523) ?_
              simp [e4_422, e5_422, e6_422, e8_422, e52_422, e53_422, e54_422, g4e_422, b4_422, g5e_422, b5_422, g6e_422, b6_422, hT, hlt442, hg443, hf520, hc76, hc174]
              refine hk519 _ _ ?_
              obtain ⟨j535, hj536, hm537⟩ := joinB_some hm524
              clear hm524
              refine AWp.seqP (fun fr h => ∃ (v534 : Bool) (g4_533 : Nat) (g5_533 : Nat) (g6_533 : Nat), hset [[]] 0 [AV.slice .frz (List.map (fun n => AV.sc (Value.int .i64 n)) d112.l), AV.sc (.int .i64 d112.atF)] = h ∧ fr.env 4 = AV.lptr 4 g4_533 0 ∧ fr.env 5 = AV.lptr 5 g5_533 0 ∧ fr.env 6 = AV.lptr 6 g6_533 0 ∧ fr.env 8 = AV.sc (.bool x131) ∧ fr.env 52 = AV.slice .full (List.map (fun n => AV.sc (Value.int .i64 n)) L307) ∧ fr.env 53 = AV.sc (.int .i64 (llen L307)) ∧ fr.env 54 = AV.sc (.int .i64 j308) ∧ fr.env 74 = AV.sc (.bool v534) ∧ fr.gen 4 = g4_533 ∧ fr.box 4 = some [AV.sc (.int .i64 x101.kind), AV.slice .frz (List.map Ty.av x101.args)] ∧ fr.gen 5 = g5_533 ∧ fr.box 5 = some [AV.sc (.int .i64 x111.kind), AV.sc (.int .i64 x111.typeF.kind), AV.slice .frz (List.map Ty.av x111.typeF.args), AV.slice .frz (List.map Tm.av x111.terms), AV.slice .frz (List.map Fm.av x111.args)] ∧ fr.gen 6 = g6_533 ∧ fr.box 6 = some [AV.sc (.int .i64 x121.kind), AV.slice .frz (List.map Ty.av x121.args)] ∧ j535 v534 = some c428) (fun K531 hk532 => ?_) ?_
              · refine AWp.region [] (by decide +kernel) ?_
                rcases ite_some hm537 with ⟨hc539, hm540⟩ | ⟨hc539, hm541⟩
                · clear hm537
                  simp [e4_422, e5_422, e6_422, e8_422, e52_422, e53_422, e54_422, g4e_422, b4_422, g5e_422, b5_422, g6e_422, b6_422, hT, hlt442, hg443, hf520, hc76, hc174, hc539]
                  refine hk532 _ _ ⟨true, g4_422, g5_422, g6_422, ?_, ?_, ?_, ?_, ?_, ?_, ?_, ?_, ?_, ?_, ?_, ?_, ?_, ?_, ?_, hm540⟩ <;> first | rfl | simp [e4_422, e5_422, e6_422, e8_422, e52_422, e53_422, e54_422, g4e_422, b4_422, g5e_422, b5_422, g6e_422, b6_422, hT, hlt442, hg443, hf520, hc76, hc174, hc539]
                · clear hm537
                  obtain ⟨x542, hx543, hm544⟩ := bind1_some hm541
                  clear hm541
                  try dsimp only at hm544
                  simp [e4_422, e5_422, e6_422, e8_422, e52_422, e53_422, e54_422, g4e_422, b4_422, g5e_422, b5_422, g6e_422, b6_422, hT, hlt442, hg443, hf520, hc76, hc174, hc539]
                  refine CallAt.fn (r_ref01_Same T hx543) ?_
                  simp [e4_422, e5_422, e6_422, e8_422, e52_422, e53_422, e54_422, g4e_422, b4_422, g5e_422, b5_422, g6e_422, b6_422, hT, hlt442, hg443, hf520, hc76, hc174, hc539]
                  refine hk532 _ _ ⟨(bnot x542), g4_422, g5_422, g6_422, ?_, ?_, ?_, ?_, ?_, ?_, ?_, ?_, ?_, ?_, ?_, ?_, ?_, ?_, ?_, hm544⟩ <;> first | rfl | simp [e4_422, e5_422, e6_422, e8_422, e52_422, e53_422, e54_422, g4e_422, b4_422, g5e_422, b5_422, g6e_422, b6_422, hT, hlt442, hg443, hf520, hc76, hc174, hc539]
              · clear hm537
                rintro fr533 h533 ⟨v534, g4_533, g5_533, g6_533, rfl, e4_533, e5_533, e6_533, e8_533, e52_533, e53_533, e54_533, e74_533, g4e_533, b4_533, g5e_533, b5_533, g6e_533, b6_533, hm538⟩
                subst hj536
                refine AWp.condK rfl fun A545 B546 ga547 gb548 => ?_
                rcases ite_some hm538 with ⟨hc549, hm550⟩ | ⟨hc549, hm551⟩
                · clear hm538
                  simp [e4_533, e5_533, e6_533, e8_533, e52_533, e53_533, e54_533, e74_533, g4e_533, b4_533, g5e_533, b5_533, g6e_533, b6_533, hT, hlt442, hg443, hf520, hc76, hc174, hc549]
                  refine ga547 _ _ ?_
                  refine AWp.seqK fun K552 hk553 => ?_
                  refine AWp.region [] (by decide +kernel) ?_
                  simp [e4_533, e5_533, e6_533, e8_533, e52_533, e53_533, e54_533, e74_533, g4e_533, b4_533, g5e_533, b5_533, g6e_533, b6_533, hT, hlt442, hg443, hf520, hc76, hc174, hc549]
                  refine hk553 _ _ ?_
                  refine AWp.ret ?_
                  try simp only [thenQ_ret]
                  refine nr510 _ _ ?_
                  try simp only [thenQ_ret]
                  refine nr436 _ _ ?_
                  try simp only [thenQ_ret]
                  obtain rfl := Option.some.inj hm550
                  rw [ctlK_ret] at hk429
                  obtain rfl := Option.some.inj hk429
                  rw [sumK_inr] at hmB427
                  try dsimp only at hmB427
                  obtain rfl := Option.some.inj hmB427
                  simp [retQ, e4_533, e5_533, e6_533, e8_533, e52_533, e53_533, e54_533, e74_533, g4e_533, b4_533, g5e_533, b5_533, g6e_533, b6_533, hT, hlt442, hg443, hf520, hc76, hc174, hc549]
                · clear hm538
                  simp [e4_533, e5_533, e6_533, e8_533, e52_533, e53_533, e54_533, e74_533, g4e_533, b4_533, g5e_533, b5_533, g6e_533, b6_533, hT, hlt442, hg443, hf520, hc76, hc174, hc549]
                  refine gb548 _ _ ?_
                  refine AWp.skip ?_
                  try simp only [thenQ_normal]
                  refine nn507 _ _ ?_
                  try simp only [thenQ_normal]
                  refine hk505 _ _ ?_
                  refine AWp.region [] (by decide +kernel) ?_
                  simp [e4_533, e5_533, e6_533, e8_533, e52_533, e53_533, e54_533, e74_533, g4e_533, b4_533, g5e_533, b5_533, g6e_533, b6_533, hT, hlt442, hg443, hf520, hc76, hc174, hc549]
                  obtain rfl := Option.some.inj hm551
                  rw [ctlK_next] at hk429
                  refine hK437 _ _ n431 (Nat.lt_succ_self _) ⟨(i309 + 1), (iadd .i64 j308 1), g4_533, g5_533, g6_533, ?_, ?_, ?_, ?_, ?_, ?_, ?_, ?_, ?_, ?_, ?_, ?_, ?_, ?_, (iadd_idxJ hj439 (by omega) hok441), (by omega), hk429⟩ <;> first | rfl | simp [e4_533, e5_533, e6_533, e8_533, e52_533, e53_533, e54_533, e74_533, g4e_533, b4_533, g5e_533, b5_533, g6e_533, b6_533, hT, hlt442, hg443, hf520, hc76, hc174, hc549]

end Go.Proofs.YtdihelfnjememaaDoor
