/- The program's functions do what the models say. -/
import Derived.Test.YtdihelfnjememaaDoorCR01
import Derived.Test.YtdihelfnjememaaDoorCM
set_option linter.unusedSimpArgs false
set_option linter.unusedVariables false
namespace Go.Proofs.YtdihelfnjememaaDoor
open Go Go.Abs Go.Mdl

theorem enters95 : entersB Tryd.prog 95 = true := by kernel_rfl
set_option maxRecDepth 20000 in
set_option maxHeartbeats 4000000 in
theorem rg_tree_formulaNodes (T : Tabs) (hT : T 0 = some (AV.agg (List.map (fun n => AV.sc (Value.int .i64 n)) tree_arities))) : ∀ (n : Nat), (∀ {H : Heap} {a0 : Fm} {r0 : Int} {r1 : Bool} (hm : tree_formulaNodes n a0 = some (r0, r1)), ACall Tryd.prog T 95 [Fm.av a0] H (AV.tuple [AV.sc (.int .i64 r0), AV.sc (.bool r1)]) H) := by
  intro n
  induction n with
  | zero =>
    skip
    all_goals
      intros
      rename_i hm
      cases hm
  | succ n ih =>
    intro H a0 r0 r1 hm
    rw [tree_formulaNodes] at hm
    refine ACallP.intro (fn := Tryd.f95) Tryd.func95 rfl enters95 (Nat.le_of_ble_eq_true rfl) ?_
    refine AWp.seqK fun K1 hk2 => ?_
    refine AWp.region [] (by decide +kernel) ?_
    simp [hT]
    refine hk2 _ _ ?_
    refine AWp.seqK fun K20 hk21 => ?_
    refine AWp.seqK fun K25 hk26 => ?_
    refine AWp.region [] (by decide +kernel) ?_
    obtain ⟨x27, hx28, hm29⟩ := bind1_some hm
    clear hm
    try dsimp only at hm29
    simp [hT]
    refine CallAt.fn (r_tree_formed T hx28) ?_
    simp [hT]
    refine hk26 _ _ ?_
    refine AWp.condK rfl fun A30 B31 ga32 gb33 => ?_
    rcases ite_some hm29 with ⟨hc34, hm35⟩ | ⟨hc34, hm36⟩
    · clear hm29
      simp [hT, hc34]
      refine gb33 _ _ ?_
      refine AWp.skip ?_
      try simp only [thenQ_normal]
      refine hk21 _ _ ?_
      refine AWp.seqK fun K37 hk38 => ?_
      refine AWp.region [] (by decide +kernel) ?_
      simp [hT, hc34]
      refine hk38 _ _ ?_
      refine AWp.seqK fun K241 hk242 => ?_
      refine AWp.seqK fun K243 hk244 => ?_
      refine AWp.region [] (by decide +kernel) ?_
      simp [hT, hc34]
      refine hk244 _ _ ?_
      obtain ⟨hok463, hm1113⟩ := chk_some hm35
      clear hm35
      obtain ⟨F445, hF446, hm1114⟩ := joinB_some hm1113
      clear hm1113
      try dsimp only at hm1114
      obtain ⟨out447, hl448, hmB449⟩ := bind1_some hm1114
      clear hm1114
      refine AWp.blockK fun Q454 nn455 ne456 nx457 nr458 => ?_
      refine AWp.loopF (fun n453 fr h => ∃ (i246 : Nat) (j245 : Int) (v444 : Int) (g1_443 : Nat), H = h ∧ fr.env 1 = AV.lptr 1 g1_443 0 ∧ fr.env 4 = AV.sc (.int .i64 v444) ∧ fr.env 17 = AV.slice .frz (List.map Tm.av a0.terms) ∧ fr.env 18 = AV.sc (.int .i64 (llen a0.terms)) ∧ fr.env 19 = AV.sc (.int .i64 j245) ∧ fr.gen 1 = g1_443 ∧ fr.box 1 = some [AV.sc (.int .i64 a0.kind), AV.sc (.int .i64 a0.typeF.kind), AV.slice .frz (List.map Ty.av a0.typeF.args), AV.slice .frz (List.map Tm.av a0.terms), AV.slice .frz (List.map Fm.av a0.args)] ∧ j245 = (i246 : Int) ∧ i246 + n453 = List.length a0.terms ∧ forR F445 (List.drop i246 a0.terms) i246 v444 = some out447) (List.length a0.terms) ?_ ?_
      · refine ⟨0, 0, 1, 1, ?_, ?_, ?_, ?_, ?_, ?_, ?_, ?_, rfl, (by simp), hl448⟩ <;> first | rfl | simp [hT, hc34]
      · rintro n453 fr443 h443 ⟨i246, j245, v444, g1_443, rfl, e1_443, e4_443, e17_443, e18_443, e19_443, g1e_443, b1_443, hj461, hi462, hl448⟩ K460 hK459
        rcases n453 with _ | n453
        · have hlt464 := ilt_notJ (l := a0.terms) hj461 (by omega)
          refine AWp.seqK fun K562 hk563 => ?_
          refine AWp.region [] (by decide +kernel) ?_
          simp [e1_443, e4_443, e17_443, e18_443, e19_443, g1e_443, b1_443, hT, hlt464, hc34]
          refine hk563 _ _ ?_
          refine AWp.seqK fun K568 hk569 => ?_
          refine AWp.condK rfl fun A570 B571 ga572 gb573 => ?_
          simp [e1_443, e4_443, e17_443, e18_443, e19_443, g1e_443, b1_443, hT, hlt464, hc34]
          refine gb573 _ _ ?_
          refine AWp.exit ?_
          try simp only [thenQ_exit]
          refine ne456 _ _ ?_
          try simp only [thenQ_normal]
          rw [List.drop_eq_nil_of_le (by omega), forR_nil] at hl448
          obtain rfl := Option.some.inj hl448
          rw [sumK_inl] at hmB449
          try dsimp only at hmB449
          refine hk242 _ _ ?_
          refine AWp.seqK fun K776 hk777 => ?_
          refine AWp.seqK fun K778 hk779 => ?_
          refine AWp.region [] (by decide +kernel) ?_
          simp [e1_443, e4_443, e17_443, e18_443, e19_443, g1e_443, b1_443, hT, hlt464, hc34]
          refine hk779 _ _ ?_
          obtain ⟨hok998, hm1111⟩ := chk_some hmB449
          clear hmB449
          obtain ⟨F980, hF981, hm1112⟩ := joinB_some hm1111
          clear hm1111
          try dsimp only at hm1112
          obtain ⟨out982, hl983, hmB984⟩ := bind1_some hm1112
          clear hm1112
          refine AWp.blockK fun Q989 nn990 ne991 nx992 nr993 => ?_
          refine AWp.loopF (fun n988 fr h => ∃ (i781 : Nat) (j780 : Int) (v979 : Int), H = h ∧ fr.env 4 = AV.sc (.int .i64 v979) ∧ fr.env 35 = AV.slice .frz (List.map Fm.av a0.args) ∧ fr.env 36 = AV.sc (.int .i64 (llen a0.args)) ∧ fr.env 37 = AV.sc (.int .i64 j780) ∧ j780 = (i781 : Int) ∧ i781 + n988 = List.length a0.args ∧ forR F980 (List.drop i781 a0.args) i781 v979 = some out982) (List.length a0.args) ?_ ?_
          · refine ⟨0, 0, v444, ?_, ?_, ?_, ?_, ?_, rfl, (by simp), hl983⟩ <;> first | rfl | simp [e1_443, e4_443, e17_443, e18_443, e19_443, g1e_443, b1_443, hT, hlt464, hc34]
          · rintro n988 fr978 h978 ⟨i781, j780, v979, rfl, e4_978, e35_978, e36_978, e37_978, hj996, hi997, hl983⟩ K995 hK994
            rcases n988 with _ | n988
            · have hlt999 := ilt_notJ (l := a0.args) hj996 (by omega)
              refine AWp.seqK fun K1097 hk1098 => ?_
              refine AWp.region [] (by decide +kernel) ?_
              simp [e4_978, e35_978, e36_978, e37_978, hT, hlt464, hlt999, hc34]
              refine hk1098 _ _ ?_
              refine AWp.seqK fun K1103 hk1104 => ?_
              refine AWp.condK rfl fun A1105 B1106 ga1107 gb1108 => ?_
              simp [e4_978, e35_978, e36_978, e37_978, hT, hlt464, hlt999, hc34]
              refine gb1108 _ _ ?_
              refine AWp.exit ?_
              try simp only [thenQ_exit]
              refine ne991 _ _ ?_
              try simp only [thenQ_normal]
              rw [List.drop_eq_nil_of_le (by omega), forR_nil] at hl983
              obtain rfl := Option.some.inj hl983
              rw [sumK_inl] at hmB984
              try dsimp only at hmB984
              refine hk777 _ _ ?_
              refine AWp.seqK fun K1109 hk1110 => ?_
              refine AWp.region [] (by decide +kernel) ?_
              simp [e4_978, e35_978, e36_978, e37_978, hT, hlt464, hlt999, hc34]
              refine hk1110 _ _ ?_
              refine AWp.ret ?_
              try simp only [thenQ_ret]
              simp only [Option.some.injEq, Prod.mk.injEq] at hmB984
              obtain ⟨rfl, rfl⟩ := hmB984
              simp [retQ, e4_978, e35_978, e36_978, e37_978, hT, hlt464, hlt999, hc34]
            · have hlt999 := ilt_ofJ (l := a0.args) hj996 (by omega)
              obtain ⟨x782, hdn988, hg1000⟩ := drop_ltJ (l := a0.args) hj996 (by omega)
              rw [hdn988, forR_cons] at hl983
              obtain ⟨c985, hb987, hk986⟩ := bind1_some hl983
              clear hl983
              rw [hF981, ← hj996] at hb987
              try dsimp only at hb987
              refine AWp.seqK fun K1001 hk1002 => ?_
              refine AWp.region [] (by decide +kernel) ?_
              simp [e4_978, e35_978, e36_978, e37_978, hT, hlt464, hlt999, hg1000, hc34]
              refine hk1002 _ _ ?_
              refine AWp.seqK fun K1007 hk1008 => ?_
              refine AWp.condK rfl fun A1009 B1010 ga1011 gb1012 => ?_
              simp [e4_978, e35_978, e36_978, e37_978, hT, hlt464, hlt999, hg1000, hc34]
              refine ga1011 _ _ ?_
              refine AWp.skip ?_
              try simp only [thenQ_normal]
              refine hk1008 _ _ ?_
              refine AWp.seqK fun K1054 hk1055 => ?_
              refine AWp.blockK fun Q1056 nn1057 ne1058 nx1059 nr1060 => ?_
              refine AWp.seqK fun K1061 hk1062 => ?_
              refine AWp.region [] (by decide +kernel) ?_
              simp [e4_978, e35_978, e36_978, e37_978, hT, hlt464, hlt999, hg1000, hc34]
              refine hk1062 _ _ ?_
              refine AWp.seqK fun K1067 hk1068 => ?_
              refine AWp.region [] (by decide +kernel) ?_
              obtain ⟨x1069, x1070, hx1071, hm1072⟩ := bind2_some hb987
              clear hb987
              try dsimp only at hm1072
              simp [e4_978, e35_978, e36_978, e37_978, hT, hlt464, hlt999, hg1000, hc34]
              refine CallAt.fn (ih hx1071) ?_
              simp [e4_978, e35_978, e36_978, e37_978, hT, hlt464, hlt999, hg1000, hc34]
              refine hk1068 _ _ ?_
              refine AWp.seqK fun K1084 hk1085 => ?_
              refine AWp.seqK fun K1086 hk1087 => ?_
              refine AWp.region [] (by decide +kernel) ?_
              simp [e4_978, e35_978, e36_978, e37_978, hT, hlt464, hlt999, hg1000, hc34]
              refine hk1087 _ _ ?_
              refine AWp.condK rfl fun A1088 B1089 ga1090 gb1091 => ?_
              rcases ite_some hm1072 with ⟨hc1092, hm1093⟩ | ⟨hc1092, hm1094⟩
              · clear hm1072
                simp [e4_978, e35_978, e36_978, e37_978, hT, hlt464, hlt999, hg1000, hc34, hc1092]
                refine gb1091 _ _ ?_
                refine AWp.skip ?_
                try simp only [thenQ_normal]
                refine hk1085 _ _ ?_
                refine AWp.region [] (by decide +kernel) ?_
                simp [e4_978, e35_978, e36_978, e37_978, hT, hlt464, hlt999, hg1000, hc34, hc1092]
                refine nn1057 _ _ ?_
                try simp only [thenQ_normal]
                refine hk1055 _ _ ?_
                refine AWp.region [] (by decide +kernel) ?_
                simp [e4_978, e35_978, e36_978, e37_978, hT, hlt464, hlt999, hg1000, hc34, hc1092]
                obtain rfl := Option.some.inj hm1093
                rw [ctlK_next] at hk986
                refine hK994 _ _ n988 (Nat.lt_succ_self _) ⟨(i781 + 1), (iadd .i64 j780 1), (iadd .i64 v979 x1069), ?_, ?_, ?_, ?_, ?_, (iadd_idxJ hj996 (by omega) hok998), (by omega), hk986⟩ <;> first | rfl | simp [e4_978, e35_978, e36_978, e37_978, hT, hlt464, hlt999, hg1000, hc34, hc1092]
              · clear hm1072
                simp [e4_978, e35_978, e36_978, e37_978, hT, hlt464, hlt999, hg1000, hc34, hc1092]
                refine ga1090 _ _ ?_
                refine AWp.seqK fun K1095 hk1096 => ?_
                refine AWp.region [] (by decide +kernel) ?_
                simp [e4_978, e35_978, e36_978, e37_978, hT, hlt464, hlt999, hg1000, hc34, hc1092]
                refine hk1096 _ _ ?_
                refine AWp.ret ?_
                try simp only [thenQ_ret]
                refine nr1060 _ _ ?_
                try simp only [thenQ_ret]
                refine nr993 _ _ ?_
                try simp only [thenQ_ret]
                obtain rfl := Option.some.inj hm1094
                rw [ctlK_ret] at hk986
                obtain rfl := Option.some.inj hk986
                rw [sumK_inr] at hmB984
                try dsimp only at hmB984
                simp only [Option.some.injEq, Prod.mk.injEq] at hmB984
                obtain ⟨rfl, rfl⟩ := hmB984
                simp [retQ, e4_978, e35_978, e36_978, e37_978, hT, hlt464, hlt999, hg1000, hc34, hc1092]
        · have hlt464 := ilt_ofJ (l := a0.terms) hj461 (by omega)
          obtain ⟨x247, hdn453, hg465⟩ := drop_ltJ (l := a0.terms) hj461 (by omega)
          rw [hdn453, forR_cons] at hl448
          obtain ⟨c450, hb452, hk451⟩ := bind1_some hl448
          clear hl448
          rw [hF446, ← hj461] at hb452
          try dsimp only at hb452
          refine AWp.seqK fun K466 hk467 => ?_
          refine AWp.region [] (by decide +kernel) ?_
          simp [e1_443, e4_443, e17_443, e18_443, e19_443, g1e_443, b1_443, hT, hlt464, hg465, hc34]
          refine hk467 _ _ ?_
          refine AWp.seqK fun K472 hk473 => ?_
          refine AWp.condK rfl fun A474 B475 ga476 gb477 => ?_
          simp [e1_443, e4_443, e17_443, e18_443, e19_443, g1e_443, b1_443, hT, hlt464, hg465, hc34]
          refine ga476 _ _ ?_
          refine AWp.skip ?_
          try simp only [thenQ_normal]
          refine hk473 _ _ ?_
          refine AWp.seqK fun K519 hk520 => ?_
          refine AWp.blockK fun Q521 nn522 ne523 nx524 nr525 => ?_
          refine AWp.seqK fun K526 hk527 => ?_
          refine AWp.region [] (by decide +kernel) ?_
          simp [e1_443, e4_443, e17_443, e18_443, e19_443, g1e_443, b1_443, hT, hlt464, hg465, hc34]
          refine hk527 _ _ ?_
          refine AWp.seqK fun K532 hk533 => ?_
          refine AWp.region [] (by decide +kernel) ?_
          obtain ⟨x534, x535, hx536, hm537⟩ := bind2_some hb452
          clear hb452
          try dsimp only at hm537
          simp [e1_443, e4_443, e17_443, e18_443, e19_443, g1e_443, b1_443, hT, hlt464, hg465, hc34]
          refine CallAt.fn (r_tree_termNodes T hT hx536) ?_
          simp [e1_443, e4_443, e17_443, e18_443, e19_443, g1e_443, b1_443, hT, hlt464, hg465, hc34]
          refine hk533 _ _ ?_
          refine AWp.seqK fun K549 hk550 => ?_
          refine AWp.seqK fun K551 hk552 => ?_
          refine AWp.region [] (by decide +kernel) ?_
          simp [e1_443, e4_443, e17_443, e18_443, e19_443, g1e_443, b1_443, hT, hlt464, hg465, hc34]
          refine hk552 _ _ ?_
          refine AWp.condK rfl fun A553 B554 ga555 gb556 => ?_
          rcases ite_some hm537 with ⟨hc557, hm558⟩ | ⟨hc557, hm559⟩
          · clear hm537
            simp [e1_443, e4_443, e17_443, e18_443, e19_443, g1e_443, b1_443, hT, hlt464, hg465, hc34, hc557]
            refine gb556 _ _ ?_
            refine AWp.skip ?_
            try simp only [thenQ_normal]
            refine hk550 _ _ ?_
            refine AWp.region [] (by decide +kernel) ?_
            simp [e1_443, e4_443, e17_443, e18_443, e19_443, g1e_443, b1_443, hT, hlt464, hg465, hc34, hc557]
            refine nn522 _ _ ?_
            try simp only [thenQ_normal]
            refine hk520 _ _ ?_
            refine AWp.region [] (by decide +kernel) ?_
            simp [e1_443, e4_443, e17_443, e18_443, e19_443, g1e_443, b1_443, hT, hlt464, hg465, hc34, hc557]
            obtain rfl := Option.some.inj hm558
            rw [ctlK_next] at hk451
            refine hK459 _ _ n453 (Nat.lt_succ_self _) ⟨(i246 + 1), (iadd .i64 j245 1), (iadd .i64 v444 x534), g1_443, ?_, ?_, ?_, ?_, ?_, ?_, ?_, ?_, (iadd_idxJ hj461 (by omega) hok463), (by omega), hk451⟩ <;> first | rfl | simp [e1_443, e4_443, e17_443, e18_443, e19_443, g1e_443, b1_443, hT, hlt464, hg465, hc34, hc557]
          · clear hm537
            simp [e1_443, e4_443, e17_443, e18_443, e19_443, g1e_443, b1_443, hT, hlt464, hg465, hc34, hc557]
            refine ga555 _ _ ?_
            refine AWp.seqK fun K560 hk561 => ?_
            refine AWp.region [] (by decide +kernel) ?_
            simp [e1_443, e4_443, e17_443, e18_443, e19_443, g1e_443, b1_443, hT, hlt464, hg465, hc34, hc557]
            refine hk561 _ _ ?_
            refine AWp.ret ?_
            try simp only [thenQ_ret]
            refine nr525 _ _ ?_
            try simp only [thenQ_ret]
            refine nr458 _ _ ?_
            try simp only [thenQ_ret]
            obtain rfl := Option.some.inj hm559
            rw [ctlK_ret] at hk451
            obtain rfl := Option.some.inj hk451
            rw [sumK_inr] at hmB449
            try dsimp only at hmB449
            simp only [Option.some.injEq, Prod.mk.injEq] at hmB449
            obtain ⟨rfl, rfl⟩ := hmB449
            simp [retQ, e1_443, e4_443, e17_443, e18_443, e19_443, g1e_443, b1_443, hT, hlt464, hg465, hc34, hc557]
    · clear hm29
      simp [hT, hc34]
      refine ga32 _ _ ?_
      refine AWp.seqK fun K1115 hk1116 => ?_
      refine AWp.region [] (by decide +kernel) ?_
      simp [hT, hc34]
      refine hk1116 _ _ ?_
      refine AWp.ret ?_
      try simp only [thenQ_ret]
      simp only [Option.some.injEq, Prod.mk.injEq] at hm36
      obtain ⟨rfl, rfl⟩ := hm36
      simp [retQ, hT, hc34]
theorem r_tree_formulaNodes (T : Tabs) (hT : T 0 = some (AV.agg (List.map (fun n => AV.sc (Value.int .i64 n)) tree_arities))) {H : Heap} {a0 : Fm} {r0 : Int} {r1 : Bool} {n : Nat} (hm : tree_formulaNodes n a0 = some (r0, r1)) : ACall Tryd.prog T 95 [Fm.av a0] H (AV.tuple [AV.sc (.int .i64 r0), AV.sc (.bool r1)]) H := (rg_tree_formulaNodes T hT n) hm

theorem enters79 : entersB Tryd.prog 79 = true := by kernel_rfl
set_option maxRecDepth 20000 in
set_option maxHeartbeats 4000000 in
theorem r_tree_CheckFormula (T : Tabs) (hT : T 0 = some (AV.agg (List.map (fun n => AV.sc (Value.int .i64 n)) tree_arities))) {H : Heap} {a0 : Fm} {r0 : Int} {r1 : Int} (hm : tree_CheckFormula a0 = some (r0, r1)) : ACall Tryd.prog T 79 [Fm.av a0] H (AV.tuple [AV.sc (.int .i64 r0), AV.sc (.int .i64 r1)]) H := by
  rw [tree_CheckFormula] at hm
  refine ACallP.intro (fn := Tryd.f79) Tryd.func79 rfl enters79 (Nat.le_of_ble_eq_true rfl) ?_
  refine AWp.seqK fun K1 hk2 => ?_
  refine AWp.region [] (by decide +kernel) ?_
  simp [hT]
  refine hk2 _ _ ?_
  refine AWp.seqK fun K7 hk8 => ?_
  refine AWp.region [] (by decide +kernel) ?_
  obtain ⟨x9, x10, hx11, hm12⟩ := bind2_some hm
  clear hm
  try dsimp only at hm12
  simp [hT]
  refine CallAt.fn (r_tree_formulaNodes T hT hx11) ?_
  simp [hT]
  refine hk8 _ _ ?_
  refine AWp.seqK fun K40 hk41 => ?_
  refine AWp.blockK fun Q42 nn43 ne44 nx45 nr46 => ?_
  refine AWp.seqK fun K47 hk48 => ?_
  refine AWp.region [] (by decide +kernel) ?_
  simp [hT]
  refine hk48 _ _ ?_
  refine AWp.condK rfl fun A49 B50 ga51 gb52 => ?_
  rcases ite_some hm12 with ⟨hc53, hm54⟩ | ⟨hc53, hm55⟩
  · clear hm12
    simp [hT, hc53]
    refine gb52 _ _ ?_
    refine AWp.seqK fun K56 hk57 => ?_
    refine AWp.region [] (by decide +kernel) ?_
    simp [hT, hc53]
    refine hk57 _ _ ?_
    refine AWp.condK rfl fun A58 B59 ga60 gb61 => ?_
    rcases ite_some hm54 with ⟨hc62, hm63⟩ | ⟨hc62, hm64⟩
    · clear hm54
      simp [hT, hc53, hc62]
      refine ga60 _ _ ?_
      refine AWp.seqK fun K65 hk66 => ?_
      refine AWp.region [] (by decide +kernel) ?_
      simp [hT, hc53, hc62]
      refine hk66 _ _ ?_
      refine AWp.ret ?_
      try simp only [thenQ_ret]
      refine nr46 _ _ ?_
      try simp only [thenQ_ret]
      simp only [Option.some.injEq, Prod.mk.injEq] at hm63
      obtain ⟨rfl, rfl⟩ := hm63
      simp [retQ, hT, hc53, hc62]
    · clear hm54
      simp [hT, hc53, hc62]
      refine gb61 _ _ ?_
      refine AWp.skip ?_
      try simp only [thenQ_normal]
      refine nn43 _ _ ?_
      try simp only [thenQ_normal]
      refine hk41 _ _ ?_
      refine AWp.seqK fun K67 hk68 => ?_
      refine AWp.region [] (by decide +kernel) ?_
      simp [hT, hc53, hc62]
      refine hk68 _ _ ?_
      refine AWp.ret ?_
      try simp only [thenQ_ret]
      simp only [Option.some.injEq, Prod.mk.injEq] at hm64
      obtain ⟨rfl, rfl⟩ := hm64
      simp [retQ, hT, hc53, hc62]
  · clear hm12
    simp [hT, hc53]
    refine ga51 _ _ ?_
    refine AWp.seqK fun K69 hk70 => ?_
    refine AWp.region [] (by decide +kernel) ?_
    simp [hT, hc53]
    refine hk70 _ _ ?_
    refine AWp.ret ?_
    try simp only [thenQ_ret]
    refine nr46 _ _ ?_
    try simp only [thenQ_ret]
    simp only [Option.some.injEq, Prod.mk.injEq] at hm55
    obtain ⟨rfl, rfl⟩ := hm55
    simp [retQ, hT, hc53]

theorem enters44 : entersB Tryd.prog 44 = true := by kernel_rfl
set_option maxRecDepth 20000 in
set_option maxHeartbeats 4000000 in
theorem r_formula_Check (T : Tabs) (hT : T 0 = some (AV.agg (List.map (fun n => AV.sc (Value.int .i64 n)) tree_arities))) {H : Heap} {a0 : Fm} {r0 : Int} (hm : formula_Check a0 = some r0) : ACall Tryd.prog T 44 [Fm.av a0] H (AV.sc (.int .i64 r0)) H := by
  rw [formula_Check] at hm
  refine ACallP.intro (fn := Tryd.f44) Tryd.func44 rfl enters44 (Nat.le_of_ble_eq_true rfl) ?_
  refine AWp.seqK fun K1 hk2 => ?_
  refine AWp.region [] (by decide +kernel) ?_
  simp [hT]
  refine hk2 _ _ ?_
  refine AWp.seqK fun K7 hk8 => ?_
  refine AWp.region [] (by decide +kernel) ?_
  obtain ⟨x9, x10, hx11, hm12⟩ := bind2_some hm
  clear hm
  try dsimp only at hm12
  simp [hT]
  refine CallAt.fn (r_tree_CheckFormula T hT hx11) ?_
  simp [hT]
  refine hk8 _ _ ?_
  refine AWp.seqK fun K13 hk14 => ?_
  refine AWp.region [] (by decide +kernel) ?_
  simp [hT]
  refine hk14 _ _ ?_
  refine AWp.ret ?_
  try simp only [thenQ_ret]
  obtain rfl := Option.some.inj hm12
  simp [retQ, hT]

theorem enters96 : entersB Tryd.prog 96 = true := by kernel_rfl
set_option maxRecDepth 20000 in
set_option maxHeartbeats 4000000 in
theorem r_types_Check (T : Tabs) {H : Heap} {a0 : Ty} {r0 : Int} (hm : types_Check a0 = some r0) : ACall Tryd.prog T 96 [Ty.av a0] H (AV.sc (.int .i64 r0)) H := by
  rw [types_Check] at hm
  refine ACallP.intro (fn := Tryd.f96) Tryd.func96 rfl enters96 (Nat.le_of_ble_eq_true rfl) ?_
  refine AWp.seqK fun K1 hk2 => ?_
  refine AWp.region [] (by decide +kernel) ?_
  simp
  refine hk2 _ _ ?_
  refine AWp.seqK fun K7 hk8 => ?_
  refine AWp.region [] (by decide +kernel) ?_
  obtain ⟨x9, x10, hx11, hm12⟩ := bind2_some hm
  clear hm
  try dsimp only at hm12
  simp
  refine CallAt.fn (r_tree_CheckType T hx11) ?_
  simp
  refine hk8 _ _ ?_
  refine AWp.seqK fun K13 hk14 => ?_
  refine AWp.region [] (by decide +kernel) ?_
  simp
  refine hk14 _ _ ?_
  refine AWp.ret ?_
  try simp only [thenQ_ret]
  obtain rfl := Option.some.inj hm12
  simp [retQ]

theorem enters80 : entersB Tryd.prog 80 = true := by kernel_rfl
set_option maxRecDepth 20000 in
set_option maxHeartbeats 4000000 in
theorem r_content_join (T : Tabs) {H : Heap} {a0 : Int} {a1 : Ty} {a2 : Ty} {r0 : Ty} {r1 : Bool} {r2 : Int} (hm : content_join a0 a1 a2 = some (r0, r1, r2)) : ACall Tryd.prog T 80 [AV.sc (.int .i64 a0), Ty.av a1, Ty.av a2] H (AV.tuple [Ty.av r0, AV.sc (.bool r1), AV.sc (.int .i64 r2)]) H := by
  rw [content_join] at hm
  refine ACallP.intro (fn := Tryd.f80) Tryd.func80 rfl enters80 (Nat.le_of_ble_eq_true rfl) ?_
  refine AWp.seqK fun K1 hk2 => ?_
  refine AWp.region [] (by decide +kernel) ?_
  simp
  refine hk2 _ _ ?_
  refine AWp.seqK fun K3 hk4 => ?_
  refine AWp.region [] (by decide +kernel) ?_
  simp
  refine hk4 _ _ ?_
  refine AWp.seqK fun K28 hk29 => ?_
  refine AWp.seqK fun K35 hk36 => ?_
  refine AWp.region [] (by decide +kernel) ?_
  have hf37 : AV.agg [AV.sc (.int .i64 a0), AV.slice .frz [Ty.av a1, Ty.av a2]] = Ty.av (Ty.mk a0 [a1, a2]) := by rw [Ty.av_mk]; rfl
  have hf38 : AV.agg [AV.sc (.int .i64 a0), AV.slice .frz [Ty.av a1, Ty.av a2]] = Ty.av (Ty.mk a0 [a1, a2]) := by rw [Ty.av_mk]; rfl
  obtain ⟨x39, hx40, hm41⟩ := bind1_some hm
  clear hm
  try dsimp only at hm41
  simp [hf37, hf38]
  refine CallAt.fn (r_types_Check T hx40) ?_
  simp [hf37, hf38]
  refine hk36 _ _ ?_
  refine AWp.seqK fun K42 hk43 => ?_
  refine AWp.region [] (by decide +kernel) ?_
  simp [hf37, hf38]
  refine hk43 _ _ ?_
  refine AWp.condK rfl fun A44 B45 ga46 gb47 => ?_
  rcases ite_some hm41 with ⟨hc48, hm49⟩ | ⟨hc48, hm50⟩
  · clear hm41
    simp [hf37, hf38, hc48]
    refine ga46 _ _ ?_
    refine AWp.seqK fun K51 hk52 => ?_
    refine AWp.region [] (by decide +kernel) ?_
    simp [hf37, hf38, hc48]
    refine hk52 _ _ ?_
    refine AWp.ret ?_
    try simp only [thenQ_ret]
    simp only [Option.some.injEq, Prod.mk.injEq] at hm49
    obtain ⟨rfl, rfl, rfl⟩ := hm49
    simp [retQ, hf37, hf38, hc48]
  · clear hm41
    simp [hf37, hf38, hc48]
    refine gb47 _ _ ?_
    refine AWp.skip ?_
    try simp only [thenQ_normal]
    refine hk29 _ _ ?_
    refine AWp.seqK fun K54 hk55 => ?_
    refine AWp.region [] (by decide +kernel) ?_
    have hf56 : AV.agg [AV.sc (.int .i64 a0), AV.slice .frz [Ty.av a1, Ty.av a2]] = Ty.av (Ty.mk a0 [a1, a2]) := by rw [Ty.av_mk]; rfl
    simp [hf37, hf38, hf56, hc48]
    refine hk55 _ _ ?_
    refine AWp.ret ?_
    try simp only [thenQ_ret]
    have hf57 : AV.agg [AV.sc (.int .i64 a0), AV.slice .frz [Ty.av a1, Ty.av a2]] = Ty.av (Ty.mk a0 [a1, a2]) := by rw [Ty.av_mk]; rfl
    have hf58 : AV.agg [AV.sc (.int .i64 a0), AV.slice .frz [Ty.av a1, Ty.av a2]] = Ty.av (Ty.mk a0 [a1, a2]) := by rw [Ty.av_mk]; rfl
    simp only [Option.some.injEq, Prod.mk.injEq] at hm50
    obtain ⟨rfl, rfl, rfl⟩ := hm50
    simp [retQ, hf37, hf38, hf56, hf57, hf58, hc48]

theorem enters45 : entersB Tryd.prog 45 = true := by kernel_rfl
set_option maxRecDepth 20000 in
set_option maxHeartbeats 4000000 in
theorem rg_content_of (T : Tabs) : ∀ (n : Nat), (∀ {H : Heap} {a0 : Fm} {r0 : Ty} {r1 : Bool} {r2 : Int} (hm : content_of n a0 = some (r0, r1, r2)), ACall Tryd.prog T 45 [Fm.av a0] H (AV.tuple [Ty.av r0, AV.sc (.bool r1), AV.sc (.int .i64 r2)]) H) := by
  intro n
  induction n with
  | zero =>
    skip
    all_goals
      intros
      rename_i hm
      cases hm
  | succ n ih =>
    intro H a0 r0 r1 r2 hm
    rw [content_of] at hm
    refine ACallP.intro (fn := Tryd.f45) Tryd.func45 rfl enters45 (Nat.le_of_ble_eq_true rfl) ?_
    refine AWp.seqK fun K1 hk2 => ?_
    refine AWp.region [] (by decide +kernel) ?_
    simp
    refine hk2 _ _ ?_
    refine AWp.seqK fun K14 hk15 => ?_
    refine AWp.seqK fun K16 hk17 => ?_
    refine AWp.region [] (by decide +kernel) ?_
    simp
    refine hk17 _ _ ?_
    refine AWp.condK rfl fun A18 B19 ga20 gb21 => ?_
    rcases ite_some hm with ⟨hc22, hm23⟩ | ⟨hc22, hm24⟩
    · clear hm
      simp [hc22]
      refine ga20 _ _ ?_
      refine AWp.seqK fun K25 hk26 => ?_
      refine AWp.region [] (by decide +kernel) ?_
      simp [hc22]
      refine hk26 _ _ ?_
      refine AWp.ret ?_
      try simp only [thenQ_ret]
      simp only [Option.some.injEq, Prod.mk.injEq] at hm23
      obtain ⟨rfl, rfl, rfl⟩ := hm23
      simp [retQ, hc22]
    · clear hm
      simp [hc22]
      refine gb21 _ _ ?_
      refine AWp.skip ?_
      try simp only [thenQ_normal]
      refine hk15 _ _ ?_
      refine AWp.seqK fun K35 hk36 => ?_
      refine AWp.region [] (by decide +kernel) ?_
      obtain ⟨x37, hx38, hm39⟩ := bind1_some hm24
      clear hm24
      try dsimp only at hm39
      obtain ⟨x40, x41, x42, hx43, hm44⟩ := bind3_some hm39
      clear hm39
      try dsimp only at hm44
      simp [hx38, hc22]
      refine CallAt.fn (ih hx43) ?_
      simp [hx38, hc22]
      refine hk36 _ _ ?_
      refine AWp.seqK fun K56 hk57 => ?_
      refine AWp.seqK fun K58 hk59 => ?_
      refine AWp.region [] (by decide +kernel) ?_
      simp [hx38, hc22]
      refine hk59 _ _ ?_
      refine AWp.condK rfl fun A60 B61 ga62 gb63 => ?_
      rcases ite_some hm44 with ⟨hc64, hm65⟩ | ⟨hc64, hm66⟩
      · clear hm44
        simp [hx38, hc22, hc64]
        refine ga62 _ _ ?_
        refine AWp.seqK fun K67 hk68 => ?_
        refine AWp.region [] (by decide +kernel) ?_
        simp [hx38, hc22, hc64]
        refine hk68 _ _ ?_
        refine AWp.ret ?_
        try simp only [thenQ_ret]
        simp only [Option.some.injEq, Prod.mk.injEq] at hm65
        obtain ⟨rfl, rfl, rfl⟩ := hm65
        simp [retQ, hx38, hc22, hc64]
      · clear hm44
        simp [hx38, hc22, hc64]
        refine gb63 _ _ ?_
        refine AWp.skip ?_
        try simp only [thenQ_normal]
        refine hk57 _ _ ?_
        refine AWp.seqK fun K222 hk223 => ?_
        refine AWp.seqK fun K224 hk225 => ?_
        refine AWp.region [] (by decide +kernel) ?_
        simp [hx38, hc22, hc64]
        refine hk225 _ _ ?_
        refine AWp.blockK fun Q226 nn227 ne228 nx229 nr230 => ?_
        refine AWp.seqK fun K231 hk232 => ?_
        refine AWp.region [] (by decide +kernel) ?_
        simp [hx38, hc22, hc64]
        refine hk232 _ _ ?_
        refine AWp.condK rfl fun A233 B234 ga235 gb236 => ?_
        rcases ite_some hm66 with ⟨hc237, hm238⟩ | ⟨hc237, hm239⟩
        · clear hm66
          simp [hx38, hc22, hc64, hc237]
          refine ga235 _ _ ?_
          refine AWp.seqK fun K248 hk249 => ?_
          refine AWp.region [] (by decide +kernel) ?_
          obtain ⟨x250, hx251, hm252⟩ := bind1_some hm238
          clear hm238
          try dsimp only at hm252
          obtain ⟨x253, x254, x255, hx256, hm257⟩ := bind3_some hm252
          clear hm252
          try dsimp only at hm257
          simp [hx38, hx251, hc22, hc64, hc237]
          refine CallAt.fn (ih hx256) ?_
          simp [hx38, hx251, hc22, hc64, hc237]
          refine hk249 _ _ ?_
          refine AWp.seqK fun K276 hk277 => ?_
          refine AWp.seqP (fun fr h => ∃ (g2_283 : Nat) (g5_283 : Nat) (g8_283 : Nat), H = h ∧ fr.env 2 = AV.lptr 2 g2_283 0 ∧ fr.env 5 = AV.lptr 5 g5_283 0 ∧ fr.env 6 = AV.sc (.bool x41) ∧ fr.env 8 = AV.lptr 8 g8_283 0 ∧ fr.env 10 = AV.sc (.int .i64 x255) ∧ fr.env 53 = AV.sc (.bool (sel (ine x255 0) true (bnot x254))) ∧ fr.gen 2 = g2_283 ∧ fr.box 2 = some [AV.sc (.int .i64 0), AV.slice .full []] ∧ fr.gen 5 = g5_283 ∧ fr.box 5 = some [AV.sc (.int .i64 x40.kind), AV.slice .frz (List.map Ty.av x40.args)] ∧ fr.gen 8 = g8_283 ∧ fr.box 8 = some [AV.sc (.int .i64 x253.kind), AV.slice .frz (List.map Ty.av x253.args)]) (fun K281 hk282 => ?_) ?_
          · refine AWp.region [] (by decide +kernel) ?_
            rcases Bool.eq_false_or_eq_true (ine x255 0) with hc284 | hc284
            · simp [hx38, hx251, hc22, hc64, hc237, hc284]
              refine hk282 _ _ ⟨1, 1, 1, ?_, ?_, ?_, ?_, ?_, ?_, ?_, ?_, ?_, ?_, ?_, ?_, ?_⟩ <;> first | rfl | simp [hx38, hx251, hc22, hc64, hc237, hc284]
            · simp [hx38, hx251, hc22, hc64, hc237, hc284]
              refine hk282 _ _ ⟨1, 1, 1, ?_, ?_, ?_, ?_, ?_, ?_, ?_, ?_, ?_, ?_, ?_, ?_, ?_⟩ <;> first | rfl | simp [hx38, hx251, hc22, hc64, hc237, hc284]
          · rintro fr283 h283 ⟨g2_283, g5_283, g8_283, rfl, e2_283, e5_283, e6_283, e8_283, e10_283, e53_283, g2e_283, b2_283, g5e_283, b5_283, g8e_283, b8_283⟩
            refine AWp.condK rfl fun A287 B288 ga289 gb290 => ?_
            rcases ite_some hm257 with ⟨hc291, hm292⟩ | ⟨hc291, hm293⟩
            · clear hm257
              simp [e2_283, e5_283, e6_283, e8_283, e10_283, e53_283, g2e_283, b2_283, g5e_283, b5_283, g8e_283, b8_283, hx38, hx251, hc22, hc64, hc237, hc291]
              refine ga289 _ _ ?_
              refine AWp.seqK fun K294 hk295 => ?_
              refine AWp.region [] (by decide +kernel) ?_
              simp [e2_283, e5_283, e6_283, e8_283, e10_283, e53_283, g2e_283, b2_283, g5e_283, b5_283, g8e_283, b8_283, hx38, hx251, hc22, hc64, hc237, hc291]
              refine hk295 _ _ ?_
              refine AWp.ret ?_
              try simp only [thenQ_ret]
              refine nr230 _ _ ?_
              try simp only [thenQ_ret]
              simp only [Option.some.injEq, Prod.mk.injEq] at hm292
              obtain ⟨rfl, rfl, rfl⟩ := hm292
              simp [retQ, e2_283, e5_283, e6_283, e8_283, e10_283, e53_283, g2e_283, b2_283, g5e_283, b5_283, g8e_283, b8_283, hx38, hx251, hc22, hc64, hc237, hc291]
            · clear hm257
              simp [e2_283, e5_283, e6_283, e8_283, e10_283, e53_283, g2e_283, b2_283, g5e_283, b5_283, g8e_283, b8_283, hx38, hx251, hc22, hc64, hc237, hc291]
              refine gb290 _ _ ?_
              refine AWp.skip ?_
              try simp only [thenQ_normal]
              refine hk277 _ _ ?_
              refine AWp.seqK fun K307 hk308 => ?_
              refine AWp.seqK fun K309 hk310 => ?_
              refine AWp.region [] (by decide +kernel) ?_
              simp [e2_283, e5_283, e6_283, e8_283, e10_283, e53_283, g2e_283, b2_283, g5e_283, b5_283, g8e_283, b8_283, hx38, hx251, hc22, hc64, hc237, hc291]
              refine hk310 _ _ ?_
              refine AWp.condK rfl fun A311 B312 ga313 gb314 => ?_
              rcases ite_some hm293 with ⟨hc315, hm316⟩ | ⟨hc315, hm317⟩
              · clear hm293
                simp [e2_283, e5_283, e6_283, e8_283, e10_283, e53_283, g2e_283, b2_283, g5e_283, b5_283, g8e_283, b8_283, hx38, hx251, hc22, hc64, hc237, hc291, hc315]
                refine gb314 _ _ ?_
                refine AWp.skip ?_
                try simp only [thenQ_normal]
                refine hk308 _ _ ?_
                refine AWp.seqK fun K323 hk324 => ?_
                refine AWp.region [] (by decide +kernel) ?_
                obtain ⟨x325, x326, x327, hx328, hm329⟩ := bind3_some hm316
                clear hm316
                try dsimp only at hm329
                simp [e2_283, e5_283, e6_283, e8_283, e10_283, e53_283, g2e_283, b2_283, g5e_283, b5_283, g8e_283, b8_283, hx38, hx251, hc22, hc64, hc237, hc291, hc315]
                refine CallAt.fn (r_content_join T hx328) ?_
                simp [e2_283, e5_283, e6_283, e8_283, e10_283, e53_283, g2e_283, b2_283, g5e_283, b5_283, g8e_283, b8_283, hx38, hx251, hc22, hc64, hc237, hc291, hc315]
                refine hk324 _ _ ?_
                refine AWp.ret ?_
                try simp only [thenQ_ret]
                refine nr230 _ _ ?_
                try simp only [thenQ_ret]
                simp only [Option.some.injEq, Prod.mk.injEq] at hm329
                obtain ⟨rfl, rfl, rfl⟩ := hm329
                simp [retQ, e2_283, e5_283, e6_283, e8_283, e10_283, e53_283, g2e_283, b2_283, g5e_283, b5_283, g8e_283, b8_283, hx38, hx251, hc22, hc64, hc237, hc291, hc315]
              · clear hm293
                simp [e2_283, e5_283, e6_283, e8_283, e10_283, e53_283, g2e_283, b2_283, g5e_283, b5_283, g8e_283, b8_283, hx38, hx251, hc22, hc64, hc237, hc291, hc315]
                refine ga313 _ _ ?_
                refine AWp.seqK fun K330 hk331 => ?_
                refine AWp.region [] (by decide +kernel) ?_
                simp [e2_283, e5_283, e6_283, e8_283, e10_283, e53_283, g2e_283, b2_283, g5e_283, b5_283, g8e_283, b8_283, hx38, hx251, hc22, hc64, hc237, hc291, hc315]
                refine hk331 _ _ ?_
                refine AWp.ret ?_
                try simp only [thenQ_ret]
                refine nr230 _ _ ?_
                try simp only [thenQ_ret]
                simp only [Option.some.injEq, Prod.mk.injEq] at hm317
                obtain ⟨rfl, rfl, rfl⟩ := hm317
                simp [retQ, e2_283, e5_283, e6_283, e8_283, e10_283, e53_283, g2e_283, b2_283, g5e_283, b5_283, g8e_283, b8_283, hx38, hx251, hc22, hc64, hc237, hc291, hc315]
        · clear hm66
          simp [hx38, hc22, hc64, hc237]
          refine gb236 _ _ ?_
          refine AWp.seqK fun K332 hk333 => ?_
          refine AWp.region [] (by decide +kernel) ?_
          simp [hx38, hc22, hc64, hc237]
          refine hk333 _ _ ?_
          refine AWp.condK rfl fun A334 B335 ga336 gb337 => ?_
          rcases ite_some hm239 with ⟨hc338, hm339⟩ | ⟨hc338, hm340⟩
          · clear hm239
            simp [hx38, hc22, hc64, hc237, hc338]
            refine ga336 _ _ ?_
            refine AWp.seqK fun K352 hk353 => ?_
            refine AWp.seqK fun K354 hk355 => ?_
            refine AWp.region [] (by decide +kernel) ?_
            simp [hx38, hc22, hc64, hc237, hc338]
            refine hk355 _ _ ?_
            refine AWp.condK rfl fun A356 B357 ga358 gb359 => ?_
            rcases ite_some hm339 with ⟨hc360, hm361⟩ | ⟨hc360, hm362⟩
            · clear hm339
              simp [hx38, hc22, hc64, hc237, hc338, hc360]
              refine gb359 _ _ ?_
              refine AWp.skip ?_
              try simp only [thenQ_normal]
              refine hk353 _ _ ?_
              refine AWp.seqK fun K368 hk369 => ?_
              refine AWp.region [] (by decide +kernel) ?_
              obtain ⟨x370, x371, x372, hx373, hm374⟩ := bind3_some hm361
              clear hm361
              try dsimp only at hm374
              simp [hx38, hc22, hc64, hc237, hc338, hc360]
              refine CallAt.fn (r_content_join T hx373) ?_
              simp [hx38, hc22, hc64, hc237, hc338, hc360]
              refine hk369 _ _ ?_
              refine AWp.ret ?_
              try simp only [thenQ_ret]
              refine nr230 _ _ ?_
              try simp only [thenQ_ret]
              simp only [Option.some.injEq, Prod.mk.injEq] at hm374
              obtain ⟨rfl, rfl, rfl⟩ := hm374
              simp [retQ, hx38, hc22, hc64, hc237, hc338, hc360]
            · clear hm339
              simp [hx38, hc22, hc64, hc237, hc338, hc360]
              refine ga358 _ _ ?_
              refine AWp.seqK fun K375 hk376 => ?_
              refine AWp.region [] (by decide +kernel) ?_
              simp [hx38, hc22, hc64, hc237, hc338, hc360]
              refine hk376 _ _ ?_
              refine AWp.ret ?_
              try simp only [thenQ_ret]
              refine nr230 _ _ ?_
              try simp only [thenQ_ret]
              simp only [Option.some.injEq, Prod.mk.injEq] at hm362
              obtain ⟨rfl, rfl, rfl⟩ := hm362
              simp [retQ, hx38, hc22, hc64, hc237, hc338, hc360]
          · clear hm239
            simp [hx38, hc22, hc64, hc237, hc338]
            refine gb337 _ _ ?_
            refine AWp.skip ?_
            try simp only [thenQ_normal]
            refine nn227 _ _ ?_
            try simp only [thenQ_normal]
            refine hk223 _ _ ?_
            refine AWp.seqK fun K388 hk389 => ?_
            refine AWp.seqK fun K390 hk391 => ?_
            refine AWp.region [] (by decide +kernel) ?_
            simp [hx38, hc22, hc64, hc237, hc338]
            refine hk391 _ _ ?_
            refine AWp.condK rfl fun A392 B393 ga394 gb395 => ?_
            rcases ite_some hm340 with ⟨hc396, hm397⟩ | ⟨hc396, hm398⟩
            · clear hm340
              simp [hx38, hc22, hc64, hc237, hc338, hc396]
              refine gb395 _ _ ?_
              refine AWp.skip ?_
              try simp only [thenQ_normal]
              refine hk389 _ _ ?_
              refine AWp.seqK fun K504 hk505 => ?_
              refine AWp.seqK fun K506 hk507 => ?_
              refine AWp.region [] (by decide +kernel) ?_
              simp [hx38, hc22, hc64, hc237, hc338, hc396]
              refine hk507 _ _ ?_
              refine AWp.blockK fun Q508 nn509 ne510 nx511 nr512 => ?_
              refine AWp.seqK fun K513 hk514 => ?_
              refine AWp.region [] (by decide +kernel) ?_
              simp [hx38, hc22, hc64, hc237, hc338, hc396]
              refine hk514 _ _ ?_
              refine AWp.condK rfl fun A515 B516 ga517 gb518 => ?_
              rcases ite_some hm397 with ⟨hc519, hm520⟩ | ⟨hc519, hm521⟩
              · clear hm397
                simp [hx38, hc22, hc64, hc237, hc338, hc396, hc519]
                refine ga517 _ _ ?_
                refine AWp.seqK fun K530 hk531 => ?_
                refine AWp.region [] (by decide +kernel) ?_
                obtain ⟨x532, hx533, hm534⟩ := bind1_some hm520
                clear hm520
                try dsimp only at hm534
                obtain ⟨x535, x536, x537, hx538, hm539⟩ := bind3_some hm534
                clear hm534
                try dsimp only at hm539
                simp [hx38, hx533, hc22, hc64, hc237, hc338, hc396, hc519]
                refine CallAt.fn (ih hx538) ?_
                simp [hx38, hx533, hc22, hc64, hc237, hc338, hc396, hc519]
                refine hk531 _ _ ?_
                refine AWp.seqK fun K558 hk559 => ?_
                refine AWp.seqP (fun fr h => ∃ (g2_565 : Nat) (g5_565 : Nat) (g11_565 : Nat), H = h ∧ fr.env 2 = AV.lptr 2 g2_565 0 ∧ fr.env 5 = AV.lptr 5 g5_565 0 ∧ fr.env 11 = AV.lptr 11 g11_565 0 ∧ fr.env 13 = AV.sc (.int .i64 x537) ∧ fr.env 100 = AV.sc (.bool (sel (ine x537 0) true (bnot x536))) ∧ fr.gen 2 = g2_565 ∧ fr.box 2 = some [AV.sc (.int .i64 0), AV.slice .full []] ∧ fr.gen 5 = g5_565 ∧ fr.box 5 = some [AV.sc (.int .i64 x40.kind), AV.slice .frz (List.map Ty.av x40.args)] ∧ fr.gen 11 = g11_565 ∧ fr.box 11 = some [AV.sc (.int .i64 x535.kind), AV.slice .frz (List.map Ty.av x535.args)]) (fun K563 hk564 => ?_) ?_
                · refine AWp.region [] (by decide +kernel) ?_
                  rcases Bool.eq_false_or_eq_true (ine x537 0) with hc566 | hc566
                  · simp [hx38, hx533, hc22, hc64, hc237, hc338, hc396, hc519, hc566]
                    refine hk564 _ _ ⟨1, 1, 1, ?_, ?_, ?_, ?_, ?_, ?_, ?_, ?_, ?_, ?_, ?_, ?_⟩ <;> first | rfl | simp [hx38, hx533, hc22, hc64, hc237, hc338, hc396, hc519, hc566]
                  · simp [hx38, hx533, hc22, hc64, hc237, hc338, hc396, hc519, hc566]
                    refine hk564 _ _ ⟨1, 1, 1, ?_, ?_, ?_, ?_, ?_, ?_, ?_, ?_, ?_, ?_, ?_, ?_⟩ <;> first | rfl | simp [hx38, hx533, hc22, hc64, hc237, hc338, hc396, hc519, hc566]
                · rintro fr565 h565 ⟨g2_565, g5_565, g11_565, rfl, e2_565, e5_565, e11_565, e13_565, e100_565, g2e_565, b2_565, g5e_565, b5_565, g11e_565, b11_565⟩
                  refine AWp.condK rfl fun A569 B570 ga571 gb572 => ?_
                  rcases ite_some hm539 with ⟨hc573, hm574⟩ | ⟨hc573, hm575⟩
                  · clear hm539
                    simp [e2_565, e5_565, e11_565, e13_565, e100_565, g2e_565, b2_565, g5e_565, b5_565, g11e_565, b11_565, hx38, hx533, hc22, hc64, hc237, hc338, hc396, hc519, hc573]
                    refine ga571 _ _ ?_
                    refine AWp.seqK fun K576 hk577 => ?_
                    refine AWp.region [] (by decide +kernel) ?_
                    simp [e2_565, e5_565, e11_565, e13_565, e100_565, g2e_565, b2_565, g5e_565, b5_565, g11e_565, b11_565, hx38, hx533, hc22, hc64, hc237, hc338, hc396, hc519, hc573]
                    refine hk577 _ _ ?_
                    refine AWp.ret ?_
                    try simp only [thenQ_ret]
                    refine nr512 _ _ ?_
                    try simp only [thenQ_ret]
                    simp only [Option.some.injEq, Prod.mk.injEq] at hm574
                    obtain ⟨rfl, rfl, rfl⟩ := hm574
                    simp [retQ, e2_565, e5_565, e11_565, e13_565, e100_565, g2e_565, b2_565, g5e_565, b5_565, g11e_565, b11_565, hx38, hx533, hc22, hc64, hc237, hc338, hc396, hc519, hc573]
                  · clear hm539
                    simp [e2_565, e5_565, e11_565, e13_565, e100_565, g2e_565, b2_565, g5e_565, b5_565, g11e_565, b11_565, hx38, hx533, hc22, hc64, hc237, hc338, hc396, hc519, hc573]
                    refine gb572 _ _ ?_
                    refine AWp.skip ?_
                    try simp only [thenQ_normal]
                    refine hk559 _ _ ?_
                    refine AWp.seqK fun K583 hk584 => ?_
                    refine AWp.region [] (by decide +kernel) ?_
                    obtain ⟨x585, x586, x587, hx588, hm589⟩ := bind3_some hm575
                    clear hm575
                    try dsimp only at hm589
                    simp [e2_565, e5_565, e11_565, e13_565, e100_565, g2e_565, b2_565, g5e_565, b5_565, g11e_565, b11_565, hx38, hx533, hc22, hc64, hc237, hc338, hc396, hc519, hc573]
                    refine CallAt.fn (r_content_join T hx588) ?_
                    simp [e2_565, e5_565, e11_565, e13_565, e100_565, g2e_565, b2_565, g5e_565, b5_565, g11e_565, b11_565, hx38, hx533, hc22, hc64, hc237, hc338, hc396, hc519, hc573]
                    refine hk584 _ _ ?_
                    refine AWp.ret ?_
                    try simp only [thenQ_ret]
                    refine nr512 _ _ ?_
                    try simp only [thenQ_ret]
                    simp only [Option.some.injEq, Prod.mk.injEq] at hm589
                    obtain ⟨rfl, rfl, rfl⟩ := hm589
                    simp [retQ, e2_565, e5_565, e11_565, e13_565, e100_565, g2e_565, b2_565, g5e_565, b5_565, g11e_565, b11_565, hx38, hx533, hc22, hc64, hc237, hc338, hc396, hc519, hc573]
              · clear hm397
                simp [hx38, hc22, hc64, hc237, hc338, hc396, hc519]
                refine gb518 _ _ ?_
                refine AWp.seqK fun K590 hk591 => ?_
                refine AWp.region [] (by decide +kernel) ?_
                simp [hx38, hc22, hc64, hc237, hc338, hc396, hc519]
                refine hk591 _ _ ?_
                refine AWp.condK rfl fun A592 B593 ga594 gb595 => ?_
                rcases ite_some hm521 with ⟨hc596, hm597⟩ | ⟨hc596, hm598⟩
                · clear hm521
                  simp [hx38, hc22, hc64, hc237, hc338, hc396, hc519, hc596]
                  refine ga594 _ _ ?_
                  refine AWp.seqK fun K604 hk605 => ?_
                  refine AWp.region [] (by decide +kernel) ?_
                  obtain ⟨x606, x607, x608, hx609, hm610⟩ := bind3_some hm597
                  clear hm597
                  try dsimp only at hm610
                  simp [hx38, hc22, hc64, hc237, hc338, hc396, hc519, hc596]
                  refine CallAt.fn (r_content_join T hx609) ?_
                  simp [hx38, hc22, hc64, hc237, hc338, hc396, hc519, hc596]
                  refine hk605 _ _ ?_
                  refine AWp.ret ?_
                  try simp only [thenQ_ret]
                  refine nr512 _ _ ?_
                  try simp only [thenQ_ret]
                  simp only [Option.some.injEq, Prod.mk.injEq] at hm610
                  obtain ⟨rfl, rfl, rfl⟩ := hm610
                  simp [retQ, hx38, hc22, hc64, hc237, hc338, hc396, hc519, hc596]
                · clear hm521
                  simp [hx38, hc22, hc64, hc237, hc338, hc396, hc519, hc596]
                  refine gb595 _ _ ?_
                  refine AWp.skip ?_
                  try simp only [thenQ_normal]
                  refine nn509 _ _ ?_
                  try simp only [thenQ_normal]
                  refine hk505 _ _ ?_
                  refine AWp.seqK fun K611 hk612 => ?_
                  refine AWp.region [] (by decide +kernel) ?_
                  simp [hx38, hc22, hc64, hc237, hc338, hc396, hc519, hc596]
                  refine hk612 _ _ ?_
                  refine AWp.ret ?_
                  try simp only [thenQ_ret]
                  simp only [Option.some.injEq, Prod.mk.injEq] at hm598
                  obtain ⟨rfl, rfl, rfl⟩ := hm598
                  simp [retQ, hx38, hc22, hc64, hc237, hc338, hc396, hc519, hc596]
            · clear hm340
              simp [hx38, hc22, hc64, hc237, hc338, hc396]
              refine ga394 _ _ ?_
              refine AWp.seqK fun K613 hk614 => ?_
              refine AWp.region [] (by decide +kernel) ?_
              simp [hx38, hc22, hc64, hc237, hc338, hc396]
              refine hk614 _ _ ?_
              refine AWp.ret ?_
              try simp only [thenQ_ret]
              simp only [Option.some.injEq, Prod.mk.injEq] at hm398
              obtain ⟨rfl, rfl, rfl⟩ := hm398
              simp [retQ, hx38, hc22, hc64, hc237, hc338, hc396]
theorem r_content_of (T : Tabs) {H : Heap} {a0 : Fm} {r0 : Ty} {r1 : Bool} {r2 : Int} {n : Nat} (hm : content_of n a0 = some (r0, r1, r2)) : ACall Tryd.prog T 45 [Fm.av a0] H (AV.tuple [Ty.av r0, AV.sc (.bool r1), AV.sc (.int .i64 r2)]) H := (rg_content_of T n) hm

theorem enters16 : entersB Tryd.prog 16 = true := by kernel_rfl
set_option maxRecDepth 20000 in
set_option maxHeartbeats 4000000 in
theorem r_content_Type (T : Tabs) (hT : T 0 = some (AV.agg (List.map (fun n => AV.sc (Value.int .i64 n)) tree_arities))) {H : Heap} {a0 : Fm} {r0 : Ty} {r1 : Int} (hm : content_Type a0 = some (r0, r1)) : ACall Tryd.prog T 16 [Fm.av a0] H (AV.tuple [Ty.av r0, AV.sc (.int .i64 r1)]) H := by
  rw [content_Type] at hm
  refine ACallP.intro (fn := Tryd.f16) Tryd.func16 rfl enters16 (Nat.le_of_ble_eq_true rfl) ?_
  refine AWp.seqK fun K1 hk2 => ?_
  refine AWp.region [] (by decide +kernel) ?_
  simp [hT]
  refine hk2 _ _ ?_
  refine AWp.seqK fun K22 hk23 => ?_
  refine AWp.seqK fun K27 hk28 => ?_
  refine AWp.region [] (by decide +kernel) ?_
  obtain ⟨x29, hx30, hm31⟩ := bind1_some hm
  clear hm
  try dsimp only at hm31
  simp [hT]
  refine CallAt.fn (r_formula_Check T hT hx30) ?_
  simp [hT]
  refine hk28 _ _ ?_
  refine AWp.seqK fun K32 hk33 => ?_
  refine AWp.region [] (by decide +kernel) ?_
  simp [hT]
  refine hk33 _ _ ?_
  refine AWp.condK rfl fun A34 B35 ga36 gb37 => ?_
  rcases ite_some hm31 with ⟨hc38, hm39⟩ | ⟨hc38, hm40⟩
  · clear hm31
    simp [hT, hc38]
    refine ga36 _ _ ?_
    refine AWp.seqK fun K41 hk42 => ?_
    refine AWp.region [] (by decide +kernel) ?_
    simp [hT, hc38]
    refine hk42 _ _ ?_
    refine AWp.ret ?_
    try simp only [thenQ_ret]
    simp only [Option.some.injEq, Prod.mk.injEq] at hm39
    obtain ⟨rfl, rfl⟩ := hm39
    simp [retQ, hT, hc38]
  · clear hm31
    simp [hT, hc38]
    refine gb37 _ _ ?_
    refine AWp.skip ?_
    try simp only [thenQ_normal]
    refine hk23 _ _ ?_
    refine AWp.seqK fun K48 hk49 => ?_
    refine AWp.region [] (by decide +kernel) ?_
    obtain ⟨x50, x51, x52, hx53, hm54⟩ := bind3_some hm40
    clear hm40
    try dsimp only at hm54
    simp [hT, hc38]
    refine CallAt.fn (r_content_of T hx53) ?_
    simp [hT, hc38]
    refine hk49 _ _ ?_
    refine AWp.seqK fun K66 hk67 => ?_
    refine AWp.seqK fun K68 hk69 => ?_
    refine AWp.region [] (by decide +kernel) ?_
    simp [hT, hc38]
    refine hk69 _ _ ?_
    refine AWp.condK rfl fun A70 B71 ga72 gb73 => ?_
    rcases ite_some hm54 with ⟨hc74, hm75⟩ | ⟨hc74, hm76⟩
    · clear hm54
      simp [hT, hc38, hc74]
      refine ga72 _ _ ?_
      refine AWp.seqK fun K77 hk78 => ?_
      refine AWp.region [] (by decide +kernel) ?_
      simp [hT, hc38, hc74]
      refine hk78 _ _ ?_
      refine AWp.ret ?_
      try simp only [thenQ_ret]
      simp only [Option.some.injEq, Prod.mk.injEq] at hm75
      obtain ⟨rfl, rfl⟩ := hm75
      simp [retQ, hT, hc38, hc74]
    · clear hm54
      simp [hT, hc38, hc74]
      refine gb73 _ _ ?_
      refine AWp.skip ?_
      try simp only [thenQ_normal]
      refine hk67 _ _ ?_
      refine AWp.seqP (fun fr h => ∃ (tg0_90 : Tag) (g2_90 : Nat) (g5_90 : Nat), H = h ∧ fr.env 2 = AV.lptr 2 g2_90 0 ∧ fr.env 5 = AV.lptr 5 g5_90 0 ∧ fr.gen 2 = g2_90 ∧ fr.box 2 = some [AV.sc (.int .i64 0), AV.slice .full []] ∧ fr.gen 5 = g5_90 ∧ fr.box 5 = some [AV.sc (.int .i64 (sel x51 x50.kind 5)), AV.slice tg0_90 (List.map Ty.av (sel x51 x50.args []))]) (fun K88 hk89 => ?_) ?_
      · refine AWp.seqK fun K91 hk92 => ?_
        refine AWp.region [] (by decide +kernel) ?_
        simp [hT, hc38, hc74]
        refine hk92 _ _ ?_
        refine AWp.condK rfl fun A93 B94 ga95 gb96 => ?_
        rcases Bool.eq_false_or_eq_true x51 with hc97 | hc97
        · simp [hT, hc38, hc74, hc97]
          refine gb96 _ _ ?_
          refine AWp.skip ?_
          try simp only [thenQ_normal]
          refine hk89 _ _ ⟨.frz, 1, 1, ?_, ?_, ?_, ?_, ?_, ?_, ?_⟩ <;> first | rfl | simp [hT, hc38, hc74, hc97]
        · simp [hT, hc38, hc74, hc97]
          refine ga95 _ _ ?_
          refine AWp.region [] (by decide +kernel) ?_
          simp [hT, hc38, hc74, hc97]
          refine hk89 _ _ ⟨.full, 1, 1, ?_, ?_, ?_, ?_, ?_, ?_, ?_⟩ <;> first | rfl | simp [hT, hc38, hc74, hc97]
      · rintro fr90 h90 ⟨tg0_90, g2_90, g5_90, rfl, e2_90, e5_90, g2e_90, b2_90, g5e_90, b5_90⟩
        refine AWp.seqK fun K100 hk101 => ?_
        refine AWp.region [] (by decide +kernel) ?_
        simp [e2_90, e5_90, g2e_90, b2_90, g5e_90, b5_90, hT, hc38, hc74]
        refine hk101 _ _ ?_
        refine AWp.ret ?_
        try simp only [thenQ_ret]
        simp only [Option.some.injEq, Prod.mk.injEq] at hm76
        obtain ⟨rfl, rfl⟩ := hm76
        simp [retQ, e2_90, e5_90, g2e_90, b2_90, g5e_90, b5_90, hT, hc38, hc74]

theorem enters84 : entersB Tryd.prog 84 = true := by kernel_rfl
set_option maxRecDepth 20000 in
set_option maxHeartbeats 4000000 in
theorem r_types_Context (T : Tabs) {H : Heap} {a0 : (List Ty)} {r0 : Int} (hm : types_Context a0 = some r0) : ACall Tryd.prog T 84 [AV.slice .frz (List.map Ty.av a0)] H (AV.sc (.int .i64 r0)) H := by
  rw [types_Context] at hm
  refine ACallP.intro (fn := Tryd.f84) Tryd.func84 rfl enters84 (Nat.le_of_ble_eq_true rfl) ?_
  refine AWp.seqK fun K1 hk2 => ?_
  refine AWp.region [] (by decide +kernel) ?_
  simp
  refine hk2 _ _ ?_
  refine AWp.seqK fun K14 hk15 => ?_
  refine AWp.seqK fun K16 hk17 => ?_
  refine AWp.region [] (by decide +kernel) ?_
  simp
  refine hk17 _ _ ?_
  refine AWp.condK rfl fun A18 B19 ga20 gb21 => ?_
  rcases ite_some hm with ⟨hc22, hm23⟩ | ⟨hc22, hm24⟩
  · clear hm
    simp [hc22]
    refine ga20 _ _ ?_
    refine AWp.seqK fun K25 hk26 => ?_
    refine AWp.region [] (by decide +kernel) ?_
    simp [hc22]
    refine hk26 _ _ ?_
    refine AWp.ret ?_
    try simp only [thenQ_ret]
    obtain rfl := Option.some.inj hm23
    simp [retQ, hc22]
  · clear hm
    simp [hc22]
    refine gb21 _ _ ?_
    refine AWp.skip ?_
    try simp only [thenQ_normal]
    refine hk15 _ _ ?_
    refine AWp.seqK fun K100 hk101 => ?_
    refine AWp.seqK fun K102 hk103 => ?_
    refine AWp.region [] (by decide +kernel) ?_
    simp [hc22]
    refine hk103 _ _ ?_
    obtain ⟨hok193, hm276⟩ := chk_some hm24
    clear hm24
    obtain ⟨F175, hF176, hm277⟩ := joinB_some hm276
    clear hm276
    try dsimp only at hm277
    obtain ⟨out177, hl178, hmB179⟩ := bind1_some hm277
    clear hm277
    refine AWp.blockK fun Q184 nn185 ne186 nx187 nr188 => ?_
    refine AWp.loopF (fun n183 fr h => ∃ (i105 : Nat) (j104 : Int), H = h ∧ fr.env 9 = AV.slice .frz (List.map Ty.av a0) ∧ fr.env 10 = AV.sc (.int .i64 (llen a0)) ∧ fr.env 11 = AV.sc (.int .i64 j104) ∧ j104 = (i105 : Int) ∧ i105 + n183 = List.length a0 ∧ forR F175 (List.drop i105 a0) i105 () = some out177) (List.length a0) ?_ ?_
    · refine ⟨0, 0, ?_, ?_, ?_, ?_, rfl, (by simp), hl178⟩ <;> first | rfl | simp [hc22]
    · rintro n183 fr174 h174 ⟨i105, j104, rfl, e9_174, e10_174, e11_174, hj191, hi192, hl178⟩ K190 hK189
      rcases n183 with _ | n183
      · have hlt194 := ilt_notJ (l := a0) hj191 (by omega)
        refine AWp.seqK fun K262 hk263 => ?_
        refine AWp.region [] (by decide +kernel) ?_
        simp [e9_174, e10_174, e11_174, hlt194, hc22]
        refine hk263 _ _ ?_
        refine AWp.seqK fun K268 hk269 => ?_
        refine AWp.condK rfl fun A270 B271 ga272 gb273 => ?_
        simp [e9_174, e10_174, e11_174, hlt194, hc22]
        refine gb273 _ _ ?_
        refine AWp.exit ?_
        try simp only [thenQ_exit]
        refine ne186 _ _ ?_
        try simp only [thenQ_normal]
        rw [List.drop_eq_nil_of_le (by omega), forR_nil] at hl178
        obtain rfl := Option.some.inj hl178
        rw [sumK_inl] at hmB179
        try dsimp only at hmB179
        refine hk101 _ _ ?_
        refine AWp.seqK fun K274 hk275 => ?_
        refine AWp.region [] (by decide +kernel) ?_
        simp [e9_174, e10_174, e11_174, hlt194, hc22]
        refine hk275 _ _ ?_
        refine AWp.ret ?_
        try simp only [thenQ_ret]
        obtain rfl := Option.some.inj hmB179
        simp [retQ, e9_174, e10_174, e11_174, hlt194, hc22]
      · have hlt194 := ilt_ofJ (l := a0) hj191 (by omega)
        obtain ⟨x106, hdn183, hg195⟩ := drop_ltJ (l := a0) hj191 (by omega)
        rw [hdn183, forR_cons] at hl178
        obtain ⟨c180, hb182, hk181⟩ := bind1_some hl178
        clear hl178
        rw [hF176, ← hj191] at hb182
        try dsimp only at hb182
        refine AWp.seqK fun K196 hk197 => ?_
        refine AWp.region [] (by decide +kernel) ?_
        simp [e9_174, e10_174, e11_174, hlt194, hg195, hc22]
        refine hk197 _ _ ?_
        refine AWp.seqK fun K202 hk203 => ?_
        refine AWp.condK rfl fun A204 B205 ga206 gb207 => ?_
        simp [e9_174, e10_174, e11_174, hlt194, hg195, hc22]
        refine ga206 _ _ ?_
        refine AWp.skip ?_
        try simp only [thenQ_normal]
        refine hk203 _ _ ?_
        refine AWp.seqK fun K234 hk235 => ?_
        refine AWp.blockK fun Q236 nn237 ne238 nx239 nr240 => ?_
        refine AWp.seqK fun K241 hk242 => ?_
        refine AWp.region [] (by decide +kernel) ?_
        simp [e9_174, e10_174, e11_174, hlt194, hg195, hc22]
        refine hk242 _ _ ?_
        refine AWp.seqK fun K246 hk247 => ?_
        refine AWp.region [] (by decide +kernel) ?_
        obtain ⟨x248, hx249, hm250⟩ := bind1_some hb182
        clear hb182
        try dsimp only at hm250
        simp [e9_174, e10_174, e11_174, hlt194, hg195, hc22]
        refine CallAt.fn (r_types_Check T hx249) ?_
        simp [e9_174, e10_174, e11_174, hlt194, hg195, hc22]
        refine hk247 _ _ ?_
        refine AWp.seqK fun K251 hk252 => ?_
        refine AWp.region [] (by decide +kernel) ?_
        simp [e9_174, e10_174, e11_174, hlt194, hg195, hc22]
        refine hk252 _ _ ?_
        refine AWp.condK rfl fun A253 B254 ga255 gb256 => ?_
        rcases ite_some hm250 with ⟨hc257, hm258⟩ | ⟨hc257, hm259⟩
        · clear hm250
          simp [e9_174, e10_174, e11_174, hlt194, hg195, hc22, hc257]
          refine ga255 _ _ ?_
          refine AWp.seqK fun K260 hk261 => ?_
          refine AWp.region [] (by decide +kernel) ?_
          simp [e9_174, e10_174, e11_174, hlt194, hg195, hc22, hc257]
          refine hk261 _ _ ?_
          refine AWp.ret ?_
          try simp only [thenQ_ret]
          refine nr240 _ _ ?_
          try simp only [thenQ_ret]
          refine nr188 _ _ ?_
          try simp only [thenQ_ret]
          obtain rfl := Option.some.inj hm258
          rw [ctlK_ret] at hk181
          obtain rfl := Option.some.inj hk181
          rw [sumK_inr] at hmB179
          try dsimp only at hmB179
          obtain rfl := Option.some.inj hmB179
          simp [retQ, e9_174, e10_174, e11_174, hlt194, hg195, hc22, hc257]
        · clear hm250
          simp [e9_174, e10_174, e11_174, hlt194, hg195, hc22, hc257]
          refine gb256 _ _ ?_
          refine AWp.skip ?_
          try simp only [thenQ_normal]
          refine nn237 _ _ ?_
          try simp only [thenQ_normal]
          refine hk235 _ _ ?_
          refine AWp.region [] (by decide +kernel) ?_
          simp [e9_174, e10_174, e11_174, hlt194, hg195, hc22, hc257]
          obtain rfl := Option.some.inj hm259
          rw [ctlK_next] at hk181
          refine hK189 _ _ n183 (Nat.lt_succ_self _) ⟨(i105 + 1), (iadd .i64 j104 1), ?_, ?_, ?_, ?_, (iadd_idxJ hj191 (by omega) hok193), (by omega), hk181⟩ <;> first | rfl | simp [e9_174, e10_174, e11_174, hlt194, hg195, hc22, hc257]

theorem enters48 : entersB Tryd.prog 48 = true := by kernel_rfl
set_option maxRecDepth 20000 in
set_option maxHeartbeats 4000000 in
theorem r_content_look (T : Tabs) (hT : T 0 = some (AV.agg (List.map (fun n => AV.sc (Value.int .i64 n)) tree_arities))) {H : Heap} {a0 : Sq} {r0 : (List Ty)} {r1 : (List Int)} {r2 : Int} (hm : content_look a0 = some (r0, r1, r2)) : ACall Tryd.prog T 48 [Sq.av a0] H (AV.tuple [AV.slice .frz (List.map Ty.av r0), AV.slice .frz (List.map (fun n => AV.sc (Value.int .i64 n)) r1), AV.sc (.int .i64 r2)]) H := by
  rw [content_look] at hm
  refine ACallP.intro (fn := Tryd.f48) Tryd.func48 rfl enters48 (Nat.le_of_ble_eq_true rfl) ?_
  refine AWp.seqK fun K1 hk2 => ?_
  refine AWp.region [] (by decide +kernel) ?_
  simp [hT]
  refine hk2 _ _ ?_
  refine AWp.seqK fun K22 hk23 => ?_
  refine AWp.seqK fun K27 hk28 => ?_
  refine AWp.region [] (by decide +kernel) ?_
  obtain ⟨x29, hx30, hm31⟩ := bind1_some hm
  clear hm
  try dsimp only at hm31
  simp [hT]
  refine CallAt.fn (r_types_Context T hx30) ?_
  simp [hT]
  refine hk28 _ _ ?_
  refine AWp.seqK fun K32 hk33 => ?_
  refine AWp.region [] (by decide +kernel) ?_
  simp [hT]
  refine hk33 _ _ ?_
  refine AWp.condK rfl fun A34 B35 ga36 gb37 => ?_
  rcases ite_some hm31 with ⟨hc38, hm39⟩ | ⟨hc38, hm40⟩
  · clear hm31
    simp [hT, hc38]
    refine ga36 _ _ ?_
    refine AWp.seqK fun K41 hk42 => ?_
    refine AWp.region [] (by decide +kernel) ?_
    simp [hT, hc38]
    refine hk42 _ _ ?_
    refine AWp.ret ?_
    try simp only [thenQ_ret]
    simp only [Option.some.injEq, Prod.mk.injEq] at hm39
    obtain ⟨rfl, rfl, rfl⟩ := hm39
    simp [retQ, hT, hc38]
  · clear hm31
    simp [hT, hc38]
    refine gb37 _ _ ?_
    refine AWp.skip ?_
    try simp only [thenQ_normal]
    refine hk23 _ _ ?_
    refine AWp.seqK fun K54 hk55 => ?_
    refine AWp.seqK fun K56 hk57 => ?_
    refine AWp.region [] (by decide +kernel) ?_
    simp [hT, hc38]
    refine hk57 _ _ ?_
    refine AWp.condK rfl fun A58 B59 ga60 gb61 => ?_
    rcases ite_some hm40 with ⟨hc62, hm63⟩ | ⟨hc62, hm64⟩
    · clear hm40
      simp [hT, hc38, hc62]
      refine ga60 _ _ ?_
      refine AWp.seqK fun K65 hk66 => ?_
      refine AWp.region [] (by decide +kernel) ?_
      simp [hT, hc38, hc62]
      refine hk66 _ _ ?_
      refine AWp.ret ?_
      try simp only [thenQ_ret]
      simp only [Option.some.injEq, Prod.mk.injEq] at hm63
      obtain ⟨rfl, rfl, rfl⟩ := hm63
      simp [retQ, hT, hc38, hc62]
    · clear hm40
      simp [hT, hc38, hc62]
      refine gb61 _ _ ?_
      refine AWp.skip ?_
      try simp only [thenQ_normal]
      refine hk55 _ _ ?_
      refine AWp.seqK fun K69 hk70 => ?_
      refine AWp.region [] (by decide +kernel) ?_
      obtain ⟨ha71, hm72⟩ := chk_some hm64
      clear hm64
      simp [hT, hc38, hc62]
      refine AppAt.own (f := Ty.av) [] a0.types (OwnT.full (D := [])) ap23 (by intro x; simp) ha71 (by first | rfl | simp) (by first | rfl | simp) ?_
      simp [hT, hc38, hc62]
      refine hk70 _ _ ?_
      refine AWp.seqK fun K503 hk504 => ?_
      refine AWp.seqK fun K505 hk506 => ?_
      refine AWp.region [] (by decide +kernel) ?_
      simp [hT, hc38, hc62]
      refine hk506 _ _ ?_
      obtain ⟨hok953, hm1179⟩ := chk_some hm72
      clear hm72
      obtain ⟨F935, hF936, hm1180⟩ := joinB_some hm1179
      clear hm1179
      try dsimp only at hm1180
      obtain ⟨out937, hl938, hmB939⟩ := bind1_some hm1180
      clear hm1180
      refine AWp.blockK fun Q944 nn945 ne946 nx947 nr948 => ?_
      refine AWp.loopF (fun n943 fr h => ∃ (i508 : Nat) (j507 : Int) (v933 : (List Ty)) (v934 : (List Int)) (tg0_932 : Tag) (tg1_932 : Tag), H = h ∧ fr.env 2 = AV.slice tg0_932 (List.map Ty.av v933) ∧ fr.env 3 = AV.slice tg1_932 (List.map (fun n => AV.sc (Value.int .i64 n)) v934) ∧ fr.env 25 = AV.slice .frz (List.map Fm.av a0.hyps) ∧ fr.env 26 = AV.sc (.int .i64 (llen a0.hyps)) ∧ fr.env 27 = AV.sc (.int .i64 j507) ∧ OwnT fr.tab fr.tgen [23, 59] tg0_932 (List.length v933) ∧ OwnT fr.tab fr.tgen [44, 55] tg1_932 (List.length v934) ∧ j507 = (i508 : Int) ∧ i508 + n943 = List.length a0.hyps ∧ forR F935 (List.drop i508 a0.hyps) i508 (v933, v934) = some out937) (List.length a0.hyps) ?_ ?_
      · refine ⟨0, 0, (lapp [] a0.types), [], (.loc 23 1), .full, ?_, ?_, ?_, ?_, ?_, ?_, (OwnT.mono (D := [23]) (OwnT.new (D := [23]) (d := 23) (by decide)) (by decide)), OwnT.full, rfl, (by simp), hl938⟩ <;> first | rfl | simp [hT, hc38, hc62]
      · rintro n943 fr932 h932 ⟨i508, j507, v933, v934, tg0_932, tg1_932, rfl, e2_932, e3_932, e25_932, e26_932, e27_932, o0_932, o1_932, hj951, hi952, hl938⟩ K950 hK949
        rcases n943 with _ | n943
        · have hlt954 := ilt_notJ (l := a0.hyps) hj951 (by omega)
          refine AWp.seqK fun K1165 hk1166 => ?_
          refine AWp.region [] (by decide +kernel) ?_
          simp [e2_932, e3_932, e25_932, e26_932, e27_932, hT, hlt954, hc38, hc62]
          refine hk1166 _ _ ?_
          refine AWp.seqK fun K1171 hk1172 => ?_
          refine AWp.condK rfl fun A1173 B1174 ga1175 gb1176 => ?_
          simp [e2_932, e3_932, e25_932, e26_932, e27_932, hT, hlt954, hc38, hc62]
          refine gb1176 _ _ ?_
          refine AWp.exit ?_
          try simp only [thenQ_exit]
          refine ne946 _ _ ?_
          try simp only [thenQ_normal]
          rw [List.drop_eq_nil_of_le (by omega), forR_nil] at hl938
          obtain rfl := Option.some.inj hl938
          rw [sumK_inl, un2_mk] at hmB939
          try dsimp only at hmB939
          refine hk504 _ _ ?_
          refine AWp.seqK fun K1177 hk1178 => ?_
          refine AWp.region [] (by decide +kernel) ?_
          simp [e2_932, e3_932, e25_932, e26_932, e27_932, hT, hlt954, hc38, hc62]
          refine hk1178 _ _ ?_
          refine AWp.ret ?_
          try simp only [thenQ_ret]
          simp only [Option.some.injEq, Prod.mk.injEq] at hmB939
          obtain ⟨rfl, rfl, rfl⟩ := hmB939
          simp [retQ, e2_932, e3_932, e25_932, e26_932, e27_932, hT, hlt954, hc38, hc62]
        · have hlt954 := ilt_ofJ (l := a0.hyps) hj951 (by omega)
          obtain ⟨x509, hdn943, hg955⟩ := drop_ltJ (l := a0.hyps) hj951 (by omega)
          rw [hdn943, forR_cons] at hl938
          obtain ⟨c940, hb942, hk941⟩ := bind1_some hl938
          clear hl938
          rw [hF936, ← hj951] at hb942
          try dsimp only at hb942
          rw [un2_mk] at hb942
          try dsimp only at hb942
          refine AWp.seqK fun K956 hk957 => ?_
          refine AWp.region [] (by decide +kernel) ?_
          simp [e2_932, e3_932, e25_932, e26_932, e27_932, hT, hlt954, hg955, hc38, hc62]
          refine hk957 _ _ ?_
          refine AWp.seqK fun K962 hk963 => ?_
          refine AWp.condK rfl fun A964 B965 ga966 gb967 => ?_
          simp [e2_932, e3_932, e25_932, e26_932, e27_932, hT, hlt954, hg955, hc38, hc62]
          refine ga966 _ _ ?_
          refine AWp.skip ?_
          try simp only [thenQ_normal]
          refine hk963 _ _ ?_
          obtain ⟨j1067, hj1068, hm1069⟩ := joinB_some hb942
          clear hb942
          refine AWp.seqP (fun fr h => ∃ (v1065 : (List Ty)) (v1066 : (List Int)) (tg0_1064 : Tag) (tg1_1064 : Tag), H = h ∧ fr.env 2 = AV.slice tg0_1064 (List.map Ty.av v1065) ∧ fr.env 3 = AV.slice tg1_1064 (List.map (fun n => AV.sc (Value.int .i64 n)) v1066) ∧ fr.env 25 = AV.slice .frz (List.map Fm.av a0.hyps) ∧ fr.env 26 = AV.sc (.int .i64 (llen a0.hyps)) ∧ fr.env 27 = AV.sc (.int .i64 j507) ∧ OwnT fr.tab fr.tgen [23, 59] tg0_1064 (List.length v1065) ∧ OwnT fr.tab fr.tgen [44, 55] tg1_1064 (List.length v1066) ∧ j1067 v1065 v1066 = some c940) (fun K1062 hk1063 => ?_) ?_
          · refine AWp.blockK fun Q1071 nn1072 ne1073 nx1074 nr1075 => ?_
            refine AWp.seqK fun K1076 hk1077 => ?_
            refine AWp.region [] (by decide +kernel) ?_
            simp [e2_932, e3_932, e25_932, e26_932, e27_932, hT, hlt954, hg955, hc38, hc62]
            refine hk1077 _ _ ?_
            refine AWp.seqK fun K1097 hk1098 => ?_
            refine AWp.seqK fun K1102 hk1103 => ?_
            refine AWp.region [] (by decide +kernel) ?_
            obtain ⟨x1104, hx1105, hm1106⟩ := bind1_some hm1069
            clear hm1069
            try dsimp only at hm1106
            simp [e2_932, e3_932, e25_932, e26_932, e27_932, hT, hlt954, hg955, hc38, hc62]
            refine CallAt.fn (r_formula_Check T hT hx1105) ?_
            simp [e2_932, e3_932, e25_932, e26_932, e27_932, hT, hlt954, hg955, hc38, hc62]
            refine hk1103 _ _ ?_
            refine AWp.seqK fun K1107 hk1108 => ?_
            refine AWp.region [] (by decide +kernel) ?_
            simp [e2_932, e3_932, e25_932, e26_932, e27_932, hT, hlt954, hg955, hc38, hc62]
            refine hk1108 _ _ ?_
            refine AWp.condK rfl fun A1109 B1110 ga1111 gb1112 => ?_
            rcases ite_some hm1106 with ⟨hc1113, hm1114⟩ | ⟨hc1113, hm1115⟩
            · clear hm1106
              simp [e2_932, e3_932, e25_932, e26_932, e27_932, hT, hlt954, hg955, hc38, hc62, hc1113]
              refine ga1111 _ _ ?_
              refine AWp.seqK fun K1116 hk1117 => ?_
              refine AWp.region [] (by decide +kernel) ?_
              simp [e2_932, e3_932, e25_932, e26_932, e27_932, hT, hlt954, hg955, hc38, hc62, hc1113]
              refine hk1117 _ _ ?_
              refine AWp.ret ?_
              try simp only [thenQ_ret]
              refine nr1075 _ _ ?_
              try simp only [thenQ_ret]
              refine nr948 _ _ ?_
              try simp only [thenQ_ret]
              obtain rfl := Option.some.inj hm1114
              rw [ctlK_ret] at hk941
              obtain rfl := Option.some.inj hk941
              rw [sumK_inr] at hmB939
              try dsimp only at hmB939
              simp only [Option.some.injEq, Prod.mk.injEq] at hmB939
              obtain ⟨rfl, rfl, rfl⟩ := hmB939
              simp [retQ, e2_932, e3_932, e25_932, e26_932, e27_932, hT, hlt954, hg955, hc38, hc62, hc1113]
            · clear hm1106
              simp [e2_932, e3_932, e25_932, e26_932, e27_932, hT, hlt954, hg955, hc38, hc62, hc1113]
              refine gb1112 _ _ ?_
              refine AWp.skip ?_
              try simp only [thenQ_normal]
              refine hk1098 _ _ ?_
              refine AWp.seqK fun K1123 hk1124 => ?_
              refine AWp.region [] (by decide +kernel) ?_
              obtain ⟨x1125, x1126, x1127, hx1128, hm1129⟩ := bind3_some hm1115
              clear hm1115
              try dsimp only at hm1129
              simp [e2_932, e3_932, e25_932, e26_932, e27_932, hT, hlt954, hg955, hc38, hc62, hc1113]
              refine CallAt.fn (r_content_of T hx1128) ?_
              simp [e2_932, e3_932, e25_932, e26_932, e27_932, hT, hlt954, hg955, hc38, hc62, hc1113]
              refine hk1124 _ _ ?_
              refine AWp.blockK fun Q1130 nn1131 ne1132 nx1133 nr1134 => ?_
              refine AWp.seqK fun K1135 hk1136 => ?_
              refine AWp.region [] (by decide +kernel) ?_
              simp [e2_932, e3_932, e25_932, e26_932, e27_932, hT, hlt954, hg955, hc38, hc62, hc1113]
              refine hk1136 _ _ ?_
              refine AWp.condK rfl fun A1137 B1138 ga1139 gb1140 => ?_
              rcases ite_some hm1129 with ⟨hc1141, hm1142⟩ | ⟨hc1141, hm1143⟩
              · clear hm1129
                simp [e2_932, e3_932, e25_932, e26_932, e27_932, hT, hlt954, hg955, hc38, hc62, hc1113, hc1141]
                refine ga1139 _ _ ?_
                refine AWp.seqK fun K1144 hk1145 => ?_
                refine AWp.region [] (by decide +kernel) ?_
                simp [e2_932, e3_932, e25_932, e26_932, e27_932, hT, hlt954, hg955, hc38, hc62, hc1113, hc1141]
                refine hk1145 _ _ ?_
                refine AWp.ret ?_
                try simp only [thenQ_ret]
                refine nr1134 _ _ ?_
                try simp only [thenQ_ret]
                refine nr1075 _ _ ?_
                try simp only [thenQ_ret]
                refine nr948 _ _ ?_
                try simp only [thenQ_ret]
                obtain rfl := Option.some.inj hm1142
                rw [ctlK_ret] at hk941
                obtain rfl := Option.some.inj hk941
                rw [sumK_inr] at hmB939
                try dsimp only at hmB939
                simp only [Option.some.injEq, Prod.mk.injEq] at hmB939
                obtain ⟨rfl, rfl, rfl⟩ := hmB939
                simp [retQ, e2_932, e3_932, e25_932, e26_932, e27_932, hT, hlt954, hg955, hc38, hc62, hc1113, hc1141]
              · clear hm1129
                simp [e2_932, e3_932, e25_932, e26_932, e27_932, hT, hlt954, hg955, hc38, hc62, hc1113, hc1141]
                refine gb1140 _ _ ?_
                refine AWp.seqK fun K1146 hk1147 => ?_
                refine AWp.region [] (by decide +kernel) ?_
                simp [e2_932, e3_932, e25_932, e26_932, e27_932, hT, hlt954, hg955, hc38, hc62, hc1113, hc1141]
                refine hk1147 _ _ ?_
                refine AWp.condK rfl fun A1148 B1149 ga1150 gb1151 => ?_
                rcases ite_some hm1143 with ⟨hc1152, hm1153⟩ | ⟨hc1152, hm1154⟩
                · clear hm1143
                  simp [e2_932, e3_932, e25_932, e26_932, e27_932, hT, hlt954, hg955, hc38, hc62, hc1113, hc1141, hc1152]
                  refine ga1150 _ _ ?_
                  refine AWp.seqK fun K1157 hk1158 => ?_
                  refine AWp.region [] (by decide +kernel) ?_
                  obtain ⟨ha1159, hm1160⟩ := chk_some hm1153
                  clear hm1153
                  simp [e2_932, e3_932, e25_932, e26_932, e27_932, hT, hlt954, hg955, hc38, hc62, hc1113, hc1141, hc1152]
                  refine AppAt.own (f := (fun n => AV.sc (Value.int .i64 n))) v934 [(llen v933)] o1_932 ap22 (by intro x; simp) ha1159 (by first | rfl | simp) (by first | rfl | simp) ?_
                  simp [e2_932, e3_932, e25_932, e26_932, e27_932, hT, hlt954, hg955, hc38, hc62, hc1113, hc1141, hc1152]
                  refine hk1158 _ _ ?_
                  refine AWp.region [] (by decide +kernel) ?_
                  obtain ⟨ha1161, hm1162⟩ := chk_some hm1160
                  clear hm1160
                  simp [e2_932, e3_932, e25_932, e26_932, e27_932, hT, hlt954, hg955, hc38, hc62, hc1113, hc1141, hc1152]
                  refine AppAt.own (f := Ty.av) v933 [x1125] (OwnT.other o0_932 o1_932 (by decide) (by decide)) ap23 (by intro x; simp) ha1161 (by first | rfl | simp) (by first | rfl | simp) ?_
                  simp [e2_932, e3_932, e25_932, e26_932, e27_932, hT, hlt954, hg955, hc38, hc62, hc1113, hc1141, hc1152]
                  refine nn1131 _ _ ?_
                  try simp only [thenQ_normal]
                  refine nn1072 _ _ ?_
                  try simp only [thenQ_normal]
                  refine hk1063 _ _ ⟨(lapp v933 [x1125]), (lapp v934 [(llen v933)]), (.loc 59 (fr932.tgen 59 + 1)), (.loc 55 (fr932.tgen 55 + 1)), ?_, ?_, ?_, ?_, ?_, ?_, (OwnT.mono (D := [59]) (OwnT.new (D := [59]) (d := 59) (by decide)) (by decide)), (OwnT.mono (D := [55]) (OwnT.other (OwnT.new (D := [55]) (d := 55) (by decide)) (OwnT.other o0_932 o1_932 (by decide) (by decide)) (by decide) (by decide)) (by decide)), hm1162⟩ <;> first | rfl | simp [e2_932, e3_932, e25_932, e26_932, e27_932, hT, hlt954, hg955, hc38, hc62, hc1113, hc1141, hc1152]
                · clear hm1143
                  simp [e2_932, e3_932, e25_932, e26_932, e27_932, hT, hlt954, hg955, hc38, hc62, hc1113, hc1141, hc1152]
                  refine gb1151 _ _ ?_
                  refine AWp.region [] (by decide +kernel) ?_
                  obtain ⟨ha1163, hm1164⟩ := chk_some hm1154
                  clear hm1154
                  simp [e2_932, e3_932, e25_932, e26_932, e27_932, hT, hlt954, hg955, hc38, hc62, hc1113, hc1141, hc1152]
                  refine AppAt.own (f := (fun n => AV.sc (Value.int .i64 n))) v934 [(-1)] o1_932 ap22 (by intro x; simp) ha1163 (by first | rfl | simp) (by first | rfl | simp) ?_
                  simp [e2_932, e3_932, e25_932, e26_932, e27_932, hT, hlt954, hg955, hc38, hc62, hc1113, hc1141, hc1152]
                  refine nn1131 _ _ ?_
                  try simp only [thenQ_normal]
                  refine nn1072 _ _ ?_
                  try simp only [thenQ_normal]
                  refine hk1063 _ _ ⟨v933, (lapp v934 [(-1)]), tg0_932, (.loc 44 (fr932.tgen 44 + 1)), ?_, ?_, ?_, ?_, ?_, ?_, (OwnT.mono (D := [23, 59]) (OwnT.other o0_932 o1_932 (by decide) (by decide)) (by decide)), (OwnT.mono (D := [44]) (OwnT.new (D := [44]) (d := 44) (by decide)) (by decide)), hm1164⟩ <;> first | rfl | simp [e2_932, e3_932, e25_932, e26_932, e27_932, hT, hlt954, hg955, hc38, hc62, hc1113, hc1141, hc1152]
          · clear hm1069
            rintro fr1064 h1064 ⟨v1065, v1066, tg0_1064, tg1_1064, rfl, e2_1064, e3_1064, e25_1064, e26_1064, e27_1064, o0_1064, o1_1064, hm1070⟩
            subst hj1068
            refine AWp.region [] (by decide +kernel) ?_
            simp [e2_1064, e3_1064, e25_1064, e26_1064, e27_1064, hT, hlt954, hg955, hc38, hc62]
            obtain rfl := Option.some.inj hm1070
            rw [ctlK_next] at hk941
            refine hK949 _ _ n943 (Nat.lt_succ_self _) ⟨(i508 + 1), (iadd .i64 j507 1), v1065, v1066, tg0_1064, tg1_1064, ?_, ?_, ?_, ?_, ?_, ?_, (OwnT.mono (D := [23, 59]) o0_1064 (by decide)), (OwnT.mono (D := [44, 55]) o1_1064 (by decide)), (iadd_idxJ hj951 (by omega) hok953), (by omega), hk941⟩ <;> first | rfl | simp [e2_1064, e3_1064, e25_1064, e26_1064, e27_1064, hT, hlt954, hg955, hc38, hc62]

theorem enters19 : entersB Tryd.prog 19 = true := by kernel_rfl
set_option maxRecDepth 20000 in
set_option maxHeartbeats 4000000 in
theorem r_content_Context (T : Tabs) (hT : T 0 = some (AV.agg (List.map (fun n => AV.sc (Value.int .i64 n)) tree_arities))) {H : Heap} {a0 : Sq} {r0 : (List Ty)} {r1 : Int} (hm : content_Context a0 = some (r0, r1)) : ACall Tryd.prog T 19 [Sq.av a0] H (AV.tuple [AV.slice .frz (List.map Ty.av r0), AV.sc (.int .i64 r1)]) H := by
  rw [content_Context] at hm
  refine ACallP.intro (fn := Tryd.f19) Tryd.func19 rfl enters19 (Nat.le_of_ble_eq_true rfl) ?_
  refine AWp.seqK fun K1 hk2 => ?_
  refine AWp.region [] (by decide +kernel) ?_
  simp [hT]
  refine hk2 _ _ ?_
  refine AWp.seqK fun K8 hk9 => ?_
  refine AWp.region [] (by decide +kernel) ?_
  obtain ⟨x10, x11, x12, hx13, hm14⟩ := bind3_some hm
  clear hm
  try dsimp only at hm14
  simp [hT]
  refine CallAt.fn (r_content_look T hT hx13) ?_
  simp [hT]
  refine hk9 _ _ ?_
  refine AWp.seqK fun K15 hk16 => ?_
  refine AWp.region [] (by decide +kernel) ?_
  simp [hT]
  refine hk16 _ _ ?_
  refine AWp.ret ?_
  try simp only [thenQ_ret]
  simp only [Option.some.injEq, Prod.mk.injEq] at hm14
  obtain ⟨rfl, rfl⟩ := hm14
  simp [retQ, hT]

theorem enters21 : entersB Tryd.prog 21 = true := by kernel_rfl
set_option maxRecDepth 20000 in
set_option maxHeartbeats 4000000 in
theorem r_content_Places (T : Tabs) (hT : T 0 = some (AV.agg (List.map (fun n => AV.sc (Value.int .i64 n)) tree_arities))) {H : Heap} {a0 : Sq} {r0 : (List Int)} {r1 : Int} (hm : content_Places a0 = some (r0, r1)) : ACall Tryd.prog T 21 [Sq.av a0] H (AV.tuple [AV.slice .frz (List.map (fun n => AV.sc (Value.int .i64 n)) r0), AV.sc (.int .i64 r1)]) H := by
  rw [content_Places] at hm
  refine ACallP.intro (fn := Tryd.f21) Tryd.func21 rfl enters21 (Nat.le_of_ble_eq_true rfl) ?_
  refine AWp.seqK fun K1 hk2 => ?_
  refine AWp.region [] (by decide +kernel) ?_
  simp [hT]
  refine hk2 _ _ ?_
  refine AWp.seqK fun K8 hk9 => ?_
  refine AWp.region [] (by decide +kernel) ?_
  obtain ⟨x10, x11, x12, hx13, hm14⟩ := bind3_some hm
  clear hm
  try dsimp only at hm14
  simp [hT]
  refine CallAt.fn (r_content_look T hT hx13) ?_
  simp [hT]
  refine hk9 _ _ ?_
  refine AWp.seqK fun K15 hk16 => ?_
  refine AWp.region [] (by decide +kernel) ?_
  simp [hT]
  refine hk16 _ _ ?_
  refine AWp.ret ?_
  try simp only [thenQ_ret]
  simp only [Option.some.injEq, Prod.mk.injEq] at hm14
  obtain ⟨rfl, rfl⟩ := hm14
  simp [retQ, hT]

theorem enters33 : entersB Tryd.prog 33 = true := by kernel_rfl
set_option maxRecDepth 20000 in
set_option maxHeartbeats 4000000 in
theorem r_ref23_Fun (T : Tabs) {H : Heap} {a0 : Ty} {a1 : Ty} {r0 : Ty} (hm : ref23_Fun a0 a1 = some r0) : ACall Tryd.prog T 33 [Ty.av a0, Ty.av a1] H (Ty.av r0) H := by
  rw [ref23_Fun] at hm
  refine ACallP.intro (fn := Tryd.f33) Tryd.func33 rfl enters33 (Nat.le_of_ble_eq_true rfl) ?_
  refine AWp.seqK fun K1 hk2 => ?_
  refine AWp.region [] (by decide +kernel) ?_
  simp
  refine hk2 _ _ ?_
  refine AWp.seqK fun K3 hk4 => ?_
  refine AWp.region [] (by decide +kernel) ?_
  simp
  refine hk4 _ _ ?_
  refine AWp.ret ?_
  try simp only [thenQ_ret]
  have hf5 : AV.agg [AV.sc (.int .i64 4), AV.slice .frz [Ty.av a0, Ty.av a1]] = Ty.av (Ty.mk 4 [a0, a1]) := by rw [Ty.av_mk]; rfl
  have hf6 : AV.agg [AV.sc (.int .i64 4), AV.slice .frz [Ty.av a0, Ty.av a1]] = Ty.av (Ty.mk 4 [a0, a1]) := by rw [Ty.av_mk]; rfl
  obtain rfl := Option.some.inj hm
  simp [retQ, hf5, hf6]

end Go.Proofs.YtdihelfnjememaaDoor
