/- The program's functions do what the models say. -/
import Derived.Test.YtdihelfnjememaaDoorCR05
import Derived.Test.YtdihelfnjememaaDoorCM
set_option linter.unusedSimpArgs false
set_option linter.unusedVariables false
namespace Go.Proofs.YtdihelfnjememaaDoor
open Go Go.Abs Go.Mdl

theorem enters70 : entersB Tryd.prog 70 = true := by kernel_rfl
set_option maxRecDepth 20000 in
set_option maxHeartbeats 4000000 in
theorem r_ref05_Sub (T : Tabs) {H : Heap}  {r0 : Tm} (hm : ref05_Sub = some r0) : ACall Tryd.prog T 70 [] H (Tm.av r0) H := by
  rw [ref05_Sub] at hm
  refine ACallP.intro (fn := Tryd.f70) Tryd.func70 rfl enters70 (Nat.le_of_ble_eq_true rfl) ?_
  refine AWp.seqK fun K1 hk2 => ?_
  refine AWp.region [] (by decide +kernel) ?_
  simp
  refine hk2 _ _ ?_
  refine AWp.seqK fun K33 hk34 => ?_
  refine AWp.region [] (by decide +kernel) ?_
  obtain ⟨x35, hx36, hm37⟩ := bind1_some hm
  clear hm
  try dsimp only at hm37
  simp
  refine CallAt.fn (r_ref02_Var T hx36) ?_
  obtain ⟨x38, hx39, hm40⟩ := bind1_some hm37
  clear hm37
  try dsimp only at hm40
  simp
  refine CallAt.fn (r_ref05_Pred T hx39) ?_
  obtain ⟨x41, hx42, hm43⟩ := bind1_some hm40
  clear hm40
  try dsimp only at hm43
  simp
  refine CallAt.fn (r_ref02_Var T hx42) ?_
  obtain ⟨x44, hx45, hm46⟩ := bind1_some hm43
  clear hm43
  try dsimp only at hm46
  simp
  refine CallAt.fn (r_ref02_N T hx45) ?_
  obtain ⟨x47, hx48, hm49⟩ := bind1_some hm46
  clear hm46
  try dsimp only at hm49
  simp
  refine CallAt.fn (r_ref05_lam T hx48) ?_
  obtain ⟨x50, hx51, hm52⟩ := bind1_some hm49
  clear hm49
  try dsimp only at hm52
  simp
  refine CallAt.fn (r_ref05_lam T hx51) ?_
  obtain ⟨x53, hx54, hm55⟩ := bind1_some hm52
  clear hm52
  try dsimp only at hm55
  simp
  refine CallAt.fn (r_ref02_Var T hx54) ?_
  obtain ⟨x56, hx57, hm58⟩ := bind1_some hm55
  clear hm55
  try dsimp only at hm58
  simp
  refine CallAt.fn (r_ref05_rec T hx57) ?_
  obtain ⟨x59, hx60, hm61⟩ := bind1_some hm58
  clear hm58
  try dsimp only at hm61
  simp
  refine CallAt.fn (r_ref05_lam T hx60) ?_
  obtain ⟨x62, hx63, hm64⟩ := bind1_some hm61
  clear hm61
  try dsimp only at hm64
  simp
  refine CallAt.fn (r_ref05_lam T hx63) ?_
  simp
  refine hk34 _ _ ?_
  refine AWp.ret ?_
  try simp only [thenQ_ret]
  obtain rfl := Option.some.inj hm64
  simp [retQ]

theorem enters30 : entersB Tryd.prog 30 = true := by kernel_rfl
set_option maxRecDepth 20000 in
set_option maxHeartbeats 4000000 in
theorem rg_mk_Term (T : Tabs) : ∀ (n : Nat), (∀ {H : Heap} {a0 : Smk_Deck} {a1 : (List Ty)} {a2 : Ty} {a3 : Int} {r0 : Tm} {rd : Smk_Deck} {o : Nat} (ho : o < List.length H) (hm : mk_Term n a0 a1 a2 a3 = some (r0, rd)), ACall Tryd.prog T 30 [AV.gptr o 0, AV.slice .frz (List.map Ty.av a1), Ty.av a2, AV.sc (.int .i64 a3)] (hset H o [AV.slice .frz (List.map (fun n => AV.sc (Value.int .i64 n)) a0.l), AV.sc (.int .i64 a0.atF)]) (Tm.av r0) (hset H o [AV.slice .frz (List.map (fun n => AV.sc (Value.int .i64 n)) rd.l), AV.sc (.int .i64 rd.atF)])) := by
  intro n
  induction n with
  | zero =>
    skip
    all_goals
      intros
      rename_i hm
      cases hm
  | succ n ih =>
    intro H a0 a1 a2 a3 r0 rd o ho hm
    rw [mk_Term] at hm
    have hget : ∀ c, (hset H o c)[o]? = some c := fun c => by simp [hset, ho]
    refine ACallP.intro (fn := Tryd.f30) Tryd.func30 rfl enters30 (Nat.le_of_ble_eq_true rfl) ?_
    refine AWp.seqK fun K1 hk2 => ?_
    refine AWp.region [] (by decide +kernel) ?_
    simp [hget]
    refine hk2 _ _ ?_
    refine AWp.seqK fun K6 hk7 => ?_
    refine AWp.region [] (by decide +kernel) ?_
    obtain ⟨x8, hx9, hm10⟩ := bind1_some hm
    clear hm
    try dsimp only at hm10
    simp [hget]
    refine CallAt.fn (r_mk_vars T hx9) ?_
    simp [hget]
    refine hk7 _ _ ?_
    refine AWp.seqK fun K63 hk64 => ?_
    obtain ⟨j77, hj78, hm79⟩ := joinB_some hm10
    clear hm10
    refine AWp.seqP (fun fr h => ∃ (v75 : Bool) (v76 : Smk_Deck) (g6_74 : Nat) (g8_74 : Nat), hset H o [AV.slice .frz (List.map (fun n => AV.sc (Value.int .i64 n)) v76.l), AV.sc (.int .i64 v76.atF)] = h ∧ fr.env 0 = AV.gptr o 0 ∧ fr.env 1 = AV.slice .frz (List.map Ty.av a1) ∧ fr.env 3 = AV.sc (.int .i64 a3) ∧ fr.env 6 = AV.lptr 6 g6_74 0 ∧ fr.env 8 = AV.lptr 8 g8_74 0 ∧ fr.env 9 = AV.slice .frz (List.map (fun n => AV.sc (Value.int .i64 n)) x8) ∧ fr.env 27 = AV.sc (.bool v75) ∧ fr.gen 6 = g6_74 ∧ fr.box 6 = some [AV.sc (.int .i64 a2.kind), AV.slice .frz (List.map Ty.av a2.args)] ∧ fr.gen 8 = g8_74 ∧ fr.box 8 = some [AV.sc (.int .i64 0), AV.sc (.int .i64 0), AV.sc (.int .i64 0), AV.slice .full [], AV.slice .full []] ∧ j77 v75 v76 = some (r0, rd)) (fun K72 hk73 => ?_) ?_
    · refine AWp.region [] (by decide +kernel) ?_
      rcases ite_some hm79 with ⟨hc81, hm82⟩ | ⟨hc81, hm83⟩
      · clear hm79
        obtain ⟨x84, d85, hx86, hm87⟩ := bind2_some hm82
        clear hm82
        try dsimp only at hm87
        simp [hget, hc81]
        refine CallAt.fn (r_mk_Deck_Next T (by first | exact ho | decide) hx86) ?_
        simp [hget, hc81]
        refine hk73 _ _ ⟨(igt x84 0), d85, 1, 1, ?_, ?_, ?_, ?_, ?_, ?_, ?_, ?_, ?_, ?_, ?_, ?_, hm87⟩ <;> first | rfl | simp [hget, hc81]
      · clear hm79
        simp [hget, hc81]
        refine hk73 _ _ ⟨false, a0, 1, 1, ?_, ?_, ?_, ?_, ?_, ?_, ?_, ?_, ?_, ?_, ?_, ?_, hm83⟩ <;> first | rfl | simp [hget, hc81]
    · clear hm79
      rintro fr74 h74 ⟨v75, v76, g6_74, g8_74, rfl, e0_74, e1_74, e3_74, e6_74, e8_74, e9_74, e27_74, g6e_74, b6_74, g8e_74, b8_74, hm80⟩
      subst hj78
      refine AWp.condK rfl fun A88 B89 ga90 gb91 => ?_
      rcases ite_some hm80 with ⟨hc92, hm93⟩ | ⟨hc92, hm94⟩
      · clear hm80
        simp [e0_74, e1_74, e3_74, e6_74, e8_74, e9_74, e27_74, g6e_74, b6_74, g8e_74, b8_74, hget, hc92]
        refine ga90 _ _ ?_
        refine AWp.seqK fun K105 hk106 => ?_
        refine AWp.region [] (by decide +kernel) ?_
        obtain ⟨x107, d108, hx109, hm110⟩ := bind2_some hm93
        clear hm93
        try dsimp only at hm110
        simp [e0_74, e1_74, e3_74, e6_74, e8_74, e9_74, e27_74, g6e_74, b6_74, g8e_74, b8_74, hget, hc92]
        refine CallAt.fn (r_mk_Deck_Next T (by first | exact ho | decide) hx109) ?_
        obtain ⟨x111, hx112, hm113⟩ := bind1_some hm110
        clear hm110
        try dsimp only at hm113
        obtain ⟨x114, hx115, hm116⟩ := bind1_some hm113
        clear hm113
        try dsimp only at hm116
        simp [e0_74, e1_74, e3_74, e6_74, e8_74, e9_74, e27_74, g6e_74, b6_74, g8e_74, b8_74, hget, hx112, hc92]
        refine CallAt.fn (r_ref02_Var T hx115) ?_
        simp [e0_74, e1_74, e3_74, e6_74, e8_74, e9_74, e27_74, g6e_74, b6_74, g8e_74, b8_74, hget, hx112, hc92]
        refine hk106 _ _ ?_
        refine AWp.ret ?_
        try simp only [thenQ_ret]
        simp only [Option.some.injEq, Prod.mk.injEq] at hm116
        obtain ⟨rfl, rfl⟩ := hm116
        simp [retQ, e0_74, e1_74, e3_74, e6_74, e8_74, e9_74, e27_74, g6e_74, b6_74, g8e_74, b8_74, hget, hx112, hc92]
      · clear hm80
        simp [e0_74, e1_74, e3_74, e6_74, e8_74, e9_74, e27_74, g6e_74, b6_74, g8e_74, b8_74, hget, hc92]
        refine gb91 _ _ ?_
        refine AWp.skip ?_
        try simp only [thenQ_normal]
        refine hk64 _ _ ?_
        obtain ⟨j656, hj657, hm658⟩ := joinB_some hm94
        clear hm94
        refine AWp.seqP (fun fr h => ∃ (v655 : Smk_Deck) (g6_654 : Nat) (g8_654 : Nat), hset H o [AV.slice .frz (List.map (fun n => AV.sc (Value.int .i64 n)) v655.l), AV.sc (.int .i64 v655.atF)] = h ∧ fr.env 0 = AV.gptr o 0 ∧ fr.env 1 = AV.slice .frz (List.map Ty.av a1) ∧ fr.env 3 = AV.sc (.int .i64 a3) ∧ fr.env 6 = AV.lptr 6 g6_654 0 ∧ fr.env 8 = AV.lptr 8 g8_654 0 ∧ fr.gen 6 = g6_654 ∧ fr.box 6 = some [AV.sc (.int .i64 a2.kind), AV.slice .frz (List.map Ty.av a2.args)] ∧ fr.gen 8 = g8_654 ∧ fr.box 8 = some [AV.sc (.int .i64 0), AV.sc (.int .i64 0), AV.sc (.int .i64 0), AV.slice .full [], AV.slice .full []] ∧ j656 v655 = some (r0, rd)) (fun K652 hk653 => ?_) ?_
        · refine AWp.seqK fun K660 hk661 => ?_
          refine AWp.region [] (by decide +kernel) ?_
          simp [e0_74, e1_74, e3_74, e6_74, e8_74, e9_74, e27_74, g6e_74, b6_74, g8e_74, b8_74, hget, hc92]
          refine hk661 _ _ ?_
          refine AWp.condK rfl fun A662 B663 ga664 gb665 => ?_
          rcases ite_some hm658 with ⟨hc666, hm667⟩ | ⟨hc666, hm668⟩
          · clear hm658
            simp [e0_74, e1_74, e3_74, e6_74, e8_74, e9_74, e27_74, g6e_74, b6_74, g8e_74, b8_74, hget, hc92, hc666]
            refine ga664 _ _ ?_
            refine AWp.seqK fun K673 hk674 => ?_
            refine AWp.region [] (by decide +kernel) ?_
            obtain ⟨x675, d676, hx677, hm678⟩ := bind2_some hm667
            clear hm667
            try dsimp only at hm678
            simp [e0_74, e1_74, e3_74, e6_74, e8_74, e9_74, e27_74, g6e_74, b6_74, g8e_74, b8_74, hget, hc92, hc666]
            refine CallAt.fn (r_mk_Deck_Next T (by first | exact ho | decide) hx677) ?_
            simp [e0_74, e1_74, e3_74, e6_74, e8_74, e9_74, e27_74, g6e_74, b6_74, g8e_74, b8_74, hget, hc92, hc666]
            refine hk674 _ _ ?_
            refine AWp.blockK fun Q679 nn680 ne681 nx682 nr683 => ?_
            refine AWp.seqK fun K684 hk685 => ?_
            refine AWp.region [] (by decide +kernel) ?_
            simp [e0_74, e1_74, e3_74, e6_74, e8_74, e9_74, e27_74, g6e_74, b6_74, g8e_74, b8_74, hget, hc92, hc666]
            refine hk685 _ _ ?_
            refine AWp.condK rfl fun A686 B687 ga688 gb689 => ?_
            rcases ite_some hm678 with ⟨hc690, hm691⟩ | ⟨hc690, hm692⟩
            · clear hm678
              simp [e0_74, e1_74, e3_74, e6_74, e8_74, e9_74, e27_74, g6e_74, b6_74, g8e_74, b8_74, hget, hc92, hc666, hc690]
              refine ga688 _ _ ?_
              refine AWp.seqK fun K697 hk698 => ?_
              refine AWp.region [] (by decide +kernel) ?_
              obtain ⟨x699, d700, hx701, hm702⟩ := bind2_some hm691
              clear hm691
              try dsimp only at hm702
              simp [e0_74, e1_74, e3_74, e6_74, e8_74, e9_74, e27_74, g6e_74, b6_74, g8e_74, b8_74, hget, hc92, hc666, hc690]
              refine CallAt.fn (r_mk_Type T (by first | exact ho | decide) hx701) ?_
              simp [e0_74, e1_74, e3_74, e6_74, e8_74, e9_74, e27_74, g6e_74, b6_74, g8e_74, b8_74, hget, hc92, hc666, hc690]
              refine hk698 _ _ ?_
              refine AWp.seqK fun K720 hk721 => ?_
              refine AWp.regionD [] false mixed (by decide +kernel) (by decide +kernel) ?_
              obtain ⟨x722, hx723, hm724⟩ := bind1_some hm702
              clear hm702
              try dsimp only at hm724
              simp [e0_74, e1_74, e3_74, e6_74, e8_74, e9_74, e27_74, g6e_74, b6_74, g8e_74, b8_74, hget, hc92, hc666, hc690]
              refine CallAtD.fn (r_mk_longer T hx723) (by simp) ?_
              obtain ⟨x725, d726, hx727, hm728⟩ := bind2_some hm724
              clear hm724
              try dsimp only at hm728
              simp [e0_74, e1_74, e3_74, e6_74, e8_74, e9_74, e27_74, g6e_74, b6_74, g8e_74, b8_74, hget, hc92, hc666, hc690]
              refine CallAtD.fn (ih (by first | exact ho | decide) hx727) (by simp) ?_
              obtain ⟨x729, hx730, hm731⟩ := bind1_some hm728
              clear hm728
              try dsimp only at hm731
              simp [e0_74, e1_74, e3_74, e6_74, e8_74, e9_74, e27_74, g6e_74, b6_74, g8e_74, b8_74, hget, hc92, hc666, hc690]
              refine CallAtD.fn (r_ref02_T T hx730) (by simp) ?_
              obtain ⟨x732, d733, hx734, hm735⟩ := bind2_some hm731
              clear hm731
              try dsimp only at hm735
              simp [e0_74, e1_74, e3_74, e6_74, e8_74, e9_74, e27_74, g6e_74, b6_74, g8e_74, b8_74, hget, hc92, hc666, hc690]
              refine CallAtD.fn (ih (by first | exact ho | decide) hx734) (by simp) ?_
              obtain ⟨x736, hx737, hm738⟩ := bind1_some hm735
              clear hm735
              try dsimp only at hm738
              simp [e0_74, e1_74, e3_74, e6_74, e8_74, e9_74, e27_74, g6e_74, b6_74, g8e_74, b8_74, hget, hc92, hc666, hc690]
              refine CallAtD.fn (r_ref02_N T hx737) (by simp) ?_
              simp [e0_74, e1_74, e3_74, e6_74, e8_74, e9_74, e27_74, g6e_74, b6_74, g8e_74, b8_74, hget, hc92, hc666, hc690]
              refine hk721 _ _ ?_
              refine AWp.ret ?_
              try simp only [thenQ_ret]
              refine nr683 _ _ ?_
              try simp only [thenQ_ret]
              simp only [Option.some.injEq, Prod.mk.injEq] at hm738
              obtain ⟨rfl, rfl⟩ := hm738
              simp [retQ, e0_74, e1_74, e3_74, e6_74, e8_74, e9_74, e27_74, g6e_74, b6_74, g8e_74, b8_74, hget, hc92, hc666, hc690]
            · clear hm678
              simp [e0_74, e1_74, e3_74, e6_74, e8_74, e9_74, e27_74, g6e_74, b6_74, g8e_74, b8_74, hget, hc92, hc666, hc690]
              refine gb689 _ _ ?_
              refine AWp.seqK fun K739 hk740 => ?_
              refine AWp.region [] (by decide +kernel) ?_
              simp [e0_74, e1_74, e3_74, e6_74, e8_74, e9_74, e27_74, g6e_74, b6_74, g8e_74, b8_74, hget, hc92, hc666, hc690]
              refine hk740 _ _ ?_
              refine AWp.condK rfl fun A741 B742 ga743 gb744 => ?_
              rcases ite_some hm692 with ⟨hc745, hm746⟩ | ⟨hc745, hm747⟩
              · clear hm692
                simp [e0_74, e1_74, e3_74, e6_74, e8_74, e9_74, e27_74, g6e_74, b6_74, g8e_74, b8_74, hget, hc92, hc666, hc690, hc745]
                refine ga743 _ _ ?_
                refine AWp.seqK fun K752 hk753 => ?_
                refine AWp.region [] (by decide +kernel) ?_
                obtain ⟨x754, d755, hx756, hm757⟩ := bind2_some hm746
                clear hm746
                try dsimp only at hm757
                simp [e0_74, e1_74, e3_74, e6_74, e8_74, e9_74, e27_74, g6e_74, b6_74, g8e_74, b8_74, hget, hc92, hc666, hc690, hc745]
                refine CallAt.fn (r_mk_Type T (by first | exact ho | decide) hx756) ?_
                simp [e0_74, e1_74, e3_74, e6_74, e8_74, e9_74, e27_74, g6e_74, b6_74, g8e_74, b8_74, hget, hc92, hc666, hc690, hc745]
                refine hk753 _ _ ?_
                refine AWp.seqK fun K772 hk773 => ?_
                refine AWp.regionD [] false mixed (by decide +kernel) (by decide +kernel) ?_
                obtain ⟨x774, d775, hx776, hm777⟩ := bind2_some hm757
                clear hm757
                try dsimp only at hm777
                simp [e0_74, e1_74, e3_74, e6_74, e8_74, e9_74, e27_74, g6e_74, b6_74, g8e_74, b8_74, hget, hc92, hc666, hc690, hc745]
                refine CallAtD.fn (ih (by first | exact ho | decide) hx776) (by simp) ?_
                obtain ⟨x778, d779, hx780, hm781⟩ := bind2_some hm777
                clear hm777
                try dsimp only at hm781
                simp [e0_74, e1_74, e3_74, e6_74, e8_74, e9_74, e27_74, g6e_74, b6_74, g8e_74, b8_74, hget, hc92, hc666, hc690, hc745]
                refine CallAtD.fn (ih (by first | exact ho | decide) hx780) (by simp) ?_
                obtain ⟨x782, hx783, hm784⟩ := bind1_some hm781
                clear hm781
                try dsimp only at hm784
                simp [e0_74, e1_74, e3_74, e6_74, e8_74, e9_74, e27_74, g6e_74, b6_74, g8e_74, b8_74, hget, hc92, hc666, hc690, hc745]
                refine CallAtD.fn (r_ref02_N T hx783) (by simp) ?_
                obtain ⟨x785, hx786, hm787⟩ := bind1_some hm784
                clear hm784
                try dsimp only at hm787
                simp [e0_74, e1_74, e3_74, e6_74, e8_74, e9_74, e27_74, g6e_74, b6_74, g8e_74, b8_74, hget, hc92, hc666, hc690, hc745]
                refine CallAtD.fn (r_ref02_N T hx786) (by simp) ?_
                simp [e0_74, e1_74, e3_74, e6_74, e8_74, e9_74, e27_74, g6e_74, b6_74, g8e_74, b8_74, hget, hc92, hc666, hc690, hc745]
                refine hk773 _ _ ?_
                refine AWp.ret ?_
                try simp only [thenQ_ret]
                refine nr683 _ _ ?_
                try simp only [thenQ_ret]
                simp only [Option.some.injEq, Prod.mk.injEq] at hm787
                obtain ⟨rfl, rfl⟩ := hm787
                simp [retQ, e0_74, e1_74, e3_74, e6_74, e8_74, e9_74, e27_74, g6e_74, b6_74, g8e_74, b8_74, hget, hc92, hc666, hc690, hc745]
              · clear hm692
                simp [e0_74, e1_74, e3_74, e6_74, e8_74, e9_74, e27_74, g6e_74, b6_74, g8e_74, b8_74, hget, hc92, hc666, hc690, hc745]
                refine gb744 _ _ ?_
                refine AWp.seqK fun K788 hk789 => ?_
                refine AWp.region [] (by decide +kernel) ?_
                simp [e0_74, e1_74, e3_74, e6_74, e8_74, e9_74, e27_74, g6e_74, b6_74, g8e_74, b8_74, hget, hc92, hc666, hc690, hc745]
                refine hk789 _ _ ?_
                refine AWp.condK rfl fun A790 B791 ga792 gb793 => ?_
                rcases ite_some hm747 with ⟨hc794, hm795⟩ | ⟨hc794, hm796⟩
                · clear hm747
                  simp [e0_74, e1_74, e3_74, e6_74, e8_74, e9_74, e27_74, g6e_74, b6_74, g8e_74, b8_74, hget, hc92, hc666, hc690, hc745, hc794]
                  refine ga792 _ _ ?_
                  refine AWp.seqK fun K816 hk817 => ?_
                  refine AWp.regionD [] false mixed (by decide +kernel) (by decide +kernel) ?_
                  obtain ⟨x818, hx819, hm820⟩ := bind1_some hm795
                  clear hm795
                  try dsimp only at hm820
                  simp [e0_74, e1_74, e3_74, e6_74, e8_74, e9_74, e27_74, g6e_74, b6_74, g8e_74, b8_74, hget, hc92, hc666, hc690, hc745, hc794]
                  refine CallAtD.fn (r_ref01_Nat T hx819) (by simp) ?_
                  obtain ⟨x821, hx822, hm823⟩ := bind1_some hm820
                  clear hm820
                  try dsimp only at hm823
                  simp [e0_74, e1_74, e3_74, e6_74, e8_74, e9_74, e27_74, g6e_74, b6_74, g8e_74, b8_74, hget, hc92, hc666, hc690, hc745, hc794]
                  refine CallAtD.fn (r_ref01_Nat T hx822) (by simp) ?_
                  obtain ⟨x824, hx825, hm826⟩ := bind1_some hm823
                  clear hm823
                  try dsimp only at hm826
                  simp [e0_74, e1_74, e3_74, e6_74, e8_74, e9_74, e27_74, g6e_74, b6_74, g8e_74, b8_74, hget, hc92, hc666, hc690, hc745, hc794]
                  refine CallAtD.fn (r_mk_longer T hx825) (by simp) ?_
                  obtain ⟨x827, d828, hx829, hm830⟩ := bind2_some hm826
                  clear hm826
                  try dsimp only at hm830
                  simp [e0_74, e1_74, e3_74, e6_74, e8_74, e9_74, e27_74, g6e_74, b6_74, g8e_74, b8_74, hget, hc92, hc666, hc690, hc745, hc794]
                  refine CallAtD.fn (ih (by first | exact ho | decide) hx829) (by simp) ?_
                  obtain ⟨x831, hx832, hm833⟩ := bind1_some hm830
                  clear hm830
                  try dsimp only at hm833
                  simp [e0_74, e1_74, e3_74, e6_74, e8_74, e9_74, e27_74, g6e_74, b6_74, g8e_74, b8_74, hget, hc92, hc666, hc690, hc745, hc794]
                  refine CallAtD.fn (r_ref02_T T hx832) (by simp) ?_
                  obtain ⟨x834, hx835, hm836⟩ := bind1_some hm833
                  clear hm833
                  try dsimp only at hm836
                  simp [e0_74, e1_74, e3_74, e6_74, e8_74, e9_74, e27_74, g6e_74, b6_74, g8e_74, b8_74, hget, hc92, hc666, hc690, hc745, hc794]
                  refine CallAtD.fn (r_ref02_T T hx835) (by simp) ?_
                  simp [e0_74, e1_74, e3_74, e6_74, e8_74, e9_74, e27_74, g6e_74, b6_74, g8e_74, b8_74, hget, hc92, hc666, hc690, hc745, hc794]
                  refine hk817 _ _ ?_
                  refine AWp.seqK fun K851 hk852 => ?_
                  refine AWp.regionD [] false mixed (by decide +kernel) (by decide +kernel) ?_
                  obtain ⟨x853, d854, hx855, hm856⟩ := bind2_some hm836
                  clear hm836
                  try dsimp only at hm856
                  simp [e0_74, e1_74, e3_74, e6_74, e8_74, e9_74, e27_74, g6e_74, b6_74, g8e_74, b8_74, hget, hc92, hc666, hc690, hc745, hc794]
                  refine CallAtD.fn (ih (by first | exact ho | decide) hx855) (by simp) ?_
                  obtain ⟨x857, d858, hx859, hm860⟩ := bind2_some hm856
                  clear hm856
                  try dsimp only at hm860
                  simp [e0_74, e1_74, e3_74, e6_74, e8_74, e9_74, e27_74, g6e_74, b6_74, g8e_74, b8_74, hget, hc92, hc666, hc690, hc745, hc794]
                  refine CallAtD.fn (r_mk_Deck_Next T (by first | exact ho | decide) hx859) (by simp) ?_
                  obtain ⟨x861, hx862, hm863⟩ := bind1_some hm860
                  clear hm860
                  try dsimp only at hm863
                  simp [e0_74, e1_74, e3_74, e6_74, e8_74, e9_74, e27_74, g6e_74, b6_74, g8e_74, b8_74, hget, hc92, hc666, hc690, hc745, hc794]
                  refine CallAtD.fn (r_mk_Num T hx862) (by simp) ?_
                  obtain ⟨x864, hx865, hm866⟩ := bind1_some hm863
                  clear hm863
                  try dsimp only at hm866
                  simp [e0_74, e1_74, e3_74, e6_74, e8_74, e9_74, e27_74, g6e_74, b6_74, g8e_74, b8_74, hget, hc92, hc666, hc690, hc745, hc794]
                  refine CallAtD.fn (r_ref02_T T hx865) (by simp) ?_
                  simp [e0_74, e1_74, e3_74, e6_74, e8_74, e9_74, e27_74, g6e_74, b6_74, g8e_74, b8_74, hget, hc92, hc666, hc690, hc745, hc794]
                  refine hk852 _ _ ?_
                  refine AWp.ret ?_
                  try simp only [thenQ_ret]
                  refine nr683 _ _ ?_
                  try simp only [thenQ_ret]
                  simp only [Option.some.injEq, Prod.mk.injEq] at hm866
                  obtain ⟨rfl, rfl⟩ := hm866
                  simp [retQ, e0_74, e1_74, e3_74, e6_74, e8_74, e9_74, e27_74, g6e_74, b6_74, g8e_74, b8_74, hget, hc92, hc666, hc690, hc745, hc794]
                · clear hm747
                  simp [e0_74, e1_74, e3_74, e6_74, e8_74, e9_74, e27_74, g6e_74, b6_74, g8e_74, b8_74, hget, hc92, hc666, hc690, hc745, hc794]
                  refine gb793 _ _ ?_
                  refine AWp.seqK fun K867 hk868 => ?_
                  refine AWp.region [] (by decide +kernel) ?_
                  simp [e0_74, e1_74, e3_74, e6_74, e8_74, e9_74, e27_74, g6e_74, b6_74, g8e_74, b8_74, hget, hc92, hc666, hc690, hc745, hc794]
                  refine hk868 _ _ ?_
                  refine AWp.condK rfl fun A869 B870 ga871 gb872 => ?_
                  rcases ite_some hm796 with ⟨hc873, hm874⟩ | ⟨hc873, hm875⟩
                  · clear hm796
                    simp [e0_74, e1_74, e3_74, e6_74, e8_74, e9_74, e27_74, g6e_74, b6_74, g8e_74, b8_74, hget, hc92, hc666, hc690, hc745, hc794, hc873]
                    refine ga871 _ _ ?_
                    refine AWp.seqK fun K904 hk905 => ?_
                    refine AWp.regionD [] false mixed (by decide +kernel) (by decide +kernel) ?_
                    obtain ⟨x906, hx907, hm908⟩ := bind1_some hm874
                    clear hm874
                    try dsimp only at hm908
                    simp [e0_74, e1_74, e3_74, e6_74, e8_74, e9_74, e27_74, g6e_74, b6_74, g8e_74, b8_74, hget, hc92, hc666, hc690, hc745, hc794, hc873]
                    refine CallAtD.fn (r_ref01_Nat T hx907) (by simp) ?_
                    obtain ⟨x909, hx910, hm911⟩ := bind1_some hm908
                    clear hm908
                    try dsimp only at hm911
                    simp [e0_74, e1_74, e3_74, e6_74, e8_74, e9_74, e27_74, g6e_74, b6_74, g8e_74, b8_74, hget, hc92, hc666, hc690, hc745, hc794, hc873]
                    refine CallAtD.fn (r_ref01_List T hx910) (by simp) ?_
                    obtain ⟨x912, hx913, hm914⟩ := bind1_some hm911
                    clear hm911
                    try dsimp only at hm914
                    simp [e0_74, e1_74, e3_74, e6_74, e8_74, e9_74, e27_74, g6e_74, b6_74, g8e_74, b8_74, hget, hc92, hc666, hc690, hc745, hc794, hc873]
                    refine CallAtD.fn (r_ref01_Nat T hx913) (by simp) ?_
                    obtain ⟨x915, hx916, hm917⟩ := bind1_some hm914
                    clear hm914
                    try dsimp only at hm917
                    simp [e0_74, e1_74, e3_74, e6_74, e8_74, e9_74, e27_74, g6e_74, b6_74, g8e_74, b8_74, hget, hc92, hc666, hc690, hc745, hc794, hc873]
                    refine CallAtD.fn (r_ref01_List T hx916) (by simp) ?_
                    obtain ⟨x918, hx919, hm920⟩ := bind1_some hm917
                    clear hm917
                    try dsimp only at hm920
                    simp [e0_74, e1_74, e3_74, e6_74, e8_74, e9_74, e27_74, g6e_74, b6_74, g8e_74, b8_74, hget, hc92, hc666, hc690, hc745, hc794, hc873]
                    refine CallAtD.fn (r_mk_longer T hx919) (by simp) ?_
                    obtain ⟨x921, d922, hx923, hm924⟩ := bind2_some hm920
                    clear hm920
                    try dsimp only at hm924
                    simp [e0_74, e1_74, e3_74, e6_74, e8_74, e9_74, e27_74, g6e_74, b6_74, g8e_74, b8_74, hget, hc92, hc666, hc690, hc745, hc794, hc873]
                    refine CallAtD.fn (ih (by first | exact ho | decide) hx923) (by simp) ?_
                    obtain ⟨x925, hx926, hm927⟩ := bind1_some hm924
                    clear hm924
                    try dsimp only at hm927
                    simp [e0_74, e1_74, e3_74, e6_74, e8_74, e9_74, e27_74, g6e_74, b6_74, g8e_74, b8_74, hget, hc92, hc666, hc690, hc745, hc794, hc873]
                    refine CallAtD.fn (r_ref02_T T hx926) (by simp) ?_
                    obtain ⟨x928, hx929, hm930⟩ := bind1_some hm927
                    clear hm927
                    try dsimp only at hm930
                    simp [e0_74, e1_74, e3_74, e6_74, e8_74, e9_74, e27_74, g6e_74, b6_74, g8e_74, b8_74, hget, hc92, hc666, hc690, hc745, hc794, hc873]
                    refine CallAtD.fn (r_ref02_T T hx929) (by simp) ?_
                    obtain ⟨x931, hx932, hm933⟩ := bind1_some hm930
                    clear hm930
                    try dsimp only at hm933
                    simp [e0_74, e1_74, e3_74, e6_74, e8_74, e9_74, e27_74, g6e_74, b6_74, g8e_74, b8_74, hget, hc92, hc666, hc690, hc745, hc794, hc873]
                    refine CallAtD.fn (r_ref02_T T hx932) (by simp) ?_
                    simp [e0_74, e1_74, e3_74, e6_74, e8_74, e9_74, e27_74, g6e_74, b6_74, g8e_74, b8_74, hget, hc92, hc666, hc690, hc745, hc794, hc873]
                    refine hk905 _ _ ?_
                    refine AWp.seqK fun K948 hk949 => ?_
                    refine AWp.regionD [] false mixed (by decide +kernel) (by decide +kernel) ?_
                    obtain ⟨x950, d951, hx952, hm953⟩ := bind2_some hm933
                    clear hm933
                    try dsimp only at hm953
                    simp [e0_74, e1_74, e3_74, e6_74, e8_74, e9_74, e27_74, g6e_74, b6_74, g8e_74, b8_74, hget, hc92, hc666, hc690, hc745, hc794, hc873]
                    refine CallAtD.fn (ih (by first | exact ho | decide) hx952) (by simp) ?_
                    obtain ⟨x954, hx955, hm956⟩ := bind1_some hm953
                    clear hm953
                    try dsimp only at hm956
                    simp [e0_74, e1_74, e3_74, e6_74, e8_74, e9_74, e27_74, g6e_74, b6_74, g8e_74, b8_74, hget, hc92, hc666, hc690, hc745, hc794, hc873]
                    refine CallAtD.fn (r_ref01_List T hx955) (by simp) ?_
                    obtain ⟨x957, d958, hx959, hm960⟩ := bind2_some hm956
                    clear hm956
                    try dsimp only at hm960
                    simp [e0_74, e1_74, e3_74, e6_74, e8_74, e9_74, e27_74, g6e_74, b6_74, g8e_74, b8_74, hget, hc92, hc666, hc690, hc745, hc794, hc873]
                    refine CallAtD.fn (ih (by first | exact ho | decide) hx959) (by simp) ?_
                    obtain ⟨x961, hx962, hm963⟩ := bind1_some hm960
                    clear hm960
                    try dsimp only at hm963
                    simp [e0_74, e1_74, e3_74, e6_74, e8_74, e9_74, e27_74, g6e_74, b6_74, g8e_74, b8_74, hget, hc92, hc666, hc690, hc745, hc794, hc873]
                    refine CallAtD.fn (r_ref02_T T hx962) (by simp) ?_
                    simp [e0_74, e1_74, e3_74, e6_74, e8_74, e9_74, e27_74, g6e_74, b6_74, g8e_74, b8_74, hget, hc92, hc666, hc690, hc745, hc794, hc873]
                    refine hk949 _ _ ?_
                    refine AWp.ret ?_
                    try simp only [thenQ_ret]
                    refine nr683 _ _ ?_
                    try simp only [thenQ_ret]
                    simp only [Option.some.injEq, Prod.mk.injEq] at hm963
                    obtain ⟨rfl, rfl⟩ := hm963
                    simp [retQ, e0_74, e1_74, e3_74, e6_74, e8_74, e9_74, e27_74, g6e_74, b6_74, g8e_74, b8_74, hget, hc92, hc666, hc690, hc745, hc794, hc873]
                  · clear hm796
                    simp [e0_74, e1_74, e3_74, e6_74, e8_74, e9_74, e27_74, g6e_74, b6_74, g8e_74, b8_74, hget, hc92, hc666, hc690, hc745, hc794, hc873]
                    refine gb872 _ _ ?_
                    refine AWp.seqK fun K964 hk965 => ?_
                    refine AWp.region [] (by decide +kernel) ?_
                    simp [e0_74, e1_74, e3_74, e6_74, e8_74, e9_74, e27_74, g6e_74, b6_74, g8e_74, b8_74, hget, hc92, hc666, hc690, hc745, hc794, hc873]
                    refine hk965 _ _ ?_
                    refine AWp.condK rfl fun A966 B967 ga968 gb969 => ?_
                    rcases ite_some hm875 with ⟨hc970, hm971⟩ | ⟨hc970, hm972⟩
                    · clear hm875
                      simp [e0_74, e1_74, e3_74, e6_74, e8_74, e9_74, e27_74, g6e_74, b6_74, g8e_74, b8_74, hget, hc92, hc666, hc690, hc745, hc794, hc873, hc970]
                      refine ga968 _ _ ?_
                      refine AWp.seqK fun K977 hk978 => ?_
                      refine AWp.region [] (by decide +kernel) ?_
                      obtain ⟨x979, d980, hx981, hm982⟩ := bind2_some hm971
                      clear hm971
                      try dsimp only at hm982
                      simp [e0_74, e1_74, e3_74, e6_74, e8_74, e9_74, e27_74, g6e_74, b6_74, g8e_74, b8_74, hget, hc92, hc666, hc690, hc745, hc794, hc873, hc970]
                      refine CallAt.fn (r_mk_Type T (by first | exact ho | decide) hx981) ?_
                      simp [e0_74, e1_74, e3_74, e6_74, e8_74, e9_74, e27_74, g6e_74, b6_74, g8e_74, b8_74, hget, hc92, hc666, hc690, hc745, hc794, hc873, hc970]
                      refine hk978 _ _ ?_
                      refine AWp.seqK fun K997 hk998 => ?_
                      refine AWp.regionD [] false mixed (by decide +kernel) (by decide +kernel) ?_
                      obtain ⟨x999, d1000, hx1001, hm1002⟩ := bind2_some hm982
                      clear hm982
                      try dsimp only at hm1002
                      simp [e0_74, e1_74, e3_74, e6_74, e8_74, e9_74, e27_74, g6e_74, b6_74, g8e_74, b8_74, hget, hc92, hc666, hc690, hc745, hc794, hc873, hc970]
                      refine CallAtD.fn (ih (by first | exact ho | decide) hx1001) (by simp) ?_
                      obtain ⟨x1003, d1004, hx1005, hm1006⟩ := bind2_some hm1002
                      clear hm1002
                      try dsimp only at hm1006
                      simp [e0_74, e1_74, e3_74, e6_74, e8_74, e9_74, e27_74, g6e_74, b6_74, g8e_74, b8_74, hget, hc92, hc666, hc690, hc745, hc794, hc873, hc970]
                      refine CallAtD.fn (ih (by first | exact ho | decide) hx1005) (by simp) ?_
                      obtain ⟨x1007, hx1008, hm1009⟩ := bind1_some hm1006
                      clear hm1006
                      try dsimp only at hm1009
                      simp [e0_74, e1_74, e3_74, e6_74, e8_74, e9_74, e27_74, g6e_74, b6_74, g8e_74, b8_74, hget, hc92, hc666, hc690, hc745, hc794, hc873, hc970]
                      refine CallAtD.fn (r_ref02_N T hx1008) (by simp) ?_
                      obtain ⟨x1010, hx1011, hm1012⟩ := bind1_some hm1009
                      clear hm1009
                      try dsimp only at hm1012
                      simp [e0_74, e1_74, e3_74, e6_74, e8_74, e9_74, e27_74, g6e_74, b6_74, g8e_74, b8_74, hget, hc92, hc666, hc690, hc745, hc794, hc873, hc970]
                      refine CallAtD.fn (r_ref02_N T hx1011) (by simp) ?_
                      simp [e0_74, e1_74, e3_74, e6_74, e8_74, e9_74, e27_74, g6e_74, b6_74, g8e_74, b8_74, hget, hc92, hc666, hc690, hc745, hc794, hc873, hc970]
                      refine hk998 _ _ ?_
                      refine AWp.ret ?_
                      try simp only [thenQ_ret]
                      refine nr683 _ _ ?_
                      try simp only [thenQ_ret]
                      simp only [Option.some.injEq, Prod.mk.injEq] at hm1012
                      obtain ⟨rfl, rfl⟩ := hm1012
                      simp [retQ, e0_74, e1_74, e3_74, e6_74, e8_74, e9_74, e27_74, g6e_74, b6_74, g8e_74, b8_74, hget, hc92, hc666, hc690, hc745, hc794, hc873, hc970]
                    · clear hm875
                      simp [e0_74, e1_74, e3_74, e6_74, e8_74, e9_74, e27_74, g6e_74, b6_74, g8e_74, b8_74, hget, hc92, hc666, hc690, hc745, hc794, hc873, hc970]
                      refine gb969 _ _ ?_
                      refine AWp.seqK fun K1013 hk1014 => ?_
                      refine AWp.region [] (by decide +kernel) ?_
                      simp [e0_74, e1_74, e3_74, e6_74, e8_74, e9_74, e27_74, g6e_74, b6_74, g8e_74, b8_74, hget, hc92, hc666, hc690, hc745, hc794, hc873, hc970]
                      refine hk1014 _ _ ?_
                      refine AWp.condK rfl fun A1015 B1016 ga1017 gb1018 => ?_
                      rcases ite_some hm972 with ⟨hc1019, hm1020⟩ | ⟨hc1019, hm1021⟩
                      · clear hm972
                        simp [e0_74, e1_74, e3_74, e6_74, e8_74, e9_74, e27_74, g6e_74, b6_74, g8e_74, b8_74, hget, hc92, hc666, hc690, hc745, hc794, hc873, hc970, hc1019]
                        refine ga1017 _ _ ?_
                        refine AWp.seqK fun K1022 hk1023 => ?_
                        refine AWp.region [] (by decide +kernel) ?_
                        simp [e0_74, e1_74, e3_74, e6_74, e8_74, e9_74, e27_74, g6e_74, b6_74, g8e_74, b8_74, hget, hc92, hc666, hc690, hc745, hc794, hc873, hc970, hc1019]
                        refine hk1023 _ _ ?_
                        obtain ⟨hok1213, hm1394⟩ := chk_some hm1020
                        clear hm1020
                        obtain ⟨F1195, hF1196, hm1395⟩ := joinB_some hm1394
                        clear hm1394
                        try dsimp only at hm1395
                        obtain ⟨out1197, hl1198, hmB1199⟩ := bind1_some hm1395
                        clear hm1395
                        refine AWp.blockK fun Q1204 nn1205 ne1206 nx1207 nr1208 => ?_
                        refine AWp.loopF (fun n1203 fr h => ∃ (i1025 : Nat) (j1024 : Int) (g6_1194 : Nat) (g8_1194 : Nat), hset H o [AV.slice .frz (List.map (fun n => AV.sc (Value.int .i64 n)) d676.l), AV.sc (.int .i64 d676.atF)] = h ∧ fr.env 0 = AV.gptr o 0 ∧ fr.env 1 = AV.slice .frz (List.map Ty.av a1) ∧ fr.env 3 = AV.sc (.int .i64 a3) ∧ fr.env 6 = AV.lptr 6 g6_1194 0 ∧ fr.env 8 = AV.lptr 8 g8_1194 0 ∧ fr.env 176 = AV.sc (.int .i64 (llen a1)) ∧ fr.env 177 = AV.sc (.int .i64 j1024) ∧ fr.gen 6 = g6_1194 ∧ fr.box 6 = some [AV.sc (.int .i64 a2.kind), AV.slice .frz (List.map Ty.av a2.args)] ∧ fr.gen 8 = g8_1194 ∧ fr.box 8 = some [AV.sc (.int .i64 0), AV.sc (.int .i64 0), AV.sc (.int .i64 0), AV.slice .full [], AV.slice .full []] ∧ j1024 = (i1025 : Int) ∧ i1025 + n1203 = List.length a1 ∧ forR F1195 (List.drop i1025 a1) i1025 () = some out1197) (List.length a1) ?_ ?_
                        · refine ⟨0, 0, g6_74, g8_74, ?_, ?_, ?_, ?_, ?_, ?_, ?_, ?_, ?_, ?_, ?_, ?_, rfl, (by simp), hl1198⟩ <;> first | rfl | simp [e0_74, e1_74, e3_74, e6_74, e8_74, e9_74, e27_74, g6e_74, b6_74, g8e_74, b8_74, hget, hc92, hc666, hc690, hc745, hc794, hc873, hc970, hc1019]
                        · rintro n1203 fr1194 h1194 ⟨i1025, j1024, g6_1194, g8_1194, rfl, e0_1194, e1_1194, e3_1194, e6_1194, e8_1194, e176_1194, e177_1194, g6e_1194, b6_1194, g8e_1194, b8_1194, hj1211, hi1212, hl1198⟩ K1210 hK1209
                          rcases n1203 with _ | n1203
                          · have hlt1214 := ilt_notJ (l := a1) hj1211 (by omega)
                            refine AWp.seqK fun K1382 hk1383 => ?_
                            refine AWp.region [] (by decide +kernel) ?_
                            simp [e0_1194, e1_1194, e3_1194, e6_1194, e8_1194, e176_1194, e177_1194, g6e_1194, b6_1194, g8e_1194, b8_1194, hget, hlt1214, hc92, hc666, hc690, hc745, hc794, hc873, hc970, hc1019]
                            refine hk1383 _ _ ?_
                            refine AWp.seqK fun K1388 hk1389 => ?_
                            refine AWp.condK rfl fun A1390 B1391 ga1392 gb1393 => ?_
                            simp [e0_1194, e1_1194, e3_1194, e6_1194, e8_1194, e176_1194, e177_1194, g6e_1194, b6_1194, g8e_1194, b8_1194, hget, hlt1214, hc92, hc666, hc690, hc745, hc794, hc873, hc970, hc1019]
                            refine gb1393 _ _ ?_
                            refine AWp.exit ?_
                            try simp only [thenQ_exit]
                            refine ne1206 _ _ ?_
                            try simp only [thenQ_normal]
                            rw [List.drop_eq_nil_of_le (by omega), forR_nil] at hl1198
                            obtain rfl := Option.some.inj hl1198
                            rw [sumK_inl] at hmB1199
                            try dsimp only at hmB1199
                            refine nn680 _ _ ?_
                            try simp only [thenQ_normal]
                            refine hk653 _ _ ⟨d676, g6_1194, g8_1194, ?_, ?_, ?_, ?_, ?_, ?_, ?_, ?_, ?_, ?_, hmB1199⟩ <;> first | rfl | simp [e0_1194, e1_1194, e3_1194, e6_1194, e8_1194, e176_1194, e177_1194, g6e_1194, b6_1194, g8e_1194, b8_1194, hget, hlt1214, hc92, hc666, hc690, hc745, hc794, hc873, hc970, hc1019]
                          · have hlt1214 := ilt_ofJ (l := a1) hj1211 (by omega)
                            obtain ⟨x1026, hdn1203, hg1215⟩ := drop_ltJ (l := a1) hj1211 (by omega)
                            rw [hdn1203, forR_cons] at hl1198
                            obtain ⟨c1200, hb1202, hk1201⟩ := bind1_some hl1198
                            clear hl1198
                            rw [hF1196, ← hj1211] at hb1202
                            try dsimp only at hb1202
                            refine AWp.seqK fun K1216 hk1217 => ?_
                            refine AWp.region [] (by decide +kernel) ?_
                            simp [e0_1194, e1_1194, e3_1194, e6_1194, e8_1194, e176_1194, e177_1194, g6e_1194, b6_1194, g8e_1194, b8_1194, hget, hlt1214, hg1215, hc92, hc666, hc690, hc745, hc794, hc873, hc970, hc1019]
                            refine hk1217 _ _ ?_
                            refine AWp.seqK fun K1222 hk1223 => ?_
                            refine AWp.condK rfl fun A1224 B1225 ga1226 gb1227 => ?_
                            simp [e0_1194, e1_1194, e3_1194, e6_1194, e8_1194, e176_1194, e177_1194, g6e_1194, b6_1194, g8e_1194, b8_1194, hget, hlt1214, hg1215, hc92, hc666, hc690, hc745, hc794, hc873, hc970, hc1019]
                            refine ga1226 _ _ ?_
                            refine AWp.skip ?_
                            try simp only [thenQ_normal]
                            refine hk1223 _ _ ?_
                            refine AWp.seqK fun K1304 hk1305 => ?_
                            refine AWp.blockK fun Q1306 nn1307 ne1308 nx1309 nr1310 => ?_
                            refine AWp.seqK fun K1311 hk1312 => ?_
                            refine AWp.region [] (by decide +kernel) ?_
                            simp [e0_1194, e1_1194, e3_1194, e6_1194, e8_1194, e176_1194, e177_1194, g6e_1194, b6_1194, g8e_1194, b8_1194, hget, hlt1214, hg1215, hc92, hc666, hc690, hc745, hc794, hc873, hc970, hc1019]
                            refine hk1312 _ _ ?_
                            refine AWp.seqK fun K1316 hk1317 => ?_
                            refine AWp.region [] (by decide +kernel) ?_
                            obtain ⟨x1318, hx1319, hm1320⟩ := bind1_some hb1202
                            clear hb1202
                            try dsimp only at hm1320
                            simp [e0_1194, e1_1194, e3_1194, e6_1194, e8_1194, e176_1194, e177_1194, g6e_1194, b6_1194, g8e_1194, b8_1194, hget, hlt1214, hg1215, hx1319, hc92, hc666, hc690, hc745, hc794, hc873, hc970, hc1019]
                            refine hk1317 _ _ ?_
                            obtain ⟨j1334, hj1335, hm1336⟩ := joinB_some hm1320
                            clear hm1320
                            refine AWp.seqP (fun fr h => ∃ (v1333 : Bool) (g6_1332 : Nat) (g8_1332 : Nat) (g16_1332 : Nat), hset H o [AV.slice .frz (List.map (fun n => AV.sc (Value.int .i64 n)) d676.l), AV.sc (.int .i64 d676.atF)] = h ∧ fr.env 0 = AV.gptr o 0 ∧ fr.env 1 = AV.slice .frz (List.map Ty.av a1) ∧ fr.env 3 = AV.sc (.int .i64 a3) ∧ fr.env 6 = AV.lptr 6 g6_1332 0 ∧ fr.env 8 = AV.lptr 8 g8_1332 0 ∧ fr.env 15 = AV.sc (.int .i64 j1024) ∧ fr.env 16 = AV.lptr 16 g16_1332 0 ∧ fr.env 176 = AV.sc (.int .i64 (llen a1)) ∧ fr.env 177 = AV.sc (.int .i64 j1024) ∧ fr.env 198 = AV.sc (.bool v1333) ∧ fr.gen 6 = g6_1332 ∧ fr.box 6 = some [AV.sc (.int .i64 a2.kind), AV.slice .frz (List.map Ty.av a2.args)] ∧ fr.gen 8 = g8_1332 ∧ fr.box 8 = some [AV.sc (.int .i64 0), AV.sc (.int .i64 0), AV.sc (.int .i64 0), AV.slice .full [], AV.slice .full []] ∧ fr.gen 16 = g16_1332 ∧ fr.box 16 = some [AV.sc (.int .i64 x1318.kind), AV.slice .frz (List.map Ty.av x1318.args)] ∧ j1334 v1333 = some c1200) (fun K1330 hk1331 => ?_) ?_
                            · refine AWp.regionD [] false mixed (by decide +kernel) (by decide +kernel) ?_
                              rcases ite_some hm1336 with ⟨hc1338, hm1339⟩ | ⟨hc1338, hm1340⟩
                              · clear hm1336
                                obtain ⟨x1341, hx1342, hm1343⟩ := bind1_some hm1339
                                clear hm1339
                                try dsimp only at hm1343
                                obtain ⟨x1344, hx1345, hm1346⟩ := bind1_some hm1343
                                clear hm1343
                                try dsimp only at hm1346
                                simp [e0_1194, e1_1194, e3_1194, e6_1194, e8_1194, e176_1194, e177_1194, g6e_1194, b6_1194, g8e_1194, b8_1194, hget, hlt1214, hg1215, hx1319, hx1342, hc92, hc666, hc690, hc745, hc794, hc873, hc970, hc1019, hc1338]
                                refine CallAtD.fn (r_ref01_Same T hx1345) (by simp) ?_
                                simp [e0_1194, e1_1194, e3_1194, e6_1194, e8_1194, e176_1194, e177_1194, g6e_1194, b6_1194, g8e_1194, b8_1194, hget, hlt1214, hg1215, hx1319, hx1342, hc92, hc666, hc690, hc745, hc794, hc873, hc970, hc1019, hc1338]
                                refine hk1331 _ _ ⟨x1344, g6_1194, g8_1194, (fr1194.gen 16 + 1), ?_, ?_, ?_, ?_, ?_, ?_, ?_, ?_, ?_, ?_, ?_, ?_, ?_, ?_, ?_, ?_, ?_, hm1346⟩ <;> first | rfl | simp [e0_1194, e1_1194, e3_1194, e6_1194, e8_1194, e176_1194, e177_1194, g6e_1194, b6_1194, g8e_1194, b8_1194, hget, hlt1214, hg1215, hx1319, hx1342, hc92, hc666, hc690, hc745, hc794, hc873, hc970, hc1019, hc1338]
                              · clear hm1336
                                simp [e0_1194, e1_1194, e3_1194, e6_1194, e8_1194, e176_1194, e177_1194, g6e_1194, b6_1194, g8e_1194, b8_1194, hget, hlt1214, hg1215, hx1319, hc92, hc666, hc690, hc745, hc794, hc873, hc970, hc1019, hc1338]
                                refine hk1331 _ _ ⟨false, g6_1194, g8_1194, (fr1194.gen 16 + 1), ?_, ?_, ?_, ?_, ?_, ?_, ?_, ?_, ?_, ?_, ?_, ?_, ?_, ?_, ?_, ?_, ?_, hm1340⟩ <;> first | rfl | simp [e0_1194, e1_1194, e3_1194, e6_1194, e8_1194, e176_1194, e177_1194, g6e_1194, b6_1194, g8e_1194, b8_1194, hget, hlt1214, hg1215, hx1319, hc92, hc666, hc690, hc745, hc794, hc873, hc970, hc1019, hc1338]
                            · clear hm1336
                              rintro fr1332 h1332 ⟨v1333, g6_1332, g8_1332, g16_1332, rfl, e0_1332, e1_1332, e3_1332, e6_1332, e8_1332, e15_1332, e16_1332, e176_1332, e177_1332, e198_1332, g6e_1332, b6_1332, g8e_1332, b8_1332, g16e_1332, b16_1332, hm1337⟩
                              subst hj1335
                              refine AWp.condK rfl fun A1347 B1348 ga1349 gb1350 => ?_
                              rcases ite_some hm1337 with ⟨hc1351, hm1352⟩ | ⟨hc1351, hm1353⟩
                              · clear hm1337
                                simp [e0_1332, e1_1332, e3_1332, e6_1332, e8_1332, e15_1332, e16_1332, e176_1332, e177_1332, e198_1332, g6e_1332, b6_1332, g8e_1332, b8_1332, g16e_1332, b16_1332, hget, hlt1214, hg1215, hx1319, hc92, hc666, hc690, hc745, hc794, hc873, hc970, hc1019, hc1351]
                                refine ga1349 _ _ ?_
                                refine AWp.seqK fun K1367 hk1368 => ?_
                                refine AWp.regionD [] false mixed (by decide +kernel) (by decide +kernel) ?_
                                obtain ⟨x1369, hx1370, hm1371⟩ := bind1_some hm1352
                                clear hm1352
                                try dsimp only at hm1371
                                simp [e0_1332, e1_1332, e3_1332, e6_1332, e8_1332, e15_1332, e16_1332, e176_1332, e177_1332, e198_1332, g6e_1332, b6_1332, g8e_1332, b8_1332, g16e_1332, b16_1332, hget, hlt1214, hg1215, hx1319, hc92, hc666, hc690, hc745, hc794, hc873, hc970, hc1019, hc1351]
                                refine CallAtD.fn (r_ref02_Var T hx1370) (by simp) ?_
                                obtain ⟨x1372, hx1373, hm1374⟩ := bind1_some hm1371
                                clear hm1371
                                try dsimp only at hm1374
                                obtain ⟨x1375, d1376, hx1377, hm1378⟩ := bind2_some hm1374
                                clear hm1374
                                try dsimp only at hm1378
                                simp [e0_1332, e1_1332, e3_1332, e6_1332, e8_1332, e15_1332, e16_1332, e176_1332, e177_1332, e198_1332, g6e_1332, b6_1332, g8e_1332, b8_1332, g16e_1332, b16_1332, hget, hlt1214, hg1215, hx1319, hx1373, hc92, hc666, hc690, hc745, hc794, hc873, hc970, hc1019, hc1351]
                                refine CallAtD.fn (ih (by first | exact ho | decide) hx1377) (by simp) ?_
                                obtain ⟨x1379, hx1380, hm1381⟩ := bind1_some hm1378
                                clear hm1378
                                try dsimp only at hm1381
                                simp [e0_1332, e1_1332, e3_1332, e6_1332, e8_1332, e15_1332, e16_1332, e176_1332, e177_1332, e198_1332, g6e_1332, b6_1332, g8e_1332, b8_1332, g16e_1332, b16_1332, hget, hlt1214, hg1215, hx1319, hx1373, hc92, hc666, hc690, hc745, hc794, hc873, hc970, hc1019, hc1351]
                                refine CallAtD.fn (r_ref02_N T hx1380) (by simp) ?_
                                simp [e0_1332, e1_1332, e3_1332, e6_1332, e8_1332, e15_1332, e16_1332, e176_1332, e177_1332, e198_1332, g6e_1332, b6_1332, g8e_1332, b8_1332, g16e_1332, b16_1332, hget, hlt1214, hg1215, hx1319, hx1373, hc92, hc666, hc690, hc745, hc794, hc873, hc970, hc1019, hc1351]
                                refine hk1368 _ _ ?_
                                refine AWp.ret ?_
                                try simp only [thenQ_ret]
                                refine nr1310 _ _ ?_
                                try simp only [thenQ_ret]
                                refine nr1208 _ _ ?_
                                try simp only [thenQ_ret]
                                refine nr683 _ _ ?_
                                try simp only [thenQ_ret]
                                obtain rfl := Option.some.inj hm1381
                                rw [ctlK_ret] at hk1201
                                obtain rfl := Option.some.inj hk1201
                                rw [sumK_inr] at hmB1199
                                try dsimp only at hmB1199
                                simp only [Option.some.injEq, Prod.mk.injEq] at hmB1199
                                obtain ⟨rfl, rfl⟩ := hmB1199
                                simp [retQ, e0_1332, e1_1332, e3_1332, e6_1332, e8_1332, e15_1332, e16_1332, e176_1332, e177_1332, e198_1332, g6e_1332, b6_1332, g8e_1332, b8_1332, g16e_1332, b16_1332, hget, hlt1214, hg1215, hx1319, hx1373, hc92, hc666, hc690, hc745, hc794, hc873, hc970, hc1019, hc1351]
                              · clear hm1337
                                simp [e0_1332, e1_1332, e3_1332, e6_1332, e8_1332, e15_1332, e16_1332, e176_1332, e177_1332, e198_1332, g6e_1332, b6_1332, g8e_1332, b8_1332, g16e_1332, b16_1332, hget, hlt1214, hg1215, hx1319, hc92, hc666, hc690, hc745, hc794, hc873, hc970, hc1019, hc1351]
                                refine gb1350 _ _ ?_
                                refine AWp.skip ?_
                                try simp only [thenQ_normal]
                                refine nn1307 _ _ ?_
                                try simp only [thenQ_normal]
                                refine hk1305 _ _ ?_
                                refine AWp.region [] (by decide +kernel) ?_
                                simp [e0_1332, e1_1332, e3_1332, e6_1332, e8_1332, e15_1332, e16_1332, e176_1332, e177_1332, e198_1332, g6e_1332, b6_1332, g8e_1332, b8_1332, g16e_1332, b16_1332, hget, hlt1214, hg1215, hx1319, hc92, hc666, hc690, hc745, hc794, hc873, hc970, hc1019, hc1351]
                                obtain rfl := Option.some.inj hm1353
                                rw [ctlK_next] at hk1201
                                refine hK1209 _ _ n1203 (Nat.lt_succ_self _) ⟨(i1025 + 1), (iadd .i64 j1024 1), g6_1332, g8_1332, ?_, ?_, ?_, ?_, ?_, ?_, ?_, ?_, ?_, ?_, ?_, ?_, (iadd_idxJ hj1211 (by omega) hok1213), (by omega), hk1201⟩ <;> first | rfl | simp [e0_1332, e1_1332, e3_1332, e6_1332, e8_1332, e15_1332, e16_1332, e176_1332, e177_1332, e198_1332, g6e_1332, b6_1332, g8e_1332, b8_1332, g16e_1332, b16_1332, hget, hlt1214, hg1215, hx1319, hc92, hc666, hc690, hc745, hc794, hc873, hc970, hc1019, hc1351]
                      · clear hm972
                        simp [e0_74, e1_74, e3_74, e6_74, e8_74, e9_74, e27_74, g6e_74, b6_74, g8e_74, b8_74, hget, hc92, hc666, hc690, hc745, hc794, hc873, hc970, hc1019]
                        refine gb1018 _ _ ?_
                        refine AWp.skip ?_
                        try simp only [thenQ_normal]
                        refine nn680 _ _ ?_
                        try simp only [thenQ_normal]
                        refine hk653 _ _ ⟨d676, g6_74, g8_74, ?_, ?_, ?_, ?_, ?_, ?_, ?_, ?_, ?_, ?_, hm1021⟩ <;> first | rfl | simp [e0_74, e1_74, e3_74, e6_74, e8_74, e9_74, e27_74, g6e_74, b6_74, g8e_74, b8_74, hget, hc92, hc666, hc690, hc745, hc794, hc873, hc970, hc1019]
          · clear hm658
            simp [e0_74, e1_74, e3_74, e6_74, e8_74, e9_74, e27_74, g6e_74, b6_74, g8e_74, b8_74, hget, hc92, hc666]
            refine gb665 _ _ ?_
            refine AWp.skip ?_
            try simp only [thenQ_normal]
            refine hk653 _ _ ⟨v76, g6_74, g8_74, ?_, ?_, ?_, ?_, ?_, ?_, ?_, ?_, ?_, ?_, hm668⟩ <;> first | rfl | simp [e0_74, e1_74, e3_74, e6_74, e8_74, e9_74, e27_74, g6e_74, b6_74, g8e_74, b8_74, hget, hc92, hc666]
        · clear hm658
          rintro fr654 h654 ⟨v655, g6_654, g8_654, rfl, e0_654, e1_654, e3_654, e6_654, e8_654, g6e_654, b6_654, g8e_654, b8_654, hm659⟩
          subst hj657
          refine AWp.seqK fun K1917 hk1918 => ?_
          refine AWp.seqK fun K1919 hk1920 => ?_
          refine AWp.region [] (by decide +kernel) ?_
          simp [e0_654, e1_654, e3_654, e6_654, e8_654, g6e_654, b6_654, g8e_654, b8_654, hget, hc92]
          refine hk1920 _ _ ?_
          refine AWp.blockK fun Q1921 nn1922 ne1923 nx1924 nr1925 => ?_
          refine AWp.seqK fun K1926 hk1927 => ?_
          refine AWp.region [] (by decide +kernel) ?_
          simp [e0_654, e1_654, e3_654, e6_654, e8_654, g6e_654, b6_654, g8e_654, b8_654, hget, hc92]
          refine hk1927 _ _ ?_
          refine AWp.condK rfl fun A1928 B1929 ga1930 gb1931 => ?_
          rcases ite_some hm659 with ⟨hc1932, hm1933⟩ | ⟨hc1932, hm1934⟩
          · clear hm659
            simp [e0_654, e1_654, e3_654, e6_654, e8_654, g6e_654, b6_654, g8e_654, b8_654, hget, hc92, hc1932]
            refine ga1930 _ _ ?_
            obtain ⟨j2066, hj2067, hm2068⟩ := joinB_some hm1933
            clear hm1933
            refine AWp.seqP (fun fr h => ∃ (v2065 : Smk_Deck) (g8_2064 : Nat), hset H o [AV.slice .frz (List.map (fun n => AV.sc (Value.int .i64 n)) v2065.l), AV.sc (.int .i64 v2065.atF)] = h ∧ fr.env 0 = AV.gptr o 0 ∧ fr.env 8 = AV.lptr 8 g8_2064 0 ∧ fr.gen 8 = g8_2064 ∧ fr.box 8 = some [AV.sc (.int .i64 0), AV.sc (.int .i64 0), AV.sc (.int .i64 0), AV.slice .full [], AV.slice .full []] ∧ j2066 v2065 = some (r0, rd)) (fun K2062 hk2063 => ?_) ?_
            · refine AWp.seqK fun K2070 hk2071 => ?_
              refine AWp.region [] (by decide +kernel) ?_
              simp [e0_654, e1_654, e3_654, e6_654, e8_654, g6e_654, b6_654, g8e_654, b8_654, hget, hc92, hc1932]
              refine hk2071 _ _ ?_
              refine AWp.condK rfl fun A2072 B2073 ga2074 gb2075 => ?_
              rcases ite_some hm2068 with ⟨hc2076, hm2077⟩ | ⟨hc2076, hm2078⟩
              · clear hm2068
                simp [e0_654, e1_654, e3_654, e6_654, e8_654, g6e_654, b6_654, g8e_654, b8_654, hget, hc92, hc1932, hc2076]
                refine ga2074 _ _ ?_
                refine AWp.seqK fun K2083 hk2084 => ?_
                refine AWp.region [] (by decide +kernel) ?_
                obtain ⟨x2085, d2086, hx2087, hm2088⟩ := bind2_some hm2077
                clear hm2077
                try dsimp only at hm2088
                simp [e0_654, e1_654, e3_654, e6_654, e8_654, g6e_654, b6_654, g8e_654, b8_654, hget, hc92, hc1932, hc2076]
                refine CallAt.fn (r_mk_Deck_Next T (by first | exact ho | decide) hx2087) ?_
                simp [e0_654, e1_654, e3_654, e6_654, e8_654, g6e_654, b6_654, g8e_654, b8_654, hget, hc92, hc1932, hc2076]
                refine hk2084 _ _ ?_
                refine AWp.blockK fun Q2089 nn2090 ne2091 nx2092 nr2093 => ?_
                refine AWp.seqK fun K2094 hk2095 => ?_
                refine AWp.region [] (by decide +kernel) ?_
                simp [e0_654, e1_654, e3_654, e6_654, e8_654, g6e_654, b6_654, g8e_654, b8_654, hget, hc92, hc1932, hc2076]
                refine hk2095 _ _ ?_
                refine AWp.condK rfl fun A2096 B2097 ga2098 gb2099 => ?_
                rcases ite_some hm2088 with ⟨hc2100, hm2101⟩ | ⟨hc2100, hm2102⟩
                · clear hm2088
                  simp [e0_654, e1_654, e3_654, e6_654, e8_654, g6e_654, b6_654, g8e_654, b8_654, hget, hc92, hc1932, hc2076, hc2100]
                  refine ga2098 _ _ ?_
                  refine AWp.seqK fun K2110 hk2111 => ?_
                  refine AWp.region [] (by decide +kernel) ?_
                  obtain ⟨x2112, d2113, hx2114, hm2115⟩ := bind2_some hm2101
                  clear hm2101
                  try dsimp only at hm2115
                  simp [e0_654, e1_654, e3_654, e6_654, e8_654, g6e_654, b6_654, g8e_654, b8_654, hget, hc92, hc1932, hc2076, hc2100]
                  refine CallAt.fn (ih (by first | exact ho | decide) hx2114) ?_
                  obtain ⟨x2116, hx2117, hm2118⟩ := bind1_some hm2115
                  clear hm2115
                  try dsimp only at hm2118
                  simp [e0_654, e1_654, e3_654, e6_654, e8_654, g6e_654, b6_654, g8e_654, b8_654, hget, hc92, hc1932, hc2076, hc2100]
                  refine CallAt.fn (r_ref02_N T hx2117) ?_
                  simp [e0_654, e1_654, e3_654, e6_654, e8_654, g6e_654, b6_654, g8e_654, b8_654, hget, hc92, hc1932, hc2076, hc2100]
                  refine hk2111 _ _ ?_
                  refine AWp.ret ?_
                  try simp only [thenQ_ret]
                  refine nr2093 _ _ ?_
                  try simp only [thenQ_ret]
                  refine nr1925 _ _ ?_
                  try simp only [thenQ_ret]
                  simp only [Option.some.injEq, Prod.mk.injEq] at hm2118
                  obtain ⟨rfl, rfl⟩ := hm2118
                  simp [retQ, e0_654, e1_654, e3_654, e6_654, e8_654, g6e_654, b6_654, g8e_654, b8_654, hget, hc92, hc1932, hc2076, hc2100]
                · clear hm2088
                  simp [e0_654, e1_654, e3_654, e6_654, e8_654, g6e_654, b6_654, g8e_654, b8_654, hget, hc92, hc1932, hc2076, hc2100]
                  refine gb2099 _ _ ?_
                  refine AWp.seqK fun K2119 hk2120 => ?_
                  refine AWp.region [] (by decide +kernel) ?_
                  simp [e0_654, e1_654, e3_654, e6_654, e8_654, g6e_654, b6_654, g8e_654, b8_654, hget, hc92, hc1932, hc2076, hc2100]
                  refine hk2120 _ _ ?_
                  refine AWp.condK rfl fun A2121 B2122 ga2123 gb2124 => ?_
                  rcases ite_some hm2102 with ⟨hc2125, hm2126⟩ | ⟨hc2125, hm2127⟩
                  · clear hm2102
                    simp [e0_654, e1_654, e3_654, e6_654, e8_654, g6e_654, b6_654, g8e_654, b8_654, hget, hc92, hc1932, hc2076, hc2100, hc2125]
                    refine ga2123 _ _ ?_
                    refine AWp.seqK fun K2142 hk2143 => ?_
                    refine AWp.regionD [] false mixed (by decide +kernel) (by decide +kernel) ?_
                    obtain ⟨x2144, hx2145, hm2146⟩ := bind1_some hm2126
                    clear hm2126
                    try dsimp only at hm2146
                    simp [e0_654, e1_654, e3_654, e6_654, e8_654, g6e_654, b6_654, g8e_654, b8_654, hget, hc92, hc1932, hc2076, hc2100, hc2125]
                    refine CallAtD.fn (r_ref05_Plus T hx2145) (by simp) ?_
                    obtain ⟨x2147, d2148, hx2149, hm2150⟩ := bind2_some hm2146
                    clear hm2146
                    try dsimp only at hm2150
                    simp [e0_654, e1_654, e3_654, e6_654, e8_654, g6e_654, b6_654, g8e_654, b8_654, hget, hc92, hc1932, hc2076, hc2100, hc2125]
                    refine CallAtD.fn (ih (by first | exact ho | decide) hx2149) (by simp) ?_
                    obtain ⟨x2151, d2152, hx2153, hm2154⟩ := bind2_some hm2150
                    clear hm2150
                    try dsimp only at hm2154
                    simp [e0_654, e1_654, e3_654, e6_654, e8_654, g6e_654, b6_654, g8e_654, b8_654, hget, hc92, hc1932, hc2076, hc2100, hc2125]
                    refine CallAtD.fn (ih (by first | exact ho | decide) hx2153) (by simp) ?_
                    obtain ⟨x2155, hx2156, hm2157⟩ := bind1_some hm2154
                    clear hm2154
                    try dsimp only at hm2157
                    simp [e0_654, e1_654, e3_654, e6_654, e8_654, g6e_654, b6_654, g8e_654, b8_654, hget, hc92, hc1932, hc2076, hc2100, hc2125]
                    refine CallAtD.fn (r_mk_App T hx2156) (by simp) ?_
                    simp [e0_654, e1_654, e3_654, e6_654, e8_654, g6e_654, b6_654, g8e_654, b8_654, hget, hc92, hc1932, hc2076, hc2100, hc2125]
                    refine hk2143 _ _ ?_
                    refine AWp.ret ?_
                    try simp only [thenQ_ret]
                    refine nr2093 _ _ ?_
                    try simp only [thenQ_ret]
                    refine nr1925 _ _ ?_
                    try simp only [thenQ_ret]
                    simp only [Option.some.injEq, Prod.mk.injEq] at hm2157
                    obtain ⟨rfl, rfl⟩ := hm2157
                    simp [retQ, e0_654, e1_654, e3_654, e6_654, e8_654, g6e_654, b6_654, g8e_654, b8_654, hget, hc92, hc1932, hc2076, hc2100, hc2125]
                  · clear hm2102
                    simp [e0_654, e1_654, e3_654, e6_654, e8_654, g6e_654, b6_654, g8e_654, b8_654, hget, hc92, hc1932, hc2076, hc2100, hc2125]
                    refine gb2124 _ _ ?_
                    refine AWp.seqK fun K2158 hk2159 => ?_
                    refine AWp.region [] (by decide +kernel) ?_
                    simp [e0_654, e1_654, e3_654, e6_654, e8_654, g6e_654, b6_654, g8e_654, b8_654, hget, hc92, hc1932, hc2076, hc2100, hc2125]
                    refine hk2159 _ _ ?_
                    refine AWp.condK rfl fun A2160 B2161 ga2162 gb2163 => ?_
                    rcases ite_some hm2127 with ⟨hc2164, hm2165⟩ | ⟨hc2164, hm2166⟩
                    · clear hm2127
                      simp [e0_654, e1_654, e3_654, e6_654, e8_654, g6e_654, b6_654, g8e_654, b8_654, hget, hc92, hc1932, hc2076, hc2100, hc2125, hc2164]
                      refine ga2162 _ _ ?_
                      refine AWp.seqK fun K2181 hk2182 => ?_
                      refine AWp.regionD [] false mixed (by decide +kernel) (by decide +kernel) ?_
                      obtain ⟨x2183, hx2184, hm2185⟩ := bind1_some hm2165
                      clear hm2165
                      try dsimp only at hm2185
                      simp [e0_654, e1_654, e3_654, e6_654, e8_654, g6e_654, b6_654, g8e_654, b8_654, hget, hc92, hc1932, hc2076, hc2100, hc2125, hc2164]
                      refine CallAtD.fn (r_ref05_Sub T hx2184) (by simp) ?_
                      obtain ⟨x2186, d2187, hx2188, hm2189⟩ := bind2_some hm2185
                      clear hm2185
                      try dsimp only at hm2189
                      simp [e0_654, e1_654, e3_654, e6_654, e8_654, g6e_654, b6_654, g8e_654, b8_654, hget, hc92, hc1932, hc2076, hc2100, hc2125, hc2164]
                      refine CallAtD.fn (ih (by first | exact ho | decide) hx2188) (by simp) ?_
                      obtain ⟨x2190, d2191, hx2192, hm2193⟩ := bind2_some hm2189
                      clear hm2189
                      try dsimp only at hm2193
                      simp [e0_654, e1_654, e3_654, e6_654, e8_654, g6e_654, b6_654, g8e_654, b8_654, hget, hc92, hc1932, hc2076, hc2100, hc2125, hc2164]
                      refine CallAtD.fn (ih (by first | exact ho | decide) hx2192) (by simp) ?_
                      obtain ⟨x2194, hx2195, hm2196⟩ := bind1_some hm2193
                      clear hm2193
                      try dsimp only at hm2196
                      simp [e0_654, e1_654, e3_654, e6_654, e8_654, g6e_654, b6_654, g8e_654, b8_654, hget, hc92, hc1932, hc2076, hc2100, hc2125, hc2164]
                      refine CallAtD.fn (r_mk_App T hx2195) (by simp) ?_
                      simp [e0_654, e1_654, e3_654, e6_654, e8_654, g6e_654, b6_654, g8e_654, b8_654, hget, hc92, hc1932, hc2076, hc2100, hc2125, hc2164]
                      refine hk2182 _ _ ?_
                      refine AWp.ret ?_
                      try simp only [thenQ_ret]
                      refine nr2093 _ _ ?_
                      try simp only [thenQ_ret]
                      refine nr1925 _ _ ?_
                      try simp only [thenQ_ret]
                      simp only [Option.some.injEq, Prod.mk.injEq] at hm2196
                      obtain ⟨rfl, rfl⟩ := hm2196
                      simp [retQ, e0_654, e1_654, e3_654, e6_654, e8_654, g6e_654, b6_654, g8e_654, b8_654, hget, hc92, hc1932, hc2076, hc2100, hc2125, hc2164]
                    · clear hm2127
                      simp [e0_654, e1_654, e3_654, e6_654, e8_654, g6e_654, b6_654, g8e_654, b8_654, hget, hc92, hc1932, hc2076, hc2100, hc2125, hc2164]
                      refine gb2163 _ _ ?_
                      refine AWp.skip ?_
                      try simp only [thenQ_normal]
                      refine nn2090 _ _ ?_
                      try simp only [thenQ_normal]
                      refine hk2063 _ _ ⟨d2086, g8_654, ?_, ?_, ?_, ?_, ?_, hm2166⟩ <;> first | rfl | simp [e0_654, e1_654, e3_654, e6_654, e8_654, g6e_654, b6_654, g8e_654, b8_654, hget, hc92, hc1932, hc2076, hc2100, hc2125, hc2164]
              · clear hm2068
                simp [e0_654, e1_654, e3_654, e6_654, e8_654, g6e_654, b6_654, g8e_654, b8_654, hget, hc92, hc1932, hc2076]
                refine gb2075 _ _ ?_
                refine AWp.skip ?_
                try simp only [thenQ_normal]
                refine hk2063 _ _ ⟨v655, g8_654, ?_, ?_, ?_, ?_, ?_, hm2078⟩ <;> first | rfl | simp [e0_654, e1_654, e3_654, e6_654, e8_654, g6e_654, b6_654, g8e_654, b8_654, hget, hc92, hc1932, hc2076]
            · clear hm2068
              rintro fr2064 h2064 ⟨v2065, g8_2064, rfl, e0_2064, e8_2064, g8e_2064, b8_2064, hm2069⟩
              subst hj2067
              refine AWp.seqK fun K2204 hk2205 => ?_
              refine AWp.region [] (by decide +kernel) ?_
              obtain ⟨x2206, d2207, hx2208, hm2209⟩ := bind2_some hm2069
              clear hm2069
              try dsimp only at hm2209
              simp [e0_2064, e8_2064, g8e_2064, b8_2064, hget, hc92, hc1932]
              refine CallAt.fn (r_mk_Deck_Next T (by first | exact ho | decide) hx2208) ?_
              obtain ⟨x2210, hx2211, hm2212⟩ := bind1_some hm2209
              clear hm2209
              try dsimp only at hm2212
              simp [e0_2064, e8_2064, g8e_2064, b8_2064, hget, hc92, hc1932]
              refine CallAt.fn (r_mk_Num T hx2211) ?_
              simp [e0_2064, e8_2064, g8e_2064, b8_2064, hget, hc92, hc1932]
              refine hk2205 _ _ ?_
              refine AWp.ret ?_
              try simp only [thenQ_ret]
              refine nr1925 _ _ ?_
              try simp only [thenQ_ret]
              simp only [Option.some.injEq, Prod.mk.injEq] at hm2212
              obtain ⟨rfl, rfl⟩ := hm2212
              simp [retQ, e0_2064, e8_2064, g8e_2064, b8_2064, hget, hc92, hc1932]
          · clear hm659
            simp [e0_654, e1_654, e3_654, e6_654, e8_654, g6e_654, b6_654, g8e_654, b8_654, hget, hc92, hc1932]
            refine gb1931 _ _ ?_
            refine AWp.seqK fun K2213 hk2214 => ?_
            refine AWp.region [] (by decide +kernel) ?_
            simp [e0_654, e1_654, e3_654, e6_654, e8_654, g6e_654, b6_654, g8e_654, b8_654, hget, hc92, hc1932]
            refine hk2214 _ _ ?_
            refine AWp.condK rfl fun A2215 B2216 ga2217 gb2218 => ?_
            rcases ite_some hm1934 with ⟨hc2219, hm2220⟩ | ⟨hc2219, hm2221⟩
            · clear hm1934
              simp [e0_654, e1_654, e3_654, e6_654, e8_654, g6e_654, b6_654, g8e_654, b8_654, hget, hc92, hc1932, hc2219]
              refine ga2217 _ _ ?_
              refine AWp.seqK fun K2282 hk2283 => ?_
              obtain ⟨j2296, hj2297, hm2298⟩ := joinB_some hm2220
              clear hm2220
              refine AWp.seqP (fun fr h => ∃ (v2294 : Bool) (v2295 : Smk_Deck) (g6_2293 : Nat) (g8_2293 : Nat), hset H o [AV.slice .frz (List.map (fun n => AV.sc (Value.int .i64 n)) v2295.l), AV.sc (.int .i64 v2295.atF)] = h ∧ fr.env 0 = AV.gptr o 0 ∧ fr.env 1 = AV.slice .frz (List.map Ty.av a1) ∧ fr.env 3 = AV.sc (.int .i64 a3) ∧ fr.env 6 = AV.lptr 6 g6_2293 0 ∧ fr.env 8 = AV.lptr 8 g8_2293 0 ∧ fr.env 276 = AV.sc (.bool v2294) ∧ fr.gen 6 = g6_2293 ∧ fr.box 6 = some [AV.sc (.int .i64 a2.kind), AV.slice .frz (List.map Ty.av a2.args)] ∧ fr.gen 8 = g8_2293 ∧ fr.box 8 = some [AV.sc (.int .i64 0), AV.sc (.int .i64 0), AV.sc (.int .i64 0), AV.slice .full [], AV.slice .full []] ∧ j2296 v2294 v2295 = some (r0, rd)) (fun K2291 hk2292 => ?_) ?_
              · refine AWp.region [] (by decide +kernel) ?_
                rcases ite_some hm2298 with ⟨hc2300, hm2301⟩ | ⟨hc2300, hm2302⟩
                · clear hm2298
                  obtain ⟨x2303, d2304, hx2305, hm2306⟩ := bind2_some hm2301
                  clear hm2301
                  try dsimp only at hm2306
                  simp [e0_654, e1_654, e3_654, e6_654, e8_654, g6e_654, b6_654, g8e_654, b8_654, hget, hc92, hc1932, hc2219, hc2300]
                  refine CallAt.fn (r_mk_Deck_Next T (by first | exact ho | decide) hx2305) ?_
                  simp [e0_654, e1_654, e3_654, e6_654, e8_654, g6e_654, b6_654, g8e_654, b8_654, hget, hc92, hc1932, hc2219, hc2300]
                  refine hk2292 _ _ ⟨(ieq x2303 0), d2304, g6_654, g8_654, ?_, ?_, ?_, ?_, ?_, ?_, ?_, ?_, ?_, ?_, ?_, hm2306⟩ <;> first | rfl | simp [e0_654, e1_654, e3_654, e6_654, e8_654, g6e_654, b6_654, g8e_654, b8_654, hget, hc92, hc1932, hc2219, hc2300]
                · clear hm2298
                  simp [e0_654, e1_654, e3_654, e6_654, e8_654, g6e_654, b6_654, g8e_654, b8_654, hget, hc92, hc1932, hc2219, hc2300]
                  refine hk2292 _ _ ⟨false, v655, g6_654, g8_654, ?_, ?_, ?_, ?_, ?_, ?_, ?_, ?_, ?_, ?_, ?_, hm2302⟩ <;> first | rfl | simp [e0_654, e1_654, e3_654, e6_654, e8_654, g6e_654, b6_654, g8e_654, b8_654, hget, hc92, hc1932, hc2219, hc2300]
              · clear hm2298
                rintro fr2293 h2293 ⟨v2294, v2295, g6_2293, g8_2293, rfl, e0_2293, e1_2293, e3_2293, e6_2293, e8_2293, e276_2293, g6e_2293, b6_2293, g8e_2293, b8_2293, hm2299⟩
                subst hj2297
                refine AWp.condK rfl fun A2307 B2308 ga2309 gb2310 => ?_
                rcases ite_some hm2299 with ⟨hc2311, hm2312⟩ | ⟨hc2311, hm2313⟩
                · clear hm2299
                  simp [e0_2293, e1_2293, e3_2293, e6_2293, e8_2293, e276_2293, g6e_2293, b6_2293, g8e_2293, b8_2293, hget, hc92, hc1932, hc2219, hc2311]
                  refine ga2309 _ _ ?_
                  refine AWp.seqK fun K2328 hk2329 => ?_
                  refine AWp.regionD [] false mixed (by decide +kernel) (by decide +kernel) ?_
                  obtain ⟨x2330, hx2331, hm2332⟩ := bind1_some hm2312
                  clear hm2312
                  try dsimp only at hm2332
                  simp [e0_2293, e1_2293, e3_2293, e6_2293, e8_2293, e276_2293, g6e_2293, b6_2293, g8e_2293, b8_2293, hget, hc92, hc1932, hc2219, hc2311]
                  refine CallAtD.fn (r_ref01_Nat T hx2331) (by simp) ?_
                  obtain ⟨x2333, d2334, hx2335, hm2336⟩ := bind2_some hm2332
                  clear hm2332
                  try dsimp only at hm2336
                  simp [e0_2293, e1_2293, e3_2293, e6_2293, e8_2293, e276_2293, g6e_2293, b6_2293, g8e_2293, b8_2293, hget, hc92, hc1932, hc2219, hc2311]
                  refine CallAtD.fn (ih (by first | exact ho | decide) hx2335) (by simp) ?_
                  obtain ⟨x2337, d2338, hx2339, hm2340⟩ := bind2_some hm2336
                  clear hm2336
                  try dsimp only at hm2340
                  simp [e0_2293, e1_2293, e3_2293, e6_2293, e8_2293, e276_2293, g6e_2293, b6_2293, g8e_2293, b8_2293, hget, hc92, hc1932, hc2219, hc2311]
                  refine CallAtD.fn (ih (by first | exact ho | decide) hx2339) (by simp) ?_
                  obtain ⟨x2341, hx2342, hm2343⟩ := bind1_some hm2340
                  clear hm2340
                  try dsimp only at hm2343
                  simp [e0_2293, e1_2293, e3_2293, e6_2293, e8_2293, e276_2293, g6e_2293, b6_2293, g8e_2293, b8_2293, hget, hc92, hc1932, hc2219, hc2311]
                  refine CallAtD.fn (r_ref02_N T hx2342) (by simp) ?_
                  simp [e0_2293, e1_2293, e3_2293, e6_2293, e8_2293, e276_2293, g6e_2293, b6_2293, g8e_2293, b8_2293, hget, hc92, hc1932, hc2219, hc2311]
                  refine hk2329 _ _ ?_
                  refine AWp.ret ?_
                  try simp only [thenQ_ret]
                  refine nr1925 _ _ ?_
                  try simp only [thenQ_ret]
                  simp only [Option.some.injEq, Prod.mk.injEq] at hm2343
                  obtain ⟨rfl, rfl⟩ := hm2343
                  simp [retQ, e0_2293, e1_2293, e3_2293, e6_2293, e8_2293, e276_2293, g6e_2293, b6_2293, g8e_2293, b8_2293, hget, hc92, hc1932, hc2219, hc2311]
                · clear hm2299
                  simp [e0_2293, e1_2293, e3_2293, e6_2293, e8_2293, e276_2293, g6e_2293, b6_2293, g8e_2293, b8_2293, hget, hc92, hc1932, hc2219, hc2311]
                  refine gb2310 _ _ ?_
                  refine AWp.skip ?_
                  try simp only [thenQ_normal]
                  refine hk2283 _ _ ?_
                  refine AWp.seqK fun K2347 hk2348 => ?_
                  refine AWp.region [] (by decide +kernel) ?_
                  obtain ⟨x2349, hx2350, hm2351⟩ := bind1_some hm2313
                  clear hm2313
                  try dsimp only at hm2351
                  simp [e0_2293, e1_2293, e3_2293, e6_2293, e8_2293, e276_2293, g6e_2293, b6_2293, g8e_2293, b8_2293, hget, hc92, hc1932, hc2219, hc2311]
                  refine CallAt.fn (r_ref02_N T hx2350) ?_
                  simp [e0_2293, e1_2293, e3_2293, e6_2293, e8_2293, e276_2293, g6e_2293, b6_2293, g8e_2293, b8_2293, hget, hc92, hc1932, hc2219, hc2311]
                  refine hk2348 _ _ ?_
                  refine AWp.ret ?_
                  try simp only [thenQ_ret]
                  refine nr1925 _ _ ?_
                  try simp only [thenQ_ret]
                  simp only [Option.some.injEq, Prod.mk.injEq] at hm2351
                  obtain ⟨rfl, rfl⟩ := hm2351
                  simp [retQ, e0_2293, e1_2293, e3_2293, e6_2293, e8_2293, e276_2293, g6e_2293, b6_2293, g8e_2293, b8_2293, hget, hc92, hc1932, hc2219, hc2311]
            · clear hm1934
              simp [e0_654, e1_654, e3_654, e6_654, e8_654, g6e_654, b6_654, g8e_654, b8_654, hget, hc92, hc1932, hc2219]
              refine gb2218 _ _ ?_
              refine AWp.seqK fun K2352 hk2353 => ?_
              refine AWp.region [] (by decide +kernel) ?_
              simp [e0_654, e1_654, e3_654, e6_654, e8_654, g6e_654, b6_654, g8e_654, b8_654, hget, hc92, hc1932, hc2219]
              refine hk2353 _ _ ?_
              refine AWp.condK rfl fun A2354 B2355 ga2356 gb2357 => ?_
              rcases ite_some hm2221 with ⟨hc2358, hm2359⟩ | ⟨hc2358, hm2360⟩
              · clear hm2221
                simp [e0_654, e1_654, e3_654, e6_654, e8_654, g6e_654, b6_654, g8e_654, b8_654, hget, hc92, hc1932, hc2219, hc2358]
                refine ga2356 _ _ ?_
                refine AWp.seqK fun K2378 hk2379 => ?_
                refine AWp.regionD [] false mixed (by decide +kernel) (by decide +kernel) ?_
                obtain ⟨x2380, hx2381, hm2382⟩ := bind1_some hm2359
                clear hm2359
                try dsimp only at hm2382
                obtain ⟨x2383, d2384, hx2385, hm2386⟩ := bind2_some hm2382
                clear hm2382
                try dsimp only at hm2386
                simp [e0_654, e1_654, e3_654, e6_654, e8_654, g6e_654, b6_654, g8e_654, b8_654, hget, hx2381, hc92, hc1932, hc2219, hc2358]
                refine CallAtD.fn (ih (by first | exact ho | decide) hx2385) (by simp) ?_
                obtain ⟨x2387, hx2388, hm2389⟩ := bind1_some hm2386
                clear hm2386
                try dsimp only at hm2389
                obtain ⟨x2390, d2391, hx2392, hm2393⟩ := bind2_some hm2389
                clear hm2389
                try dsimp only at hm2393
                simp [e0_654, e1_654, e3_654, e6_654, e8_654, g6e_654, b6_654, g8e_654, b8_654, hget, hx2381, hx2388, hc92, hc1932, hc2219, hc2358]
                refine CallAtD.fn (ih (by first | exact ho | decide) hx2392) (by simp) ?_
                obtain ⟨x2394, hx2395, hm2396⟩ := bind1_some hm2393
                clear hm2393
                try dsimp only at hm2396
                simp [e0_654, e1_654, e3_654, e6_654, e8_654, g6e_654, b6_654, g8e_654, b8_654, hget, hx2381, hx2388, hc92, hc1932, hc2219, hc2358]
                refine CallAtD.fn (r_ref02_N T hx2395) (by simp) ?_
                simp [e0_654, e1_654, e3_654, e6_654, e8_654, g6e_654, b6_654, g8e_654, b8_654, hget, hx2381, hx2388, hc92, hc1932, hc2219, hc2358]
                refine hk2379 _ _ ?_
                refine AWp.ret ?_
                try simp only [thenQ_ret]
                refine nr1925 _ _ ?_
                try simp only [thenQ_ret]
                simp only [Option.some.injEq, Prod.mk.injEq] at hm2396
                obtain ⟨rfl, rfl⟩ := hm2396
                simp [retQ, e0_654, e1_654, e3_654, e6_654, e8_654, g6e_654, b6_654, g8e_654, b8_654, hget, hx2381, hx2388, hc92, hc1932, hc2219, hc2358]
              · clear hm2221
                simp [e0_654, e1_654, e3_654, e6_654, e8_654, g6e_654, b6_654, g8e_654, b8_654, hget, hc92, hc1932, hc2219, hc2358]
                refine gb2357 _ _ ?_
                refine AWp.seqK fun K2397 hk2398 => ?_
                refine AWp.region [] (by decide +kernel) ?_
                simp [e0_654, e1_654, e3_654, e6_654, e8_654, g6e_654, b6_654, g8e_654, b8_654, hget, hc92, hc1932, hc2219, hc2358]
                refine hk2398 _ _ ?_
                refine AWp.condK rfl fun A2399 B2400 ga2401 gb2402 => ?_
                rcases ite_some hm2360 with ⟨hc2403, hm2404⟩ | ⟨hc2403, hm2405⟩
                · clear hm2360
                  simp [e0_654, e1_654, e3_654, e6_654, e8_654, g6e_654, b6_654, g8e_654, b8_654, hget, hc92, hc1932, hc2219, hc2358, hc2403]
                  refine ga2401 _ _ ?_
                  refine AWp.seqK fun K2422 hk2423 => ?_
                  refine AWp.regionD [] false mixed (by decide +kernel) (by decide +kernel) ?_
                  obtain ⟨x2424, hx2425, hm2426⟩ := bind1_some hm2404
                  clear hm2404
                  try dsimp only at hm2426
                  obtain ⟨x2427, hx2428, hm2429⟩ := bind1_some hm2426
                  clear hm2426
                  try dsimp only at hm2429
                  simp [e0_654, e1_654, e3_654, e6_654, e8_654, g6e_654, b6_654, g8e_654, b8_654, hget, hx2425, hc92, hc1932, hc2219, hc2358, hc2403]
                  refine CallAtD.fn (r_mk_longer T hx2428) (by simp) ?_
                  obtain ⟨x2430, hx2431, hm2432⟩ := bind1_some hm2429
                  clear hm2429
                  try dsimp only at hm2432
                  obtain ⟨x2433, d2434, hx2435, hm2436⟩ := bind2_some hm2432
                  clear hm2432
                  try dsimp only at hm2436
                  simp [e0_654, e1_654, e3_654, e6_654, e8_654, g6e_654, b6_654, g8e_654, b8_654, hget, hx2425, hx2431, hc92, hc1932, hc2219, hc2358, hc2403]
                  refine CallAtD.fn (ih (by first | exact ho | decide) hx2435) (by simp) ?_
                  obtain ⟨x2437, hx2438, hm2439⟩ := bind1_some hm2436
                  clear hm2436
                  try dsimp only at hm2439
                  simp [e0_654, e1_654, e3_654, e6_654, e8_654, g6e_654, b6_654, g8e_654, b8_654, hget, hx2425, hx2431, hc92, hc1932, hc2219, hc2358, hc2403]
                  refine CallAtD.fn (r_ref02_T T hx2438) (by simp) ?_
                  simp [e0_654, e1_654, e3_654, e6_654, e8_654, g6e_654, b6_654, g8e_654, b8_654, hget, hx2425, hx2431, hc92, hc1932, hc2219, hc2358, hc2403]
                  refine hk2423 _ _ ?_
                  refine AWp.ret ?_
                  try simp only [thenQ_ret]
                  refine nr1925 _ _ ?_
                  try simp only [thenQ_ret]
                  simp only [Option.some.injEq, Prod.mk.injEq] at hm2439
                  obtain ⟨rfl, rfl⟩ := hm2439
                  simp [retQ, e0_654, e1_654, e3_654, e6_654, e8_654, g6e_654, b6_654, g8e_654, b8_654, hget, hx2425, hx2431, hc92, hc1932, hc2219, hc2358, hc2403]
                · clear hm2360
                  simp [e0_654, e1_654, e3_654, e6_654, e8_654, g6e_654, b6_654, g8e_654, b8_654, hget, hc92, hc1932, hc2219, hc2358, hc2403]
                  refine gb2402 _ _ ?_
                  refine AWp.skip ?_
                  try simp only [thenQ_normal]
                  refine nn1922 _ _ ?_
                  try simp only [thenQ_normal]
                  refine hk1918 _ _ ?_
                  refine AWp.seqK fun K2443 hk2444 => ?_
                  refine AWp.region [] (by decide +kernel) ?_
                  obtain ⟨x2445, hx2446, hm2447⟩ := bind1_some hm2405
                  clear hm2405
                  try dsimp only at hm2447
                  simp [e0_654, e1_654, e3_654, e6_654, e8_654, g6e_654, b6_654, g8e_654, b8_654, hget, hc92, hc1932, hc2219, hc2358, hc2403]
                  refine CallAt.fn (r_ref02_N T hx2446) ?_
                  simp [e0_654, e1_654, e3_654, e6_654, e8_654, g6e_654, b6_654, g8e_654, b8_654, hget, hc92, hc1932, hc2219, hc2358, hc2403]
                  refine hk2444 _ _ ?_
                  refine AWp.ret ?_
                  try simp only [thenQ_ret]
                  simp only [Option.some.injEq, Prod.mk.injEq] at hm2447
                  obtain ⟨rfl, rfl⟩ := hm2447
                  simp [retQ, e0_654, e1_654, e3_654, e6_654, e8_654, g6e_654, b6_654, g8e_654, b8_654, hget, hc92, hc1932, hc2219, hc2358, hc2403]
theorem r_mk_Term (T : Tabs) {H : Heap} {a0 : Smk_Deck} {a1 : (List Ty)} {a2 : Ty} {a3 : Int} {r0 : Tm} {rd : Smk_Deck} {o : Nat} (ho : o < List.length H) {n : Nat} (hm : mk_Term n a0 a1 a2 a3 = some (r0, rd)) : ACall Tryd.prog T 30 [AV.gptr o 0, AV.slice .frz (List.map Ty.av a1), Ty.av a2, AV.sc (.int .i64 a3)] (hset H o [AV.slice .frz (List.map (fun n => AV.sc (Value.int .i64 n)) a0.l), AV.sc (.int .i64 a0.atF)]) (Tm.av r0) (hset H o [AV.slice .frz (List.map (fun n => AV.sc (Value.int .i64 n)) rd.l), AV.sc (.int .i64 rd.atF)]) := (rg_mk_Term T n) ho hm

theorem enters15 : entersB Tryd.prog 15 = true := by kernel_rfl
set_option maxRecDepth 20000 in
set_option maxHeartbeats 4000000 in
theorem rg_mk_Formula (T : Tabs) : ∀ (n : Nat), (∀ {H : Heap} {a0 : Smk_Deck} {a1 : (List Ty)} {a2 : Int} {r0 : Fm} {rd : Smk_Deck} {o : Nat} (ho : o < List.length H) (hm : mk_Formula n a0 a1 a2 = some (r0, rd)), ACall Tryd.prog T 15 [AV.gptr o 0, AV.slice .frz (List.map Ty.av a1), AV.sc (.int .i64 a2)] (hset H o [AV.slice .frz (List.map (fun n => AV.sc (Value.int .i64 n)) a0.l), AV.sc (.int .i64 a0.atF)]) (Fm.av r0) (hset H o [AV.slice .frz (List.map (fun n => AV.sc (Value.int .i64 n)) rd.l), AV.sc (.int .i64 rd.atF)])) := by
  intro n
  induction n with
  | zero =>
    skip
    all_goals
      intros
      rename_i hm
      cases hm
  | succ n ih =>
    intro H a0 a1 a2 r0 rd o ho hm
    rw [mk_Formula] at hm
    have hget : ∀ c, (hset H o c)[o]? = some c := fun c => by simp [hset, ho]
    refine ACallP.intro (fn := Tryd.f15) Tryd.func15 rfl enters15 (Nat.le_of_ble_eq_true rfl) ?_
    refine AWp.seqK fun K1 hk2 => ?_
    refine AWp.region [] (by decide +kernel) ?_
    simp [hget]
    refine hk2 _ _ ?_
    obtain ⟨j266, hj267, hm268⟩ := joinB_some hm
    clear hm
    refine AWp.seqP (fun fr h => ∃ (v265 : Smk_Deck) (g6_264 : Nat), hset H o [AV.slice .frz (List.map (fun n => AV.sc (Value.int .i64 n)) v265.l), AV.sc (.int .i64 v265.atF)] = h ∧ fr.env 0 = AV.gptr o 0 ∧ fr.env 1 = AV.slice .frz (List.map Ty.av a1) ∧ fr.env 6 = AV.lptr 6 g6_264 0 ∧ fr.gen 6 = g6_264 ∧ fr.box 6 = some [AV.sc (.int .i64 0), AV.sc (.int .i64 0), AV.slice .full [], AV.slice .full [], AV.slice .full []] ∧ j266 v265 = some (r0, rd)) (fun K262 hk263 => ?_) ?_
    · refine AWp.seqK fun K270 hk271 => ?_
      refine AWp.region [] (by decide +kernel) ?_
      simp [hget]
      refine hk271 _ _ ?_
      refine AWp.condK rfl fun A272 B273 ga274 gb275 => ?_
      rcases ite_some hm268 with ⟨hc276, hm277⟩ | ⟨hc276, hm278⟩
      · clear hm268
        simp [hget, hc276]
        refine ga274 _ _ ?_
        refine AWp.seqK fun K283 hk284 => ?_
        refine AWp.region [] (by decide +kernel) ?_
        obtain ⟨x285, d286, hx287, hm288⟩ := bind2_some hm277
        clear hm277
        try dsimp only at hm288
        simp [hget, hc276]
        refine CallAt.fn (r_mk_Deck_Next T (by first | exact ho | decide) hx287) ?_
        simp [hget, hc276]
        refine hk284 _ _ ?_
        refine AWp.blockK fun Q289 nn290 ne291 nx292 nr293 => ?_
        refine AWp.seqK fun K294 hk295 => ?_
        refine AWp.region [] (by decide +kernel) ?_
        simp [hget, hc276]
        refine hk295 _ _ ?_
        refine AWp.condK rfl fun A296 B297 ga298 gb299 => ?_
        rcases ite_some hm288 with ⟨hc300, hm301⟩ | ⟨hc300, hm302⟩
        · clear hm288
          simp [hget, hc276, hc300]
          refine ga298 _ _ ?_
          refine AWp.seqK fun K314 hk315 => ?_
          refine AWp.region [] (by decide +kernel) ?_
          obtain ⟨x316, d317, hx318, hm319⟩ := bind2_some hm301
          clear hm301
          try dsimp only at hm319
          simp [hget, hc276, hc300]
          refine CallAt.fn (ih (by first | exact ho | decide) hx318) ?_
          obtain ⟨x320, d321, hx322, hm323⟩ := bind2_some hm319
          clear hm319
          try dsimp only at hm323
          simp [hget, hc276, hc300]
          refine CallAt.fn (ih (by first | exact ho | decide) hx322) ?_
          obtain ⟨x324, hx325, hm326⟩ := bind1_some hm323
          clear hm323
          try dsimp only at hm326
          simp [hget, hc276, hc300]
          refine CallAt.fn (r_ref07_Two T hx325) ?_
          simp [hget, hc276, hc300]
          refine hk315 _ _ ?_
          refine AWp.ret ?_
          try simp only [thenQ_ret]
          refine nr293 _ _ ?_
          try simp only [thenQ_ret]
          simp only [Option.some.injEq, Prod.mk.injEq] at hm326
          obtain ⟨rfl, rfl⟩ := hm326
          simp [retQ, hget, hc276, hc300]
        · clear hm288
          simp [hget, hc276, hc300]
          refine gb299 _ _ ?_
          refine AWp.seqP (fun fr h => ∃ (g6_338 : Nat), hset H o [AV.slice .frz (List.map (fun n => AV.sc (Value.int .i64 n)) d286.l), AV.sc (.int .i64 d286.atF)] = h ∧ fr.env 0 = AV.gptr o 0 ∧ fr.env 1 = AV.slice .frz (List.map Ty.av a1) ∧ fr.env 2 = AV.sc (.int .i64 a2) ∧ fr.env 6 = AV.lptr 6 g6_338 0 ∧ fr.env 14 = AV.sc (.int .i64 x285) ∧ fr.env 28 = AV.sc (.bool (sel (ieq x285 1) true (ieq x285 2))) ∧ fr.gen 6 = g6_338 ∧ fr.box 6 = some [AV.sc (.int .i64 0), AV.sc (.int .i64 0), AV.slice .full [], AV.slice .full [], AV.slice .full []]) (fun K336 hk337 => ?_) ?_
          · refine AWp.seqK fun K339 hk340 => ?_
            refine AWp.region [] (by decide +kernel) ?_
            simp [hget, hc276, hc300]
            refine hk340 _ _ ?_
            refine AWp.condK rfl fun A341 B342 ga343 gb344 => ?_
            rcases Bool.eq_false_or_eq_true (ieq x285 1) with hc345 | hc345
            · simp [hget, hc276, hc300, hc345]
              refine ga343 _ _ ?_
              refine AWp.skip ?_
              try simp only [thenQ_normal]
              refine hk337 _ _ ⟨1, ?_, ?_, ?_, ?_, ?_, ?_, ?_, ?_, ?_⟩ <;> first | rfl | simp [hget, hc276, hc300, hc345]
            · simp [hget, hc276, hc300, hc345]
              refine gb344 _ _ ?_
              refine AWp.region [] (by decide +kernel) ?_
              simp [hget, hc276, hc300, hc345]
              refine hk337 _ _ ⟨1, ?_, ?_, ?_, ?_, ?_, ?_, ?_, ?_, ?_⟩ <;> first | rfl | simp [hget, hc276, hc300, hc345]
          · rintro fr338 h338 ⟨g6_338, rfl, e0_338, e1_338, e2_338, e6_338, e14_338, e28_338, g6e_338, b6_338⟩
            refine AWp.condK rfl fun A348 B349 ga350 gb351 => ?_
            rcases ite_some hm302 with ⟨hc352, hm353⟩ | ⟨hc352, hm354⟩
            · clear hm302
              simp [e0_338, e1_338, e2_338, e6_338, e14_338, e28_338, g6e_338, b6_338, hget, hc276, hc300, hc352]
              refine ga350 _ _ ?_
              refine AWp.seqK fun K366 hk367 => ?_
              refine AWp.region [] (by decide +kernel) ?_
              obtain ⟨x368, d369, hx370, hm371⟩ := bind2_some hm353
              clear hm353
              try dsimp only at hm371
              simp [e0_338, e1_338, e2_338, e6_338, e14_338, e28_338, g6e_338, b6_338, hget, hc276, hc300, hc352]
              refine CallAt.fn (ih (by first | exact ho | decide) hx370) ?_
              obtain ⟨x372, d373, hx374, hm375⟩ := bind2_some hm371
              clear hm371
              try dsimp only at hm375
              simp [e0_338, e1_338, e2_338, e6_338, e14_338, e28_338, g6e_338, b6_338, hget, hc276, hc300, hc352]
              refine CallAt.fn (ih (by first | exact ho | decide) hx374) ?_
              obtain ⟨x376, hx377, hm378⟩ := bind1_some hm375
              clear hm375
              try dsimp only at hm378
              simp [e0_338, e1_338, e2_338, e6_338, e14_338, e28_338, g6e_338, b6_338, hget, hc276, hc300, hc352]
              refine CallAt.fn (r_ref07_Two T hx377) ?_
              simp [e0_338, e1_338, e2_338, e6_338, e14_338, e28_338, g6e_338, b6_338, hget, hc276, hc300, hc352]
              refine hk367 _ _ ?_
              refine AWp.ret ?_
              try simp only [thenQ_ret]
              refine nr293 _ _ ?_
              try simp only [thenQ_ret]
              simp only [Option.some.injEq, Prod.mk.injEq] at hm378
              obtain ⟨rfl, rfl⟩ := hm378
              simp [retQ, e0_338, e1_338, e2_338, e6_338, e14_338, e28_338, g6e_338, b6_338, hget, hc276, hc300, hc352]
            · clear hm302
              simp [e0_338, e1_338, e2_338, e6_338, e14_338, e28_338, g6e_338, b6_338, hget, hc276, hc300, hc352]
              refine gb351 _ _ ?_
              refine AWp.seqP (fun fr h => ∃ (g6_390 : Nat), hset H o [AV.slice .frz (List.map (fun n => AV.sc (Value.int .i64 n)) d286.l), AV.sc (.int .i64 d286.atF)] = h ∧ fr.env 0 = AV.gptr o 0 ∧ fr.env 1 = AV.slice .frz (List.map Ty.av a1) ∧ fr.env 2 = AV.sc (.int .i64 a2) ∧ fr.env 6 = AV.lptr 6 g6_390 0 ∧ fr.env 14 = AV.sc (.int .i64 x285) ∧ fr.env 42 = AV.sc (.bool (sel (ieq x285 3) true (ieq x285 4))) ∧ fr.gen 6 = g6_390 ∧ fr.box 6 = some [AV.sc (.int .i64 0), AV.sc (.int .i64 0), AV.slice .full [], AV.slice .full [], AV.slice .full []]) (fun K388 hk389 => ?_) ?_
              · refine AWp.seqK fun K391 hk392 => ?_
                refine AWp.region [] (by decide +kernel) ?_
                simp [e0_338, e1_338, e2_338, e6_338, e14_338, e28_338, g6e_338, b6_338, hget, hc276, hc300, hc352]
                refine hk392 _ _ ?_
                refine AWp.condK rfl fun A393 B394 ga395 gb396 => ?_
                rcases Bool.eq_false_or_eq_true (ieq x285 3) with hc397 | hc397
                · simp [e0_338, e1_338, e2_338, e6_338, e14_338, e28_338, g6e_338, b6_338, hget, hc276, hc300, hc352, hc397]
                  refine ga395 _ _ ?_
                  refine AWp.skip ?_
                  try simp only [thenQ_normal]
                  refine hk389 _ _ ⟨g6_338, ?_, ?_, ?_, ?_, ?_, ?_, ?_, ?_, ?_⟩ <;> first | rfl | simp [e0_338, e1_338, e2_338, e6_338, e14_338, e28_338, g6e_338, b6_338, hget, hc276, hc300, hc352, hc397]
                · simp [e0_338, e1_338, e2_338, e6_338, e14_338, e28_338, g6e_338, b6_338, hget, hc276, hc300, hc352, hc397]
                  refine gb396 _ _ ?_
                  refine AWp.region [] (by decide +kernel) ?_
                  simp [e0_338, e1_338, e2_338, e6_338, e14_338, e28_338, g6e_338, b6_338, hget, hc276, hc300, hc352, hc397]
                  refine hk389 _ _ ⟨g6_338, ?_, ?_, ?_, ?_, ?_, ?_, ?_, ?_, ?_⟩ <;> first | rfl | simp [e0_338, e1_338, e2_338, e6_338, e14_338, e28_338, g6e_338, b6_338, hget, hc276, hc300, hc352, hc397]
              · rintro fr390 h390 ⟨g6_390, rfl, e0_390, e1_390, e2_390, e6_390, e14_390, e42_390, g6e_390, b6_390⟩
                refine AWp.condK rfl fun A400 B401 ga402 gb403 => ?_
                rcases ite_some hm354 with ⟨hc404, hm405⟩ | ⟨hc404, hm406⟩
                · clear hm354
                  simp [e0_390, e1_390, e2_390, e6_390, e14_390, e42_390, g6e_390, b6_390, hget, hc276, hc300, hc352, hc404]
                  refine ga402 _ _ ?_
                  refine AWp.seqK fun K411 hk412 => ?_
                  refine AWp.region [] (by decide +kernel) ?_
                  obtain ⟨x413, d414, hx415, hm416⟩ := bind2_some hm405
                  clear hm405
                  try dsimp only at hm416
                  simp [e0_390, e1_390, e2_390, e6_390, e14_390, e42_390, g6e_390, b6_390, hget, hc276, hc300, hc352, hc404]
                  refine CallAt.fn (r_mk_Type T (by first | exact ho | decide) hx415) ?_
                  simp [e0_390, e1_390, e2_390, e6_390, e14_390, e42_390, g6e_390, b6_390, hget, hc276, hc300, hc352, hc404]
                  refine hk412 _ _ ?_
                  refine AWp.seqK fun K427 hk428 => ?_
                  refine AWp.regionD [] false mixed (by decide +kernel) (by decide +kernel) ?_
                  obtain ⟨x429, hx430, hm431⟩ := bind1_some hm416
                  clear hm416
                  try dsimp only at hm431
                  simp [e0_390, e1_390, e2_390, e6_390, e14_390, e42_390, g6e_390, b6_390, hget, hc276, hc300, hc352, hc404]
                  refine CallAtD.fn (r_mk_longer T hx430) (by simp) ?_
                  obtain ⟨x432, d433, hx434, hm435⟩ := bind2_some hm431
                  clear hm431
                  try dsimp only at hm435
                  simp [e0_390, e1_390, e2_390, e6_390, e14_390, e42_390, g6e_390, b6_390, hget, hc276, hc300, hc352, hc404]
                  refine CallAtD.fn (ih (by first | exact ho | decide) hx434) (by simp) ?_
                  obtain ⟨x436, hx437, hm438⟩ := bind1_some hm435
                  clear hm435
                  try dsimp only at hm438
                  simp [e0_390, e1_390, e2_390, e6_390, e14_390, e42_390, g6e_390, b6_390, hget, hc276, hc300, hc352, hc404]
                  refine CallAtD.fn (r_ref07_Q T hx437) (by simp) ?_
                  simp [e0_390, e1_390, e2_390, e6_390, e14_390, e42_390, g6e_390, b6_390, hget, hc276, hc300, hc352, hc404]
                  refine hk428 _ _ ?_
                  refine AWp.ret ?_
                  try simp only [thenQ_ret]
                  refine nr293 _ _ ?_
                  try simp only [thenQ_ret]
                  simp only [Option.some.injEq, Prod.mk.injEq] at hm438
                  obtain ⟨rfl, rfl⟩ := hm438
                  simp [retQ, e0_390, e1_390, e2_390, e6_390, e14_390, e42_390, g6e_390, b6_390, hget, hc276, hc300, hc352, hc404]
                · clear hm354
                  simp [e0_390, e1_390, e2_390, e6_390, e14_390, e42_390, g6e_390, b6_390, hget, hc276, hc300, hc352, hc404]
                  refine gb403 _ _ ?_
                  refine AWp.seqK fun K439 hk440 => ?_
                  refine AWp.region [] (by decide +kernel) ?_
                  simp [e0_390, e1_390, e2_390, e6_390, e14_390, e42_390, g6e_390, b6_390, hget, hc276, hc300, hc352, hc404]
                  refine hk440 _ _ ?_
                  refine AWp.condK rfl fun A441 B442 ga443 gb444 => ?_
                  rcases ite_some hm406 with ⟨hc445, hm446⟩ | ⟨hc445, hm447⟩
                  · clear hm406
                    simp [e0_390, e1_390, e2_390, e6_390, e14_390, e42_390, g6e_390, b6_390, hget, hc276, hc300, hc352, hc404, hc445]
                    refine ga443 _ _ ?_
                    refine AWp.seqK fun K452 hk453 => ?_
                    refine AWp.region [] (by decide +kernel) ?_
                    obtain ⟨x454, d455, hx456, hm457⟩ := bind2_some hm446
                    clear hm446
                    try dsimp only at hm457
                    simp [e0_390, e1_390, e2_390, e6_390, e14_390, e42_390, g6e_390, b6_390, hget, hc276, hc300, hc352, hc404, hc445]
                    refine CallAt.fn (r_mk_Type T (by first | exact ho | decide) hx456) ?_
                    simp [e0_390, e1_390, e2_390, e6_390, e14_390, e42_390, g6e_390, b6_390, hget, hc276, hc300, hc352, hc404, hc445]
                    refine hk453 _ _ ?_
                    refine AWp.seqK fun K468 hk469 => ?_
                    refine AWp.regionD [] false mixed (by decide +kernel) (by decide +kernel) ?_
                    obtain ⟨x470, hx471, hm472⟩ := bind1_some hm457
                    clear hm457
                    try dsimp only at hm472
                    simp [e0_390, e1_390, e2_390, e6_390, e14_390, e42_390, g6e_390, b6_390, hget, hc276, hc300, hc352, hc404, hc445]
                    refine CallAtD.fn (r_mk_longer T hx471) (by simp) ?_
                    obtain ⟨x473, d474, hx475, hm476⟩ := bind2_some hm472
                    clear hm472
                    try dsimp only at hm476
                    simp [e0_390, e1_390, e2_390, e6_390, e14_390, e42_390, g6e_390, b6_390, hget, hc276, hc300, hc352, hc404, hc445]
                    refine CallAtD.fn (ih (by first | exact ho | decide) hx475) (by simp) ?_
                    obtain ⟨x477, hx478, hm479⟩ := bind1_some hm476
                    clear hm476
                    try dsimp only at hm479
                    simp [e0_390, e1_390, e2_390, e6_390, e14_390, e42_390, g6e_390, b6_390, hget, hc276, hc300, hc352, hc404, hc445]
                    refine CallAtD.fn (r_ref07_Q T hx478) (by simp) ?_
                    simp [e0_390, e1_390, e2_390, e6_390, e14_390, e42_390, g6e_390, b6_390, hget, hc276, hc300, hc352, hc404, hc445]
                    refine hk469 _ _ ?_
                    refine AWp.ret ?_
                    try simp only [thenQ_ret]
                    refine nr293 _ _ ?_
                    try simp only [thenQ_ret]
                    simp only [Option.some.injEq, Prod.mk.injEq] at hm479
                    obtain ⟨rfl, rfl⟩ := hm479
                    simp [retQ, e0_390, e1_390, e2_390, e6_390, e14_390, e42_390, g6e_390, b6_390, hget, hc276, hc300, hc352, hc404, hc445]
                  · clear hm406
                    simp [e0_390, e1_390, e2_390, e6_390, e14_390, e42_390, g6e_390, b6_390, hget, hc276, hc300, hc352, hc404, hc445]
                    refine gb444 _ _ ?_
                    refine AWp.seqK fun K480 hk481 => ?_
                    refine AWp.region [] (by decide +kernel) ?_
                    simp [e0_390, e1_390, e2_390, e6_390, e14_390, e42_390, g6e_390, b6_390, hget, hc276, hc300, hc352, hc404, hc445]
                    refine hk481 _ _ ?_
                    refine AWp.condK rfl fun A482 B483 ga484 gb485 => ?_
                    rcases ite_some hm447 with ⟨hc486, hm487⟩ | ⟨hc486, hm488⟩
                    · clear hm447
                      simp [e0_390, e1_390, e2_390, e6_390, e14_390, e42_390, g6e_390, b6_390, hget, hc276, hc300, hc352, hc404, hc445, hc486]
                      refine ga484 _ _ ?_
                      refine AWp.seqK fun K493 hk494 => ?_
                      refine AWp.region [] (by decide +kernel) ?_
                      obtain ⟨x495, d496, hx497, hm498⟩ := bind2_some hm487
                      clear hm487
                      try dsimp only at hm498
                      simp [e0_390, e1_390, e2_390, e6_390, e14_390, e42_390, g6e_390, b6_390, hget, hc276, hc300, hc352, hc404, hc445, hc486]
                      refine CallAt.fn (r_mk_Type T (by first | exact ho | decide) hx497) ?_
                      simp [e0_390, e1_390, e2_390, e6_390, e14_390, e42_390, g6e_390, b6_390, hget, hc276, hc300, hc352, hc404, hc445, hc486]
                      refine hk494 _ _ ?_
                      refine AWp.seqK fun K513 hk514 => ?_
                      refine AWp.regionD [] false mixed (by decide +kernel) (by decide +kernel) ?_
                      obtain ⟨x515, d516, hx517, hm518⟩ := bind2_some hm498
                      clear hm498
                      try dsimp only at hm518
                      simp [e0_390, e1_390, e2_390, e6_390, e14_390, e42_390, g6e_390, b6_390, hget, hc276, hc300, hc352, hc404, hc445, hc486]
                      refine CallAtD.fn (r_mk_Deck_Next T (by first | exact ho | decide) hx517) (by simp) ?_
                      obtain ⟨x519, hx520, hm521⟩ := bind1_some hm518
                      clear hm518
                      try dsimp only at hm521
                      simp [e0_390, e1_390, e2_390, e6_390, e14_390, e42_390, g6e_390, b6_390, hget, hc276, hc300, hc352, hc404, hc445, hc486]
                      refine CallAtD.fn (r_mk_longer T hx520) (by simp) ?_
                      obtain ⟨x522, d523, hx524, hm525⟩ := bind2_some hm521
                      clear hm521
                      try dsimp only at hm525
                      simp [e0_390, e1_390, e2_390, e6_390, e14_390, e42_390, g6e_390, b6_390, hget, hc276, hc300, hc352, hc404, hc445, hc486]
                      refine CallAtD.fn (ih (by first | exact ho | decide) hx524) (by simp) ?_
                      obtain ⟨x526, hx527, hm528⟩ := bind1_some hm525
                      clear hm525
                      try dsimp only at hm528
                      simp [e0_390, e1_390, e2_390, e6_390, e14_390, e42_390, g6e_390, b6_390, hget, hc276, hc300, hc352, hc404, hc445, hc486]
                      refine CallAtD.fn (r_ref07_Q T hx527) (by simp) ?_
                      simp [e0_390, e1_390, e2_390, e6_390, e14_390, e42_390, g6e_390, b6_390, hget, hc276, hc300, hc352, hc404, hc445, hc486]
                      refine hk514 _ _ ?_
                      refine AWp.ret ?_
                      try simp only [thenQ_ret]
                      refine nr293 _ _ ?_
                      try simp only [thenQ_ret]
                      simp only [Option.some.injEq, Prod.mk.injEq] at hm528
                      obtain ⟨rfl, rfl⟩ := hm528
                      simp [retQ, e0_390, e1_390, e2_390, e6_390, e14_390, e42_390, g6e_390, b6_390, hget, hc276, hc300, hc352, hc404, hc445, hc486]
                    · clear hm447
                      simp [e0_390, e1_390, e2_390, e6_390, e14_390, e42_390, g6e_390, b6_390, hget, hc276, hc300, hc352, hc404, hc445, hc486]
                      refine gb485 _ _ ?_
                      refine AWp.skip ?_
                      try simp only [thenQ_normal]
                      refine nn290 _ _ ?_
                      try simp only [thenQ_normal]
                      refine hk263 _ _ ⟨d286, g6_390, ?_, ?_, ?_, ?_, ?_, ?_, hm488⟩ <;> first | rfl | simp [e0_390, e1_390, e2_390, e6_390, e14_390, e42_390, g6e_390, b6_390, hget, hc276, hc300, hc352, hc404, hc445, hc486]
      · clear hm268
        simp [hget, hc276]
        refine gb275 _ _ ?_
        refine AWp.skip ?_
        try simp only [thenQ_normal]
        refine hk263 _ _ ⟨a0, 1, ?_, ?_, ?_, ?_, ?_, ?_, hm278⟩ <;> first | rfl | simp [hget, hc276]
    · clear hm268
      rintro fr264 h264 ⟨v265, g6_264, rfl, e0_264, e1_264, e6_264, g6e_264, b6_264, hm269⟩
      subst hj267
      refine AWp.seqK fun K532 hk533 => ?_
      refine AWp.region [] (by decide +kernel) ?_
      obtain ⟨x534, hx535, hm536⟩ := bind1_some hm269
      clear hm269
      try dsimp only at hm536
      simp [e0_264, e1_264, e6_264, g6e_264, b6_264, hget]
      refine CallAt.fn (r_ref01_Nat T hx535) ?_
      simp [e0_264, e1_264, e6_264, g6e_264, b6_264, hget]
      refine hk533 _ _ ?_
      refine AWp.seqK fun K548 hk549 => ?_
      refine AWp.regionD [] false mixed (by decide +kernel) (by decide +kernel) ?_
      obtain ⟨x550, d551, hx552, hm553⟩ := bind2_some hm536
      clear hm536
      try dsimp only at hm553
      simp [e0_264, e1_264, e6_264, g6e_264, b6_264, hget]
      refine CallAtD.fn (r_mk_Term T (by first | exact ho | decide) hx552) (by simp) ?_
      obtain ⟨x554, d555, hx556, hm557⟩ := bind2_some hm553
      clear hm553
      try dsimp only at hm557
      simp [e0_264, e1_264, e6_264, g6e_264, b6_264, hget]
      refine CallAtD.fn (r_mk_Term T (by first | exact ho | decide) hx556) (by simp) ?_
      obtain ⟨x558, hx559, hm560⟩ := bind1_some hm557
      clear hm557
      try dsimp only at hm560
      simp [e0_264, e1_264, e6_264, g6e_264, b6_264, hget]
      refine CallAtD.fn (r_ref07_Eq T hx559) (by simp) ?_
      simp [e0_264, e1_264, e6_264, g6e_264, b6_264, hget]
      refine hk549 _ _ ?_
      refine AWp.ret ?_
      try simp only [thenQ_ret]
      simp only [Option.some.injEq, Prod.mk.injEq] at hm560
      obtain ⟨rfl, rfl⟩ := hm560
      simp [retQ, e0_264, e1_264, e6_264, g6e_264, b6_264, hget]
theorem r_mk_Formula (T : Tabs) {H : Heap} {a0 : Smk_Deck} {a1 : (List Ty)} {a2 : Int} {r0 : Fm} {rd : Smk_Deck} {o : Nat} (ho : o < List.length H) {n : Nat} (hm : mk_Formula n a0 a1 a2 = some (r0, rd)) : ACall Tryd.prog T 15 [AV.gptr o 0, AV.slice .frz (List.map Ty.av a1), AV.sc (.int .i64 a2)] (hset H o [AV.slice .frz (List.map (fun n => AV.sc (Value.int .i64 n)) a0.l), AV.sc (.int .i64 a0.atF)]) (Fm.av r0) (hset H o [AV.slice .frz (List.map (fun n => AV.sc (Value.int .i64 n)) rd.l), AV.sc (.int .i64 rd.atF)]) := (rg_mk_Formula T n) ho hm

theorem enters14 : entersB Tryd.prog 14 = true := by kernel_rfl
set_option maxRecDepth 20000 in
set_option maxHeartbeats 4000000 in
theorem r_mk_Sequent (T : Tabs) {H : Heap} {a0 : Smk_Deck} {r0 : Sq} {rd : Smk_Deck} {o : Nat} (ho : o < List.length H) (hm : mk_Sequent a0 = some (r0, rd)) : ACall Tryd.prog T 14 [AV.gptr o 0] (hset H o [AV.slice .frz (List.map (fun n => AV.sc (Value.int .i64 n)) a0.l), AV.sc (.int .i64 a0.atF)]) (Sq.av r0) (hset H o [AV.slice .frz (List.map (fun n => AV.sc (Value.int .i64 n)) rd.l), AV.sc (.int .i64 rd.atF)]) := by
  rw [mk_Sequent] at hm
  have hget : ∀ c, (hset H o c)[o]? = some c := fun c => by simp [hset, ho]
  refine ACallP.intro (fn := Tryd.f14) Tryd.func14 rfl enters14 (Nat.le_of_ble_eq_true rfl) ?_
  refine AWp.seqK fun K1 hk2 => ?_
  refine AWp.region [] (by decide +kernel) ?_
  simp [hget]
  refine hk2 _ _ ?_
  refine AWp.seqK fun K7 hk8 => ?_
  refine AWp.region [] (by decide +kernel) ?_
  obtain ⟨x9, d10, hx11, hm12⟩ := bind2_some hm
  clear hm
  try dsimp only at hm12
  simp [hget]
  refine CallAt.fn (r_mk_Context T (by first | exact ho | decide) hx11) ?_
  simp [hget]
  refine hk8 _ _ ?_
  refine AWp.seqK fun K120 hk121 => ?_
  refine AWp.seqK fun K126 hk127 => ?_
  refine AWp.region [] (by decide +kernel) ?_
  obtain ⟨x128, d129, hx130, hm131⟩ := bind2_some hm12
  clear hm12
  try dsimp only at hm131
  simp [hget]
  refine CallAt.fn (r_mk_Deck_Next T (by first | exact ho | decide) hx130) ?_
  simp [hget]
  refine hk127 _ _ ?_
  obtain ⟨F229, hF230, hm293⟩ := joinB_some hm131
  clear hm131
  try dsimp only at hm293
  obtain ⟨out231, hl232, hmB233⟩ := bind1_some hm293
  clear hm293
  refine AWp.blockK fun Q238 nn239 ne240 nx241 nr242 => ?_
  refine AWp.loopF (fun n237 fr h => ∃ (v226 : Int) (v227 : (List Fm)) (v228 : Smk_Deck) (tg0_225 : Tag) (g2_225 : Nat) (g3_225 : Nat), hset H o [AV.slice .frz (List.map (fun n => AV.sc (Value.int .i64 n)) v228.l), AV.sc (.int .i64 v228.atF)] = h ∧ fr.env 0 = AV.gptr o 0 ∧ fr.env 2 = AV.lptr 2 g2_225 0 ∧ fr.env 3 = AV.lptr 3 g3_225 0 ∧ fr.env 4 = AV.sc (.int .i64 v226) ∧ fr.gen 2 = g2_225 ∧ fr.box 2 = some [AV.slice .full [], AV.slice .full []] ∧ fr.gen 3 = g3_225 ∧ fr.box 3 = some [AV.slice .frz (List.map Ty.av x9), AV.slice tg0_225 (List.map Fm.av v227)] ∧ OwnT fr.tab fr.tgen [21] tg0_225 (List.length v227) ∧ loopN F229 n237 (v226, v227, v228) = some out231) FU ?_ ?_
  · refine ⟨x128, [], d129, .full, 1, 1, ?_, ?_, ?_, ?_, ?_, ?_, ?_, ?_, ?_, OwnT.full, hl232⟩ <;> first | rfl | simp [hget]
  · rintro n237 fr225 h225 ⟨v226, v227, v228, tg0_225, g2_225, g3_225, rfl, e0_225, e2_225, e3_225, e4_225, g2e_225, b2_225, g3e_225, b3_225, o0_225, hl232⟩ K244 hK243
    rcases n237 with _ | n237
    · rw [loopN_zero] at hl232
      cases hl232
    · rw [loopN_succ] at hl232
      obtain ⟨c234, hb236, hk235⟩ := bind1_some hl232
      clear hl232
      rw [hF230] at hb236
      try dsimp only at hb236
      rw [un3_mk] at hb236
      try dsimp only at hb236
      refine AWp.seqK fun K256 hk257 => ?_
      refine AWp.seqK fun K258 hk259 => ?_
      refine AWp.region [] (by decide +kernel) ?_
      simp [e0_225, e2_225, e3_225, e4_225, g2e_225, b2_225, g3e_225, b3_225, hget]
      refine hk259 _ _ ?_
      refine AWp.condK rfl fun A260 B261 ga262 gb263 => ?_
      rcases ite_some hb236 with ⟨hc264, hm265⟩ | ⟨hc264, hm266⟩
      · clear hb236
        simp [e0_225, e2_225, e3_225, e4_225, g2e_225, b2_225, g3e_225, b3_225, hget, hc264]
        refine ga262 _ _ ?_
        refine AWp.skip ?_
        try simp only [thenQ_normal]
        refine hk257 _ _ ?_
        refine AWp.seqK fun K278 hk279 => ?_
        refine AWp.blockK fun Q280 nn281 ne282 nx283 nr284 => ?_
        refine AWp.regionD [] false mixed (by decide +kernel) (by decide +kernel) ?_
        obtain ⟨x285, d286, hx287, hm288⟩ := bind2_some hm265
        clear hm265
        try dsimp only at hm288
        simp [e0_225, e2_225, e3_225, e4_225, g2e_225, b2_225, g3e_225, b3_225, hget, hc264]
        refine CallAtD.fn (r_mk_Formula T (by first | exact ho | decide) hx287) (by simp) ?_
        obtain ⟨ha289, hm290⟩ := chk_some hm288
        clear hm288
        simp [e0_225, e2_225, e3_225, e4_225, g2e_225, b2_225, g3e_225, b3_225, hget, hc264]
        refine AppAt.own (f := Fm.av) v227 [x285] o0_225 ap27 (by intro x; simp) ha289 (by first | rfl | simp) (by first | rfl | simp) ?_
        simp [e0_225, e2_225, e3_225, e4_225, g2e_225, b2_225, g3e_225, b3_225, hget, hc264]
        refine nn281 _ _ ?_
        try simp only [thenQ_normal]
        refine hk279 _ _ ?_
        refine AWp.region [] (by decide +kernel) ?_
        simp [e0_225, e2_225, e3_225, e4_225, g2e_225, b2_225, g3e_225, b3_225, hget, hc264]
        obtain rfl := Option.some.inj hm290
        rw [ctlK_next] at hk235
        refine hK243 _ _ n237 (Nat.lt_succ_self _) ⟨(isub .i64 v226 1), (lapp v227 [x285]), d286, (.loc 21 (fr225.tgen 21 + 1)), g2_225, g3_225, ?_, ?_, ?_, ?_, ?_, ?_, ?_, ?_, ?_, (OwnT.mono (D := [21]) (OwnT.new (D := [21]) (d := 21) (by decide)) (by decide)), hk235⟩ <;> first | rfl | simp [e0_225, e2_225, e3_225, e4_225, g2e_225, b2_225, g3e_225, b3_225, hget, hc264]
      · clear hb236
        simp [e0_225, e2_225, e3_225, e4_225, g2e_225, b2_225, g3e_225, b3_225, hget, hc264]
        refine gb263 _ _ ?_
        refine AWp.exit ?_
        try simp only [thenQ_exit]
        refine ne240 _ _ ?_
        try simp only [thenQ_normal]
        obtain rfl := Option.some.inj hm266
        rw [ctlK_brk] at hk235
        obtain rfl := Option.some.inj hk235
        rw [sumK_inl, un3_mk] at hmB233
        try dsimp only at hmB233
        refine hk121 _ _ ?_
        refine AWp.seqK fun K291 hk292 => ?_
        refine AWp.region [] (by decide +kernel) ?_
        simp [e0_225, e2_225, e3_225, e4_225, g2e_225, b2_225, g3e_225, b3_225, hget, hc264]
        refine hk292 _ _ ?_
        refine AWp.ret ?_
        try simp only [thenQ_ret]
        simp only [Option.some.injEq, Prod.mk.injEq] at hmB233
        obtain ⟨rfl, rfl⟩ := hmB233
        simp [retQ, e0_225, e2_225, e3_225, e4_225, g2e_225, b2_225, g3e_225, b3_225, hget, hc264]

theorem enters97 : entersB Tryd.prog 97 = true := by kernel_rfl
set_option maxRecDepth 20000 in
set_option maxHeartbeats 4000000 in
theorem r_ref01_Zero (T : Tabs) {H : Heap} {a0 : Ty} {r0 : Bool} (hm : ref01_Zero a0 = some r0) : ACall Tryd.prog T 97 [Ty.av a0] H (AV.sc (.bool r0)) H := by
  rw [ref01_Zero] at hm
  refine ACallP.intro (fn := Tryd.f97) Tryd.func97 rfl enters97 (Nat.le_of_ble_eq_true rfl) ?_
  refine AWp.seqK fun K1 hk2 => ?_
  refine AWp.region [] (by decide +kernel) ?_
  simp
  refine hk2 _ _ ?_
  refine AWp.seqP (fun fr h => H = h ∧ fr.env 2 = AV.sc (.bool (sel (ieq a0.kind 0) (ieq (llen a0.args) 0) false))) (fun K6 hk7 => ?_) ?_
  · refine AWp.region [] (by decide +kernel) ?_
    rcases Bool.eq_false_or_eq_true (ieq a0.kind 0) with hc9 | hc9
    · simp [hc9]
      refine hk7 _ _ ⟨?_, ?_⟩ <;> first | rfl | simp [hc9]
    · simp [hc9]
      refine hk7 _ _ ⟨?_, ?_⟩ <;> first | rfl | simp [hc9]
  · rintro fr8 h8 ⟨rfl, e2_8⟩
    refine AWp.ret ?_
    try simp only [thenQ_ret]
    obtain rfl := Option.some.inj hm
    simp [retQ, e2_8]

theorem enters103 : entersB Tryd.prog 103 = true := by kernel_rfl
set_option maxRecDepth 20000 in
set_option maxHeartbeats 4000000 in
theorem r_ref02_args (T : Tabs) {H : Heap} {a0 : Int} {r0 : Int} (hm : ref02_args a0 = some r0) : ACall Tryd.prog T 103 [AV.sc (.int .i64 a0)] H (AV.sc (.int .i64 r0)) H := by
  rw [ref02_args] at hm
  refine ACallP.intro (fn := Tryd.f103) Tryd.func103 rfl enters103 (Nat.le_of_ble_eq_true rfl) ?_
  refine AWp.seqK fun K1 hk2 => ?_
  refine AWp.region [] (by decide +kernel) ?_
  simp
  refine hk2 _ _ ?_
  refine AWp.seqK fun K220 hk221 => ?_
  refine AWp.seqK fun K222 hk223 => ?_
  refine AWp.region [] (by decide +kernel) ?_
  simp
  refine hk223 _ _ ?_
  refine AWp.blockK fun Q224 nn225 ne226 nx227 nr228 => ?_
  refine AWp.seqP (fun fr h => H = h ∧ fr.env 3 = AV.sc (.int .i64 a0) ∧ fr.env 4 = AV.sc (.bool (sel (ieq a0 1) true (sel (ieq a0 4) true (sel (ieq a0 7) true (ieq a0 13)))))) (fun K256 hk257 => ?_) ?_
  · refine AWp.seqK fun K259 hk260 => ?_
    refine AWp.region [] (by decide +kernel) ?_
    simp
    refine hk260 _ _ ?_
    refine AWp.condK rfl fun A261 B262 ga263 gb264 => ?_
    rcases Bool.eq_false_or_eq_true (ieq a0 1) with hc265 | hc265
    · simp [hc265]
      refine ga263 _ _ ?_
      refine AWp.skip ?_
      try simp only [thenQ_normal]
      refine hk257 _ _ ⟨?_, ?_, ?_⟩ <;> first | rfl | simp [hc265]
    · simp [hc265]
      refine gb264 _ _ ?_
      refine AWp.seqK fun K268 hk269 => ?_
      refine AWp.region [] (by decide +kernel) ?_
      simp [hc265]
      refine hk269 _ _ ?_
      refine AWp.condK rfl fun A270 B271 ga272 gb273 => ?_
      rcases Bool.eq_false_or_eq_true (ieq a0 4) with hc274 | hc274
      · simp [hc265, hc274]
        refine ga272 _ _ ?_
        refine AWp.skip ?_
        try simp only [thenQ_normal]
        refine hk257 _ _ ⟨?_, ?_, ?_⟩ <;> first | rfl | simp [hc265, hc274]
      · simp [hc265, hc274]
        refine gb273 _ _ ?_
        refine AWp.seqK fun K277 hk278 => ?_
        refine AWp.region [] (by decide +kernel) ?_
        simp [hc265, hc274]
        refine hk278 _ _ ?_
        refine AWp.condK rfl fun A279 B280 ga281 gb282 => ?_
        rcases Bool.eq_false_or_eq_true (ieq a0 7) with hc283 | hc283
        · simp [hc265, hc274, hc283]
          refine ga281 _ _ ?_
          refine AWp.skip ?_
          try simp only [thenQ_normal]
          refine hk257 _ _ ⟨?_, ?_, ?_⟩ <;> first | rfl | simp [hc265, hc274, hc283]
        · simp [hc265, hc274, hc283]
          refine gb282 _ _ ?_
          refine AWp.region [] (by decide +kernel) ?_
          simp [hc265, hc274, hc283]
          refine hk257 _ _ ⟨?_, ?_, ?_⟩ <;> first | rfl | simp [hc265, hc274, hc283]
  · rintro fr258 h258 ⟨rfl, e3_258, e4_258⟩
    refine AWp.condK rfl fun A286 B287 ga288 gb289 => ?_
    rcases ite_some hm with ⟨hc290, hm291⟩ | ⟨hc290, hm292⟩
    · clear hm
      simp [e3_258, e4_258, hc290]
      refine ga288 _ _ ?_
      refine AWp.seqK fun K293 hk294 => ?_
      refine AWp.region [] (by decide +kernel) ?_
      simp [e3_258, e4_258, hc290]
      refine hk294 _ _ ?_
      refine AWp.ret ?_
      try simp only [thenQ_ret]
      refine nr228 _ _ ?_
      try simp only [thenQ_ret]
      obtain rfl := Option.some.inj hm291
      simp [retQ, e3_258, e4_258, hc290]
    · clear hm
      simp [e3_258, e4_258, hc290]
      refine gb289 _ _ ?_
      refine AWp.seqP (fun fr h => H = h ∧ fr.env 3 = AV.sc (.int .i64 a0) ∧ fr.env 9 = AV.sc (.bool (sel (ieq a0 2) true (sel (ieq a0 5) true (sel (ieq a0 11) true (ieq a0 12)))))) (fun K322 hk323 => ?_) ?_
      · refine AWp.seqK fun K325 hk326 => ?_
        refine AWp.region [] (by decide +kernel) ?_
        simp [e3_258, e4_258, hc290]
        refine hk326 _ _ ?_
        refine AWp.condK rfl fun A327 B328 ga329 gb330 => ?_
        rcases Bool.eq_false_or_eq_true (ieq a0 2) with hc331 | hc331
        · simp [e3_258, e4_258, hc290, hc331]
          refine ga329 _ _ ?_
          refine AWp.skip ?_
          try simp only [thenQ_normal]
          refine hk323 _ _ ⟨?_, ?_, ?_⟩ <;> first | rfl | simp [e3_258, e4_258, hc290, hc331]
        · simp [e3_258, e4_258, hc290, hc331]
          refine gb330 _ _ ?_
          refine AWp.seqK fun K334 hk335 => ?_
          refine AWp.region [] (by decide +kernel) ?_
          simp [e3_258, e4_258, hc290, hc331]
          refine hk335 _ _ ?_
          refine AWp.condK rfl fun A336 B337 ga338 gb339 => ?_
          rcases Bool.eq_false_or_eq_true (ieq a0 5) with hc340 | hc340
          · simp [e3_258, e4_258, hc290, hc331, hc340]
            refine ga338 _ _ ?_
            refine AWp.skip ?_
            try simp only [thenQ_normal]
            refine hk323 _ _ ⟨?_, ?_, ?_⟩ <;> first | rfl | simp [e3_258, e4_258, hc290, hc331, hc340]
          · simp [e3_258, e4_258, hc290, hc331, hc340]
            refine gb339 _ _ ?_
            refine AWp.seqK fun K343 hk344 => ?_
            refine AWp.region [] (by decide +kernel) ?_
            simp [e3_258, e4_258, hc290, hc331, hc340]
            refine hk344 _ _ ?_
            refine AWp.condK rfl fun A345 B346 ga347 gb348 => ?_
            rcases Bool.eq_false_or_eq_true (ieq a0 11) with hc349 | hc349
            · simp [e3_258, e4_258, hc290, hc331, hc340, hc349]
              refine ga347 _ _ ?_
              refine AWp.skip ?_
              try simp only [thenQ_normal]
              refine hk323 _ _ ⟨?_, ?_, ?_⟩ <;> first | rfl | simp [e3_258, e4_258, hc290, hc331, hc340, hc349]
            · simp [e3_258, e4_258, hc290, hc331, hc340, hc349]
              refine gb348 _ _ ?_
              refine AWp.region [] (by decide +kernel) ?_
              simp [e3_258, e4_258, hc290, hc331, hc340, hc349]
              refine hk323 _ _ ⟨?_, ?_, ?_⟩ <;> first | rfl | simp [e3_258, e4_258, hc290, hc331, hc340, hc349]
      · rintro fr324 h324 ⟨rfl, e3_324, e9_324⟩
        refine AWp.condK rfl fun A352 B353 ga354 gb355 => ?_
        rcases ite_some hm292 with ⟨hc356, hm357⟩ | ⟨hc356, hm358⟩
        · clear hm292
          simp [e3_324, e9_324, hc290, hc356]
          refine ga354 _ _ ?_
          refine AWp.seqK fun K359 hk360 => ?_
          refine AWp.region [] (by decide +kernel) ?_
          simp [e3_324, e9_324, hc290, hc356]
          refine hk360 _ _ ?_
          refine AWp.ret ?_
          try simp only [thenQ_ret]
          refine nr228 _ _ ?_
          try simp only [thenQ_ret]
          obtain rfl := Option.some.inj hm357
          simp [retQ, e3_324, e9_324, hc290, hc356]
        · clear hm292
          simp [e3_324, e9_324, hc290, hc356]
          refine gb355 _ _ ?_
          refine AWp.seqP (fun fr h => H = h ∧ fr.env 3 = AV.sc (.int .i64 a0) ∧ fr.env 14 = AV.sc (.bool (sel (ieq a0 3) true (sel (ieq a0 8) true (ieq a0 10))))) (fun K379 hk380 => ?_) ?_
          · refine AWp.seqK fun K382 hk383 => ?_
            refine AWp.region [] (by decide +kernel) ?_
            simp [e3_324, e9_324, hc290, hc356]
            refine hk383 _ _ ?_
            refine AWp.condK rfl fun A384 B385 ga386 gb387 => ?_
            rcases Bool.eq_false_or_eq_true (ieq a0 3) with hc388 | hc388
            · simp [e3_324, e9_324, hc290, hc356, hc388]
              refine ga386 _ _ ?_
              refine AWp.skip ?_
              try simp only [thenQ_normal]
              refine hk380 _ _ ⟨?_, ?_, ?_⟩ <;> first | rfl | simp [e3_324, e9_324, hc290, hc356, hc388]
            · simp [e3_324, e9_324, hc290, hc356, hc388]
              refine gb387 _ _ ?_
              refine AWp.seqK fun K391 hk392 => ?_
              refine AWp.region [] (by decide +kernel) ?_
              simp [e3_324, e9_324, hc290, hc356, hc388]
              refine hk392 _ _ ?_
              refine AWp.condK rfl fun A393 B394 ga395 gb396 => ?_
              rcases Bool.eq_false_or_eq_true (ieq a0 8) with hc397 | hc397
              · simp [e3_324, e9_324, hc290, hc356, hc388, hc397]
                refine ga395 _ _ ?_
                refine AWp.skip ?_
                try simp only [thenQ_normal]
                refine hk380 _ _ ⟨?_, ?_, ?_⟩ <;> first | rfl | simp [e3_324, e9_324, hc290, hc356, hc388, hc397]
              · simp [e3_324, e9_324, hc290, hc356, hc388, hc397]
                refine gb396 _ _ ?_
                refine AWp.region [] (by decide +kernel) ?_
                simp [e3_324, e9_324, hc290, hc356, hc388, hc397]
                refine hk380 _ _ ⟨?_, ?_, ?_⟩ <;> first | rfl | simp [e3_324, e9_324, hc290, hc356, hc388, hc397]
          · rintro fr381 h381 ⟨rfl, e3_381, e14_381⟩
            refine AWp.condK rfl fun A400 B401 ga402 gb403 => ?_
            rcases ite_some hm358 with ⟨hc404, hm405⟩ | ⟨hc404, hm406⟩
            · clear hm358
              simp [e3_381, e14_381, hc290, hc356, hc404]
              refine ga402 _ _ ?_
              refine AWp.seqK fun K407 hk408 => ?_
              refine AWp.region [] (by decide +kernel) ?_
              simp [e3_381, e14_381, hc290, hc356, hc404]
              refine hk408 _ _ ?_
              refine AWp.ret ?_
              try simp only [thenQ_ret]
              refine nr228 _ _ ?_
              try simp only [thenQ_ret]
              obtain rfl := Option.some.inj hm405
              simp [retQ, e3_381, e14_381, hc290, hc356, hc404]
            · clear hm358
              simp [e3_381, e14_381, hc290, hc356, hc404]
              refine gb403 _ _ ?_
              refine AWp.seqP (fun fr h => H = h ∧ fr.env 18 = AV.sc (.bool (sel (ieq a0 6) true (ieq a0 9)))) (fun K418 hk419 => ?_) ?_
              · refine AWp.seqK fun K421 hk422 => ?_
                refine AWp.region [] (by decide +kernel) ?_
                simp [e3_381, e14_381, hc290, hc356, hc404]
                refine hk422 _ _ ?_
                refine AWp.condK rfl fun A423 B424 ga425 gb426 => ?_
                rcases Bool.eq_false_or_eq_true (ieq a0 6) with hc427 | hc427
                · simp [e3_381, e14_381, hc290, hc356, hc404, hc427]
                  refine ga425 _ _ ?_
                  refine AWp.skip ?_
                  try simp only [thenQ_normal]
                  refine hk419 _ _ ⟨?_, ?_⟩ <;> first | rfl | simp [e3_381, e14_381, hc290, hc356, hc404, hc427]
                · simp [e3_381, e14_381, hc290, hc356, hc404, hc427]
                  refine gb426 _ _ ?_
                  refine AWp.region [] (by decide +kernel) ?_
                  simp [e3_381, e14_381, hc290, hc356, hc404, hc427]
                  refine hk419 _ _ ⟨?_, ?_⟩ <;> first | rfl | simp [e3_381, e14_381, hc290, hc356, hc404, hc427]
              · rintro fr420 h420 ⟨rfl, e18_420⟩
                refine AWp.condK rfl fun A430 B431 ga432 gb433 => ?_
                rcases ite_some hm406 with ⟨hc434, hm435⟩ | ⟨hc434, hm436⟩
                · clear hm406
                  simp [e18_420, hc290, hc356, hc404, hc434]
                  refine ga432 _ _ ?_
                  refine AWp.seqK fun K437 hk438 => ?_
                  refine AWp.region [] (by decide +kernel) ?_
                  simp [e18_420, hc290, hc356, hc404, hc434]
                  refine hk438 _ _ ?_
                  refine AWp.ret ?_
                  try simp only [thenQ_ret]
                  refine nr228 _ _ ?_
                  try simp only [thenQ_ret]
                  obtain rfl := Option.some.inj hm435
                  simp [retQ, e18_420, hc290, hc356, hc404, hc434]
                · clear hm406
                  simp [e18_420, hc290, hc356, hc404, hc434]
                  refine gb433 _ _ ?_
                  refine AWp.skip ?_
                  try simp only [thenQ_normal]
                  refine nn225 _ _ ?_
                  try simp only [thenQ_normal]
                  refine hk221 _ _ ?_
                  refine AWp.seqK fun K439 hk440 => ?_
                  refine AWp.region [] (by decide +kernel) ?_
                  simp [e18_420, hc290, hc356, hc404, hc434]
                  refine hk440 _ _ ?_
                  refine AWp.ret ?_
                  try simp only [thenQ_ret]
                  obtain rfl := Option.some.inj hm436
                  simp [retQ, e18_420, hc290, hc356, hc404, hc434]

theorem enters100 : entersB Tryd.prog 100 = true := by kernel_rfl
set_option maxRecDepth 20000 in
set_option maxHeartbeats 4000000 in
theorem rg_ref01_shape (T : Tabs) : ∀ (n : Nat), (∀ {H : Heap} {a0 : Ty} {r0 : Bool} (hm : ref01_shape n a0 = some r0), ACall Tryd.prog T 100 [Ty.av a0] H (AV.sc (.bool r0)) H) := by
  intro n
  induction n with
  | zero =>
    skip
    all_goals
      intros
      rename_i hm
      cases hm
  | succ n ih =>
    intro H a0 r0 hm
    rw [ref01_shape] at hm
    refine ACallP.intro (fn := Tryd.f100) Tryd.func100 rfl enters100 (Nat.le_of_ble_eq_true rfl) ?_
    refine AWp.seqK fun K1 hk2 => ?_
    refine AWp.region [] (by decide +kernel) ?_
    simp
    refine hk2 _ _ ?_
    refine AWp.seqK fun K3 hk4 => ?_
    refine AWp.region [] (by decide +kernel) ?_
    simp
    refine hk4 _ _ ?_
    obtain ⟨j92, hj93, hm94⟩ := joinB_some hm
    clear hm
    refine AWp.seqP (fun fr h => ∃ (v91 : Int) (g1_90 : Nat), H = h ∧ fr.env 1 = AV.lptr 1 g1_90 0 ∧ fr.env 3 = AV.sc (.int .i64 v91) ∧ fr.gen 1 = g1_90 ∧ fr.box 1 = some [AV.sc (.int .i64 a0.kind), AV.slice .frz (List.map Ty.av a0.args)] ∧ j92 v91 = some r0) (fun K88 hk89 => ?_) ?_
    · refine AWp.seqK fun K96 hk97 => ?_
      refine AWp.region [] (by decide +kernel) ?_
      simp
      refine hk97 _ _ ?_
      refine AWp.blockK fun Q98 nn99 ne100 nx101 nr102 => ?_
      refine AWp.seqP (fun fr h => ∃ (g1_123 : Nat), H = h ∧ fr.env 1 = AV.lptr 1 g1_123 0 ∧ fr.env 3 = AV.sc (.int .i64 0) ∧ fr.env 7 = AV.sc (.int .i64 a0.kind) ∧ fr.env 8 = AV.sc (.bool (sel (ieq a0.kind 1) true (sel (ieq a0.kind 2) true (ieq a0.kind 5)))) ∧ fr.gen 1 = g1_123 ∧ fr.box 1 = some [AV.sc (.int .i64 a0.kind), AV.slice .frz (List.map Ty.av a0.args)]) (fun K121 hk122 => ?_) ?_
      · refine AWp.seqK fun K124 hk125 => ?_
        refine AWp.region [] (by decide +kernel) ?_
        simp
        refine hk125 _ _ ?_
        refine AWp.condK rfl fun A126 B127 ga128 gb129 => ?_
        rcases Bool.eq_false_or_eq_true (ieq a0.kind 1) with hc130 | hc130
        · simp [hc130]
          refine ga128 _ _ ?_
          refine AWp.skip ?_
          try simp only [thenQ_normal]
          refine hk122 _ _ ⟨1, ?_, ?_, ?_, ?_, ?_, ?_, ?_⟩ <;> first | rfl | simp [hc130]
        · simp [hc130]
          refine gb129 _ _ ?_
          refine AWp.seqK fun K133 hk134 => ?_
          refine AWp.region [] (by decide +kernel) ?_
          simp [hc130]
          refine hk134 _ _ ?_
          refine AWp.condK rfl fun A135 B136 ga137 gb138 => ?_
          rcases Bool.eq_false_or_eq_true (ieq a0.kind 2) with hc139 | hc139
          · simp [hc130, hc139]
            refine ga137 _ _ ?_
            refine AWp.skip ?_
            try simp only [thenQ_normal]
            refine hk122 _ _ ⟨1, ?_, ?_, ?_, ?_, ?_, ?_, ?_⟩ <;> first | rfl | simp [hc130, hc139]
          · simp [hc130, hc139]
            refine gb138 _ _ ?_
            refine AWp.region [] (by decide +kernel) ?_
            simp [hc130, hc139]
            refine hk122 _ _ ⟨1, ?_, ?_, ?_, ?_, ?_, ?_, ?_⟩ <;> first | rfl | simp [hc130, hc139]
      · rintro fr123 h123 ⟨g1_123, rfl, e1_123, e3_123, e7_123, e8_123, g1e_123, b1_123⟩
        refine AWp.condK rfl fun A142 B143 ga144 gb145 => ?_
        rcases ite_some hm94 with ⟨hc146, hm147⟩ | ⟨hc146, hm148⟩
        · clear hm94
          simp [e1_123, e3_123, e7_123, e8_123, g1e_123, b1_123, hc146]
          refine ga144 _ _ ?_
          refine AWp.skip ?_
          try simp only [thenQ_normal]
          refine nn99 _ _ ?_
          try simp only [thenQ_normal]
          refine hk89 _ _ ⟨0, g1_123, ?_, ?_, ?_, ?_, ?_, hm147⟩ <;> first | rfl | simp [e1_123, e3_123, e7_123, e8_123, g1e_123, b1_123, hc146]
        · clear hm94
          simp [e1_123, e3_123, e7_123, e8_123, g1e_123, b1_123, hc146]
          refine gb145 _ _ ?_
          refine AWp.seqP (fun fr h => ∃ (g1_160 : Nat), H = h ∧ fr.env 1 = AV.lptr 1 g1_160 0 ∧ fr.env 12 = AV.sc (.bool (sel (ieq a0.kind 3) true (ieq a0.kind 4))) ∧ fr.gen 1 = g1_160 ∧ fr.box 1 = some [AV.sc (.int .i64 a0.kind), AV.slice .frz (List.map Ty.av a0.args)]) (fun K158 hk159 => ?_) ?_
          · refine AWp.seqK fun K161 hk162 => ?_
            refine AWp.region [] (by decide +kernel) ?_
            simp [e1_123, e3_123, e7_123, e8_123, g1e_123, b1_123, hc146]
            refine hk162 _ _ ?_
            refine AWp.condK rfl fun A163 B164 ga165 gb166 => ?_
            rcases Bool.eq_false_or_eq_true (ieq a0.kind 3) with hc167 | hc167
            · simp [e1_123, e3_123, e7_123, e8_123, g1e_123, b1_123, hc146, hc167]
              refine ga165 _ _ ?_
              refine AWp.skip ?_
              try simp only [thenQ_normal]
              refine hk159 _ _ ⟨g1_123, ?_, ?_, ?_, ?_, ?_⟩ <;> first | rfl | simp [e1_123, e3_123, e7_123, e8_123, g1e_123, b1_123, hc146, hc167]
            · simp [e1_123, e3_123, e7_123, e8_123, g1e_123, b1_123, hc146, hc167]
              refine gb166 _ _ ?_
              refine AWp.region [] (by decide +kernel) ?_
              simp [e1_123, e3_123, e7_123, e8_123, g1e_123, b1_123, hc146, hc167]
              refine hk159 _ _ ⟨g1_123, ?_, ?_, ?_, ?_, ?_⟩ <;> first | rfl | simp [e1_123, e3_123, e7_123, e8_123, g1e_123, b1_123, hc146, hc167]
          · rintro fr160 h160 ⟨g1_160, rfl, e1_160, e12_160, g1e_160, b1_160⟩
            refine AWp.condK rfl fun A170 B171 ga172 gb173 => ?_
            rcases ite_some hm148 with ⟨hc174, hm175⟩ | ⟨hc174, hm176⟩
            · clear hm148
              simp [e1_160, e12_160, g1e_160, b1_160, hc146, hc174]
              refine ga172 _ _ ?_
              refine AWp.region [] (by decide +kernel) ?_
              simp [e1_160, e12_160, g1e_160, b1_160, hc146, hc174]
              refine nn99 _ _ ?_
              try simp only [thenQ_normal]
              refine hk89 _ _ ⟨2, g1_160, ?_, ?_, ?_, ?_, ?_, hm175⟩ <;> first | rfl | simp [e1_160, e12_160, g1e_160, b1_160, hc146, hc174]
            · clear hm148
              simp [e1_160, e12_160, g1e_160, b1_160, hc146, hc174]
              refine gb173 _ _ ?_
              refine AWp.seqK fun K177 hk178 => ?_
              refine AWp.region [] (by decide +kernel) ?_
              simp [e1_160, e12_160, g1e_160, b1_160, hc146, hc174]
              refine hk178 _ _ ?_
              refine AWp.ret ?_
              try simp only [thenQ_ret]
              refine nr102 _ _ ?_
              try simp only [thenQ_ret]
              obtain rfl := Option.some.inj hm176
              simp [retQ, e1_160, e12_160, g1e_160, b1_160, hc146, hc174]
    · clear hm94
      rintro fr90 h90 ⟨v91, g1_90, rfl, e1_90, e3_90, g1e_90, b1_90, hm95⟩
      subst hj93
      refine AWp.seqK fun K190 hk191 => ?_
      refine AWp.seqK fun K192 hk193 => ?_
      refine AWp.region [] (by decide +kernel) ?_
      simp [e1_90, e3_90, g1e_90, b1_90]
      refine hk193 _ _ ?_
      refine AWp.condK rfl fun A194 B195 ga196 gb197 => ?_
      rcases ite_some hm95 with ⟨hc198, hm199⟩ | ⟨hc198, hm200⟩
      · clear hm95
        simp [e1_90, e3_90, g1e_90, b1_90, hc198]
        refine ga196 _ _ ?_
        refine AWp.seqK fun K201 hk202 => ?_
        refine AWp.region [] (by decide +kernel) ?_
        simp [e1_90, e3_90, g1e_90, b1_90, hc198]
        refine hk202 _ _ ?_
        refine AWp.ret ?_
        try simp only [thenQ_ret]
        obtain rfl := Option.some.inj hm199
        simp [retQ, e1_90, e3_90, g1e_90, b1_90, hc198]
      · clear hm95
        simp [e1_90, e3_90, g1e_90, b1_90, hc198]
        refine gb197 _ _ ?_
        refine AWp.skip ?_
        try simp only [thenQ_normal]
        refine hk191 _ _ ?_
        refine AWp.seqK fun K272 hk273 => ?_
        refine AWp.seqK fun K274 hk275 => ?_
        refine AWp.region [] (by decide +kernel) ?_
        simp [e1_90, e3_90, g1e_90, b1_90, hc198]
        refine hk275 _ _ ?_
        obtain ⟨hok361, hm440⟩ := chk_some hm200
        clear hm200
        obtain ⟨F343, hF344, hm441⟩ := joinB_some hm440
        clear hm440
        try dsimp only at hm441
        obtain ⟨out345, hl346, hmB347⟩ := bind1_some hm441
        clear hm441
        refine AWp.blockK fun Q352 nn353 ne354 nx355 nr356 => ?_
        refine AWp.loopF (fun n351 fr h => ∃ (i277 : Nat) (j276 : Int), H = h ∧ fr.env 21 = AV.slice .frz (List.map Ty.av a0.args) ∧ fr.env 22 = AV.sc (.int .i64 (llen a0.args)) ∧ fr.env 23 = AV.sc (.int .i64 j276) ∧ j276 = (i277 : Int) ∧ i277 + n351 = List.length a0.args ∧ forR F343 (List.drop i277 a0.args) i277 () = some out345) (List.length a0.args) ?_ ?_
        · refine ⟨0, 0, ?_, ?_, ?_, ?_, rfl, (by simp), hl346⟩ <;> first | rfl | simp [e1_90, e3_90, g1e_90, b1_90, hc198]
        · rintro n351 fr342 h342 ⟨i277, j276, rfl, e21_342, e22_342, e23_342, hj359, hi360, hl346⟩ K358 hK357
          rcases n351 with _ | n351
          · have hlt362 := ilt_notJ (l := a0.args) hj359 (by omega)
            refine AWp.seqK fun K426 hk427 => ?_
            refine AWp.region [] (by decide +kernel) ?_
            simp [e21_342, e22_342, e23_342, hlt362, hc198]
            refine hk427 _ _ ?_
            refine AWp.seqK fun K432 hk433 => ?_
            refine AWp.condK rfl fun A434 B435 ga436 gb437 => ?_
            simp [e21_342, e22_342, e23_342, hlt362, hc198]
            refine gb437 _ _ ?_
            refine AWp.exit ?_
            try simp only [thenQ_exit]
            refine ne354 _ _ ?_
            try simp only [thenQ_normal]
            rw [List.drop_eq_nil_of_le (by omega), forR_nil] at hl346
            obtain rfl := Option.some.inj hl346
            rw [sumK_inl] at hmB347
            try dsimp only at hmB347
            refine hk273 _ _ ?_
            refine AWp.seqK fun K438 hk439 => ?_
            refine AWp.region [] (by decide +kernel) ?_
            simp [e21_342, e22_342, e23_342, hlt362, hc198]
            refine hk439 _ _ ?_
            refine AWp.ret ?_
            try simp only [thenQ_ret]
            obtain rfl := Option.some.inj hmB347
            simp [retQ, e21_342, e22_342, e23_342, hlt362, hc198]
          · have hlt362 := ilt_ofJ (l := a0.args) hj359 (by omega)
            obtain ⟨x278, hdn351, hg363⟩ := drop_ltJ (l := a0.args) hj359 (by omega)
            rw [hdn351, forR_cons] at hl346
            obtain ⟨c348, hb350, hk349⟩ := bind1_some hl346
            clear hl346
            rw [hF344, ← hj359] at hb350
            try dsimp only at hb350
            refine AWp.seqK fun K364 hk365 => ?_
            refine AWp.region [] (by decide +kernel) ?_
            simp [e21_342, e22_342, e23_342, hlt362, hg363, hc198]
            refine hk365 _ _ ?_
            refine AWp.seqK fun K370 hk371 => ?_
            refine AWp.condK rfl fun A372 B373 ga374 gb375 => ?_
            simp [e21_342, e22_342, e23_342, hlt362, hg363, hc198]
            refine ga374 _ _ ?_
            refine AWp.skip ?_
            try simp only [thenQ_normal]
            refine hk371 _ _ ?_
            refine AWp.seqK fun K400 hk401 => ?_
            refine AWp.blockK fun Q402 nn403 ne404 nx405 nr406 => ?_
            refine AWp.seqK fun K407 hk408 => ?_
            refine AWp.region [] (by decide +kernel) ?_
            simp [e21_342, e22_342, e23_342, hlt362, hg363, hc198]
            refine hk408 _ _ ?_
            refine AWp.seqK fun K412 hk413 => ?_
            refine AWp.region [] (by decide +kernel) ?_
            obtain ⟨x414, hx415, hm416⟩ := bind1_some hb350
            clear hb350
            try dsimp only at hm416
            simp [e21_342, e22_342, e23_342, hlt362, hg363, hc198]
            refine CallAt.fn (ih hx415) ?_
            simp [e21_342, e22_342, e23_342, hlt362, hg363, hc198]
            refine hk413 _ _ ?_
            refine AWp.condK rfl fun A417 B418 ga419 gb420 => ?_
            rcases ite_some hm416 with ⟨hc421, hm422⟩ | ⟨hc421, hm423⟩
            · clear hm416
              simp [e21_342, e22_342, e23_342, hlt362, hg363, hc198, hc421]
              refine gb420 _ _ ?_
              refine AWp.skip ?_
              try simp only [thenQ_normal]
              refine nn403 _ _ ?_
              try simp only [thenQ_normal]
              refine hk401 _ _ ?_
              refine AWp.region [] (by decide +kernel) ?_
              simp [e21_342, e22_342, e23_342, hlt362, hg363, hc198, hc421]
              obtain rfl := Option.some.inj hm422
              rw [ctlK_next] at hk349
              refine hK357 _ _ n351 (Nat.lt_succ_self _) ⟨(i277 + 1), (iadd .i64 j276 1), ?_, ?_, ?_, ?_, (iadd_idxJ hj359 (by omega) hok361), (by omega), hk349⟩ <;> first | rfl | simp [e21_342, e22_342, e23_342, hlt362, hg363, hc198, hc421]
            · clear hm416
              simp [e21_342, e22_342, e23_342, hlt362, hg363, hc198, hc421]
              refine ga419 _ _ ?_
              refine AWp.seqK fun K424 hk425 => ?_
              refine AWp.region [] (by decide +kernel) ?_
              simp [e21_342, e22_342, e23_342, hlt362, hg363, hc198, hc421]
              refine hk425 _ _ ?_
              refine AWp.ret ?_
              try simp only [thenQ_ret]
              refine nr406 _ _ ?_
              try simp only [thenQ_ret]
              refine nr356 _ _ ?_
              try simp only [thenQ_ret]
              obtain rfl := Option.some.inj hm423
              rw [ctlK_ret] at hk349
              obtain rfl := Option.some.inj hk349
              rw [sumK_inr] at hmB347
              try dsimp only at hmB347
              obtain rfl := Option.some.inj hmB347
              simp [retQ, e21_342, e22_342, e23_342, hlt362, hg363, hc198, hc421]
theorem r_ref01_shape (T : Tabs) {H : Heap} {a0 : Ty} {r0 : Bool} {n : Nat} (hm : ref01_shape n a0 = some r0) : ACall Tryd.prog T 100 [Ty.av a0] H (AV.sc (.bool r0)) H := (rg_ref01_shape T n) hm

theorem enters101 : entersB Tryd.prog 101 = true := by kernel_rfl
set_option maxRecDepth 20000 in
set_option maxHeartbeats 4000000 in
theorem rg_ref01_size (T : Tabs) : ∀ (n : Nat), (∀ {H : Heap} {a0 : Ty} {r0 : Int} (hm : ref01_size n a0 = some r0), ACall Tryd.prog T 101 [Ty.av a0] H (AV.sc (.int .i64 r0)) H) := by
  intro n
  induction n with
  | zero =>
    skip
    all_goals
      intros
      rename_i hm
      cases hm
  | succ n ih =>
    intro H a0 r0 hm
    rw [ref01_size] at hm
    refine ACallP.intro (fn := Tryd.f101) Tryd.func101 rfl enters101 (Nat.le_of_ble_eq_true rfl) ?_
    refine AWp.seqK fun K1 hk2 => ?_
    refine AWp.region [] (by decide +kernel) ?_
    simp
    refine hk2 _ _ ?_
    refine AWp.seqK fun K3 hk4 => ?_
    refine AWp.region [] (by decide +kernel) ?_
    simp
    refine hk4 _ _ ?_
    refine AWp.seqK fun K83 hk84 => ?_
    refine AWp.seqK fun K85 hk86 => ?_
    refine AWp.region [] (by decide +kernel) ?_
    simp
    refine hk86 _ _ ?_
    obtain ⟨hok181, hm232⟩ := chk_some hm
    clear hm
    obtain ⟨F163, hF164, hm233⟩ := joinB_some hm232
    clear hm232
    try dsimp only at hm233
    obtain ⟨out165, hl166, hmB167⟩ := bind1_some hm233
    clear hm233
    refine AWp.blockK fun Q172 nn173 ne174 nx175 nr176 => ?_
    refine AWp.loopF (fun n171 fr h => ∃ (i88 : Nat) (j87 : Int) (v162 : Int), H = h ∧ fr.env 3 = AV.sc (.int .i64 v162) ∧ fr.env 7 = AV.slice .frz (List.map Ty.av a0.args) ∧ fr.env 8 = AV.sc (.int .i64 (llen a0.args)) ∧ fr.env 9 = AV.sc (.int .i64 j87) ∧ j87 = (i88 : Int) ∧ i88 + n171 = List.length a0.args ∧ forR F163 (List.drop i88 a0.args) i88 v162 = some out165) (List.length a0.args) ?_ ?_
    · refine ⟨0, 0, 1, ?_, ?_, ?_, ?_, ?_, rfl, (by simp), hl166⟩ <;> first | rfl | simp
    · rintro n171 fr161 h161 ⟨i88, j87, v162, rfl, e3_161, e7_161, e8_161, e9_161, hj179, hi180, hl166⟩ K178 hK177
      rcases n171 with _ | n171
      · have hlt182 := ilt_notJ (l := a0.args) hj179 (by omega)
        refine AWp.seqK fun K218 hk219 => ?_
        refine AWp.region [] (by decide +kernel) ?_
        simp [e3_161, e7_161, e8_161, e9_161, hlt182]
        refine hk219 _ _ ?_
        refine AWp.seqK fun K224 hk225 => ?_
        refine AWp.condK rfl fun A226 B227 ga228 gb229 => ?_
        simp [e3_161, e7_161, e8_161, e9_161, hlt182]
        refine gb229 _ _ ?_
        refine AWp.exit ?_
        try simp only [thenQ_exit]
        refine ne174 _ _ ?_
        try simp only [thenQ_normal]
        rw [List.drop_eq_nil_of_le (by omega), forR_nil] at hl166
        obtain rfl := Option.some.inj hl166
        rw [sumK_inl] at hmB167
        try dsimp only at hmB167
        refine hk84 _ _ ?_
        refine AWp.seqK fun K230 hk231 => ?_
        refine AWp.region [] (by decide +kernel) ?_
        simp [e3_161, e7_161, e8_161, e9_161, hlt182]
        refine hk231 _ _ ?_
        refine AWp.ret ?_
        try simp only [thenQ_ret]
        obtain rfl := Option.some.inj hmB167
        simp [retQ, e3_161, e7_161, e8_161, e9_161, hlt182]
      · have hlt182 := ilt_ofJ (l := a0.args) hj179 (by omega)
        obtain ⟨x89, hdn171, hg183⟩ := drop_ltJ (l := a0.args) hj179 (by omega)
        rw [hdn171, forR_cons] at hl166
        obtain ⟨c168, hb170, hk169⟩ := bind1_some hl166
        clear hl166
        rw [hF164, ← hj179] at hb170
        try dsimp only at hb170
        refine AWp.seqK fun K184 hk185 => ?_
        refine AWp.region [] (by decide +kernel) ?_
        simp [e3_161, e7_161, e8_161, e9_161, hlt182, hg183]
        refine hk185 _ _ ?_
        refine AWp.seqK fun K190 hk191 => ?_
        refine AWp.condK rfl fun A192 B193 ga194 gb195 => ?_
        simp [e3_161, e7_161, e8_161, e9_161, hlt182, hg183]
        refine ga194 _ _ ?_
        refine AWp.skip ?_
        try simp only [thenQ_normal]
        refine hk191 _ _ ?_
        refine AWp.seqK fun K206 hk207 => ?_
        refine AWp.blockK fun Q208 nn209 ne210 nx211 nr212 => ?_
        refine AWp.seqK fun K213 hk214 => ?_
        refine AWp.region [] (by decide +kernel) ?_
        simp [e3_161, e7_161, e8_161, e9_161, hlt182, hg183]
        refine hk214 _ _ ?_
        refine AWp.region [] (by decide +kernel) ?_
        obtain ⟨x215, hx216, hm217⟩ := bind1_some hb170
        clear hb170
        try dsimp only at hm217
        simp [e3_161, e7_161, e8_161, e9_161, hlt182, hg183]
        refine CallAt.fn (ih hx216) ?_
        simp [e3_161, e7_161, e8_161, e9_161, hlt182, hg183]
        refine nn209 _ _ ?_
        try simp only [thenQ_normal]
        refine hk207 _ _ ?_
        refine AWp.region [] (by decide +kernel) ?_
        simp [e3_161, e7_161, e8_161, e9_161, hlt182, hg183]
        obtain rfl := Option.some.inj hm217
        rw [ctlK_next] at hk169
        refine hK177 _ _ n171 (Nat.lt_succ_self _) ⟨(i88 + 1), (iadd .i64 j87 1), (iadd .i64 v162 x215), ?_, ?_, ?_, ?_, ?_, (iadd_idxJ hj179 (by omega) hok181), (by omega), hk169⟩ <;> first | rfl | simp [e3_161, e7_161, e8_161, e9_161, hlt182, hg183]
theorem r_ref01_size (T : Tabs) {H : Heap} {a0 : Ty} {r0 : Int} {n : Nat} (hm : ref01_size n a0 = some r0) : ACall Tryd.prog T 101 [Ty.av a0] H (AV.sc (.int .i64 r0)) H := (rg_ref01_size T n) hm

theorem enters85 : entersB Tryd.prog 85 = true := by kernel_rfl
set_option maxRecDepth 20000 in
set_option maxHeartbeats 4000000 in
theorem r_ref01_Check (T : Tabs) {H : Heap} {a0 : Ty} {r0 : Int} (hm : ref01_Check a0 = some r0) : ACall Tryd.prog T 85 [Ty.av a0] H (AV.sc (.int .i64 r0)) H := by
  rw [ref01_Check] at hm
  refine ACallP.intro (fn := Tryd.f85) Tryd.func85 rfl enters85 (Nat.le_of_ble_eq_true rfl) ?_
  refine AWp.seqK fun K1 hk2 => ?_
  refine AWp.region [] (by decide +kernel) ?_
  simp
  refine hk2 _ _ ?_
  refine AWp.seqK fun K20 hk21 => ?_
  refine AWp.seqK fun K25 hk26 => ?_
  refine AWp.region [] (by decide +kernel) ?_
  obtain ⟨x27, hx28, hm29⟩ := bind1_some hm
  clear hm
  try dsimp only at hm29
  simp
  refine CallAt.fn (r_ref01_shape T hx28) ?_
  simp
  refine hk26 _ _ ?_
  refine AWp.condK rfl fun A30 B31 ga32 gb33 => ?_
  rcases ite_some hm29 with ⟨hc34, hm35⟩ | ⟨hc34, hm36⟩
  · clear hm29
    simp [hc34]
    refine gb33 _ _ ?_
    refine AWp.skip ?_
    try simp only [thenQ_normal]
    refine hk21 _ _ ?_
    refine AWp.seqK fun K54 hk55 => ?_
    refine AWp.seqK fun K59 hk60 => ?_
    refine AWp.region [] (by decide +kernel) ?_
    obtain ⟨x61, hx62, hm63⟩ := bind1_some hm35
    clear hm35
    try dsimp only at hm63
    simp [hc34]
    refine CallAt.fn (r_ref01_size T hx62) ?_
    simp [hc34]
    refine hk60 _ _ ?_
    refine AWp.condK rfl fun A64 B65 ga66 gb67 => ?_
    rcases ite_some hm63 with ⟨hc68, hm69⟩ | ⟨hc68, hm70⟩
    · clear hm63
      simp [hc34, hc68]
      refine ga66 _ _ ?_
      refine AWp.seqK fun K71 hk72 => ?_
      refine AWp.region [] (by decide +kernel) ?_
      simp [hc34, hc68]
      refine hk72 _ _ ?_
      refine AWp.ret ?_
      try simp only [thenQ_ret]
      obtain rfl := Option.some.inj hm69
      simp [retQ, hc34, hc68]
    · clear hm63
      simp [hc34, hc68]
      refine gb67 _ _ ?_
      refine AWp.skip ?_
      try simp only [thenQ_normal]
      refine hk55 _ _ ?_
      refine AWp.seqK fun K73 hk74 => ?_
      refine AWp.region [] (by decide +kernel) ?_
      simp [hc34, hc68]
      refine hk74 _ _ ?_
      refine AWp.ret ?_
      try simp only [thenQ_ret]
      obtain rfl := Option.some.inj hm70
      simp [retQ, hc34, hc68]
  · clear hm29
    simp [hc34]
    refine ga32 _ _ ?_
    refine AWp.seqK fun K75 hk76 => ?_
    refine AWp.region [] (by decide +kernel) ?_
    simp [hc34]
    refine hk76 _ _ ?_
    refine AWp.ret ?_
    try simp only [thenQ_ret]
    obtain rfl := Option.some.inj hm36
    simp [retQ, hc34]

theorem enters88 : entersB Tryd.prog 88 = true := by kernel_rfl
set_option maxRecDepth 20000 in
set_option maxHeartbeats 4000000 in
theorem rg_ref02_Shape (T : Tabs) : ∀ (n : Nat), (∀ {H : Heap} {a0 : Tm} {r0 : Bool} (hm : ref02_Shape n a0 = some r0), ACall Tryd.prog T 88 [Tm.av a0] H (AV.sc (.bool r0)) H) := by
  intro n
  induction n with
  | zero =>
    skip
    all_goals
      intros
      rename_i hm
      cases hm
  | succ n ih =>
    intro H a0 r0 hm
    rw [ref02_Shape] at hm
    refine ACallP.intro (fn := Tryd.f88) Tryd.func88 rfl enters88 (Nat.le_of_ble_eq_true rfl) ?_
    refine AWp.seqK fun K1 hk2 => ?_
    refine AWp.region [] (by decide +kernel) ?_
    simp
    refine hk2 _ _ ?_
    refine AWp.seqK fun K44 hk45 => ?_
    obtain ⟨j62, hj63, hm64⟩ := joinB_some hm
    clear hm
    refine AWp.seqP (fun fr h => ∃ (v61 : Bool) (g1_60 : Nat), H = h ∧ fr.env 1 = AV.lptr 1 g1_60 0 ∧ fr.env 26 = AV.sc (.bool v61) ∧ fr.gen 1 = g1_60 ∧ fr.box 1 = some [AV.sc (.int .i64 a0.kind), AV.sc (.int .i64 a0.index), AV.sc (.int .i64 a0.typeF.kind), AV.slice .frz (List.map Ty.av a0.typeF.args), AV.slice .frz (List.map Tm.av a0.args)] ∧ j62 v61 = some r0) (fun K58 hk59 => ?_) ?_
    · refine AWp.regionD [] false mixed (by decide +kernel) (by decide +kernel) ?_
      obtain ⟨x66, hx67, hm68⟩ := bind1_some hm64
      clear hm64
      try dsimp only at hm68
      simp
      refine CallAtD.fn (r_ref02_args T hx67) (by simp) ?_
      rcases ite_some hm68 with ⟨hc69, hm70⟩ | ⟨hc69, hm71⟩
      · clear hm68
        simp [hc69]
        refine hk59 _ _ ⟨true, 1, ?_, ?_, ?_, ?_, ?_, hm70⟩ <;> first | rfl | simp [hc69]
      · clear hm68
        rcases ite_some hm71 with ⟨hc72, hm73⟩ | ⟨hc72, hm74⟩
        · clear hm71
          simp [hc69, hc72]
          refine hk59 _ _ ⟨true, 1, ?_, ?_, ?_, ?_, ?_, hm73⟩ <;> first | rfl | simp [hc69, hc72]
        · clear hm71
          rcases ite_some hm74 with ⟨hc75, hm76⟩ | ⟨hc75, hm77⟩
          · clear hm74
            simp [hc69, hc72, hc75]
            refine hk59 _ _ ⟨(ine a0.index 0), 1, ?_, ?_, ?_, ?_, ?_, hm76⟩ <;> first | rfl | simp [hc69, hc72, hc75]
          · clear hm74
            simp [hc69, hc72, hc75]
            refine hk59 _ _ ⟨false, 1, ?_, ?_, ?_, ?_, ?_, hm77⟩ <;> first | rfl | simp [hc69, hc72, hc75]
    · clear hm64
      rintro fr60 h60 ⟨v61, g1_60, rfl, e1_60, e26_60, g1e_60, b1_60, hm65⟩
      subst hj63
      refine AWp.condK rfl fun A78 B79 ga80 gb81 => ?_
      rcases ite_some hm65 with ⟨hc82, hm83⟩ | ⟨hc82, hm84⟩
      · clear hm65
        simp [e1_60, e26_60, g1e_60, b1_60, hc82]
        refine ga80 _ _ ?_
        refine AWp.seqK fun K85 hk86 => ?_
        refine AWp.region [] (by decide +kernel) ?_
        simp [e1_60, e26_60, g1e_60, b1_60, hc82]
        refine hk86 _ _ ?_
        refine AWp.ret ?_
        try simp only [thenQ_ret]
        obtain rfl := Option.some.inj hm83
        simp [retQ, e1_60, e26_60, g1e_60, b1_60, hc82]
      · clear hm65
        simp [e1_60, e26_60, g1e_60, b1_60, hc82]
        refine gb81 _ _ ?_
        refine AWp.skip ?_
        try simp only [thenQ_normal]
        refine hk45 _ _ ?_
        obtain ⟨j177, hj178, hm179⟩ := joinB_some hm84
        clear hm84
        refine AWp.seqP (fun fr h => ∃ (g1_176 : Nat), H = h ∧ fr.env 1 = AV.lptr 1 g1_176 0 ∧ fr.gen 1 = g1_176 ∧ fr.box 1 = some [AV.sc (.int .i64 a0.kind), AV.sc (.int .i64 a0.index), AV.sc (.int .i64 a0.typeF.kind), AV.slice .frz (List.map Ty.av a0.typeF.args), AV.slice .frz (List.map Tm.av a0.args)] ∧ j177 = some r0) (fun K174 hk175 => ?_) ?_
        · refine AWp.seqK fun K181 hk182 => ?_
          refine AWp.region [] (by decide +kernel) ?_
          simp [e1_60, e26_60, g1e_60, b1_60, hc82]
          refine hk182 _ _ ?_
          refine AWp.blockK fun Q183 nn184 ne185 nx186 nr187 => ?_
          refine AWp.seqP (fun fr h => ∃ (g1_208 : Nat), H = h ∧ fr.env 1 = AV.lptr 1 g1_208 0 ∧ fr.env 33 = AV.sc (.bool (sel (ieq a0.kind 2) true (sel (ieq a0.kind 6) true (ieq a0.kind 9)))) ∧ fr.gen 1 = g1_208 ∧ fr.box 1 = some [AV.sc (.int .i64 a0.kind), AV.sc (.int .i64 a0.index), AV.sc (.int .i64 a0.typeF.kind), AV.slice .frz (List.map Ty.av a0.typeF.args), AV.slice .frz (List.map Tm.av a0.args)]) (fun K206 hk207 => ?_) ?_
          · refine AWp.seqK fun K209 hk210 => ?_
            refine AWp.region [] (by decide +kernel) ?_
            simp [e1_60, e26_60, g1e_60, b1_60, hc82]
            refine hk210 _ _ ?_
            refine AWp.condK rfl fun A211 B212 ga213 gb214 => ?_
            rcases Bool.eq_false_or_eq_true (ieq a0.kind 2) with hc215 | hc215
            · simp [e1_60, e26_60, g1e_60, b1_60, hc82, hc215]
              refine ga213 _ _ ?_
              refine AWp.skip ?_
              try simp only [thenQ_normal]
              refine hk207 _ _ ⟨g1_60, ?_, ?_, ?_, ?_, ?_⟩ <;> first | rfl | simp [e1_60, e26_60, g1e_60, b1_60, hc82, hc215]
            · simp [e1_60, e26_60, g1e_60, b1_60, hc82, hc215]
              refine gb214 _ _ ?_
              refine AWp.seqK fun K218 hk219 => ?_
              refine AWp.region [] (by decide +kernel) ?_
              simp [e1_60, e26_60, g1e_60, b1_60, hc82, hc215]
              refine hk219 _ _ ?_
              refine AWp.condK rfl fun A220 B221 ga222 gb223 => ?_
              rcases Bool.eq_false_or_eq_true (ieq a0.kind 6) with hc224 | hc224
              · simp [e1_60, e26_60, g1e_60, b1_60, hc82, hc215, hc224]
                refine ga222 _ _ ?_
                refine AWp.skip ?_
                try simp only [thenQ_normal]
                refine hk207 _ _ ⟨g1_60, ?_, ?_, ?_, ?_, ?_⟩ <;> first | rfl | simp [e1_60, e26_60, g1e_60, b1_60, hc82, hc215, hc224]
              · simp [e1_60, e26_60, g1e_60, b1_60, hc82, hc215, hc224]
                refine gb223 _ _ ?_
                refine AWp.region [] (by decide +kernel) ?_
                simp [e1_60, e26_60, g1e_60, b1_60, hc82, hc215, hc224]
                refine hk207 _ _ ⟨g1_60, ?_, ?_, ?_, ?_, ?_⟩ <;> first | rfl | simp [e1_60, e26_60, g1e_60, b1_60, hc82, hc215, hc224]
          · rintro fr208 h208 ⟨g1_208, rfl, e1_208, e33_208, g1e_208, b1_208⟩
            refine AWp.condK rfl fun A227 B228 ga229 gb230 => ?_
            rcases ite_some hm179 with ⟨hc231, hm232⟩ | ⟨hc231, hm233⟩
            · clear hm179
              simp [e1_208, e33_208, g1e_208, b1_208, hc82, hc231]
              refine ga229 _ _ ?_
              refine AWp.seqK fun K237 hk238 => ?_
              refine AWp.region [] (by decide +kernel) ?_
              obtain ⟨x239, hx240, hm241⟩ := bind1_some hm232
              clear hm232
              try dsimp only at hm241
              simp [e1_208, e33_208, g1e_208, b1_208, hc82, hc231]
              refine CallAt.fn (r_ref01_Check T hx240) ?_
              simp [e1_208, e33_208, g1e_208, b1_208, hc82, hc231]
              refine hk238 _ _ ?_
              refine AWp.condK rfl fun A242 B243 ga244 gb245 => ?_
              rcases ite_some hm241 with ⟨hc246, hm247⟩ | ⟨hc246, hm248⟩
              · clear hm241
                simp [e1_208, e33_208, g1e_208, b1_208, hc82, hc231, hc246]
                refine ga244 _ _ ?_
                refine AWp.seqK fun K249 hk250 => ?_
                refine AWp.region [] (by decide +kernel) ?_
                simp [e1_208, e33_208, g1e_208, b1_208, hc82, hc231, hc246]
                refine hk250 _ _ ?_
                refine AWp.ret ?_
                try simp only [thenQ_ret]
                refine nr187 _ _ ?_
                try simp only [thenQ_ret]
                obtain rfl := Option.some.inj hm247
                simp [retQ, e1_208, e33_208, g1e_208, b1_208, hc82, hc231, hc246]
              · clear hm241
                simp [e1_208, e33_208, g1e_208, b1_208, hc82, hc231, hc246]
                refine gb245 _ _ ?_
                refine AWp.skip ?_
                try simp only [thenQ_normal]
                refine nn184 _ _ ?_
                try simp only [thenQ_normal]
                refine hk175 _ _ ⟨g1_208, ?_, ?_, ?_, ?_, hm248⟩ <;> first | rfl | simp [e1_208, e33_208, g1e_208, b1_208, hc82, hc231, hc246]
            · clear hm179
              simp [e1_208, e33_208, g1e_208, b1_208, hc82, hc231]
              refine gb230 _ _ ?_
              refine AWp.seqK fun K254 hk255 => ?_
              refine AWp.region [] (by decide +kernel) ?_
              obtain ⟨x256, hx257, hm258⟩ := bind1_some hm233
              clear hm233
              try dsimp only at hm258
              simp [e1_208, e33_208, g1e_208, b1_208, hc82, hc231]
              refine CallAt.fn (r_ref01_Zero T hx257) ?_
              simp [e1_208, e33_208, g1e_208, b1_208, hc82, hc231]
              refine hk255 _ _ ?_
              refine AWp.condK rfl fun A259 B260 ga261 gb262 => ?_
              rcases ite_some hm258 with ⟨hc263, hm264⟩ | ⟨hc263, hm265⟩
              · clear hm258
                simp [e1_208, e33_208, g1e_208, b1_208, hc82, hc231, hc263]
                refine gb262 _ _ ?_
                refine AWp.skip ?_
                try simp only [thenQ_normal]
                refine nn184 _ _ ?_
                try simp only [thenQ_normal]
                refine hk175 _ _ ⟨g1_208, ?_, ?_, ?_, ?_, hm264⟩ <;> first | rfl | simp [e1_208, e33_208, g1e_208, b1_208, hc82, hc231, hc263]
              · clear hm258
                simp [e1_208, e33_208, g1e_208, b1_208, hc82, hc231, hc263]
                refine ga261 _ _ ?_
                refine AWp.seqK fun K266 hk267 => ?_
                refine AWp.region [] (by decide +kernel) ?_
                simp [e1_208, e33_208, g1e_208, b1_208, hc82, hc231, hc263]
                refine hk267 _ _ ?_
                refine AWp.ret ?_
                try simp only [thenQ_ret]
                refine nr187 _ _ ?_
                try simp only [thenQ_ret]
                obtain rfl := Option.some.inj hm265
                simp [retQ, e1_208, e33_208, g1e_208, b1_208, hc82, hc231, hc263]
        · clear hm179
          rintro fr176 h176 ⟨g1_176, rfl, e1_176, g1e_176, b1_176, hm180⟩
          subst hj178
          refine AWp.seqK fun K337 hk338 => ?_
          refine AWp.seqK fun K339 hk340 => ?_
          refine AWp.region [] (by decide +kernel) ?_
          simp [e1_176, g1e_176, b1_176, hc82]
          refine hk340 _ _ ?_
          obtain ⟨hok426, hm505⟩ := chk_some hm180
          clear hm180
          obtain ⟨F408, hF409, hm506⟩ := joinB_some hm505
          clear hm505
          try dsimp only at hm506
          obtain ⟨out410, hl411, hmB412⟩ := bind1_some hm506
          clear hm506
          refine AWp.blockK fun Q417 nn418 ne419 nx420 nr421 => ?_
          refine AWp.loopF (fun n416 fr h => ∃ (i342 : Nat) (j341 : Int), H = h ∧ fr.env 42 = AV.slice .frz (List.map Tm.av a0.args) ∧ fr.env 43 = AV.sc (.int .i64 (llen a0.args)) ∧ fr.env 44 = AV.sc (.int .i64 j341) ∧ j341 = (i342 : Int) ∧ i342 + n416 = List.length a0.args ∧ forR F408 (List.drop i342 a0.args) i342 () = some out410) (List.length a0.args) ?_ ?_
          · refine ⟨0, 0, ?_, ?_, ?_, ?_, rfl, (by simp), hl411⟩ <;> first | rfl | simp [e1_176, g1e_176, b1_176, hc82]
          · rintro n416 fr407 h407 ⟨i342, j341, rfl, e42_407, e43_407, e44_407, hj424, hi425, hl411⟩ K423 hK422
            rcases n416 with _ | n416
            · have hlt427 := ilt_notJ (l := a0.args) hj424 (by omega)
              refine AWp.seqK fun K491 hk492 => ?_
              refine AWp.region [] (by decide +kernel) ?_
              simp [e42_407, e43_407, e44_407, hlt427, hc82]
              refine hk492 _ _ ?_
              refine AWp.seqK fun K497 hk498 => ?_
              refine AWp.condK rfl fun A499 B500 ga501 gb502 => ?_
              simp [e42_407, e43_407, e44_407, hlt427, hc82]
              refine gb502 _ _ ?_
              refine AWp.exit ?_
              try simp only [thenQ_exit]
              refine ne419 _ _ ?_
              try simp only [thenQ_normal]
              rw [List.drop_eq_nil_of_le (by omega), forR_nil] at hl411
              obtain rfl := Option.some.inj hl411
              rw [sumK_inl] at hmB412
              try dsimp only at hmB412
              refine hk338 _ _ ?_
              refine AWp.seqK fun K503 hk504 => ?_
              refine AWp.region [] (by decide +kernel) ?_
              simp [e42_407, e43_407, e44_407, hlt427, hc82]
              refine hk504 _ _ ?_
              refine AWp.ret ?_
              try simp only [thenQ_ret]
              obtain rfl := Option.some.inj hmB412
              simp [retQ, e42_407, e43_407, e44_407, hlt427, hc82]
            · have hlt427 := ilt_ofJ (l := a0.args) hj424 (by omega)
              obtain ⟨x343, hdn416, hg428⟩ := drop_ltJ (l := a0.args) hj424 (by omega)
              rw [hdn416, forR_cons] at hl411
              obtain ⟨c413, hb415, hk414⟩ := bind1_some hl411
              clear hl411
              rw [hF409, ← hj424] at hb415
              try dsimp only at hb415
              refine AWp.seqK fun K429 hk430 => ?_
              refine AWp.region [] (by decide +kernel) ?_
              simp [e42_407, e43_407, e44_407, hlt427, hg428, hc82]
              refine hk430 _ _ ?_
              refine AWp.seqK fun K435 hk436 => ?_
              refine AWp.condK rfl fun A437 B438 ga439 gb440 => ?_
              simp [e42_407, e43_407, e44_407, hlt427, hg428, hc82]
              refine ga439 _ _ ?_
              refine AWp.skip ?_
              try simp only [thenQ_normal]
              refine hk436 _ _ ?_
              refine AWp.seqK fun K465 hk466 => ?_
              refine AWp.blockK fun Q467 nn468 ne469 nx470 nr471 => ?_
              refine AWp.seqK fun K472 hk473 => ?_
              refine AWp.region [] (by decide +kernel) ?_
              simp [e42_407, e43_407, e44_407, hlt427, hg428, hc82]
              refine hk473 _ _ ?_
              refine AWp.seqK fun K477 hk478 => ?_
              refine AWp.region [] (by decide +kernel) ?_
              obtain ⟨x479, hx480, hm481⟩ := bind1_some hb415
              clear hb415
              try dsimp only at hm481
              simp [e42_407, e43_407, e44_407, hlt427, hg428, hc82]
              refine CallAt.fn (ih hx480) ?_
              simp [e42_407, e43_407, e44_407, hlt427, hg428, hc82]
              refine hk478 _ _ ?_
              refine AWp.condK rfl fun A482 B483 ga484 gb485 => ?_
              rcases ite_some hm481 with ⟨hc486, hm487⟩ | ⟨hc486, hm488⟩
              · clear hm481
                simp [e42_407, e43_407, e44_407, hlt427, hg428, hc82, hc486]
                refine gb485 _ _ ?_
                refine AWp.skip ?_
                try simp only [thenQ_normal]
                refine nn468 _ _ ?_
                try simp only [thenQ_normal]
                refine hk466 _ _ ?_
                refine AWp.region [] (by decide +kernel) ?_
                simp [e42_407, e43_407, e44_407, hlt427, hg428, hc82, hc486]
                obtain rfl := Option.some.inj hm487
                rw [ctlK_next] at hk414
                refine hK422 _ _ n416 (Nat.lt_succ_self _) ⟨(i342 + 1), (iadd .i64 j341 1), ?_, ?_, ?_, ?_, (iadd_idxJ hj424 (by omega) hok426), (by omega), hk414⟩ <;> first | rfl | simp [e42_407, e43_407, e44_407, hlt427, hg428, hc82, hc486]
              · clear hm481
                simp [e42_407, e43_407, e44_407, hlt427, hg428, hc82, hc486]
                refine ga484 _ _ ?_
                refine AWp.seqK fun K489 hk490 => ?_
                refine AWp.region [] (by decide +kernel) ?_
                simp [e42_407, e43_407, e44_407, hlt427, hg428, hc82, hc486]
                refine hk490 _ _ ?_
                refine AWp.ret ?_
                try simp only [thenQ_ret]
                refine nr471 _ _ ?_
                try simp only [thenQ_ret]
                refine nr421 _ _ ?_
                try simp only [thenQ_ret]
                obtain rfl := Option.some.inj hm488
                rw [ctlK_ret] at hk414
                obtain rfl := Option.some.inj hk414
                rw [sumK_inr] at hmB412
                try dsimp only at hmB412
                obtain rfl := Option.some.inj hmB412
                simp [retQ, e42_407, e43_407, e44_407, hlt427, hg428, hc82, hc486]
theorem r_ref02_Shape (T : Tabs) {H : Heap} {a0 : Tm} {r0 : Bool} {n : Nat} (hm : ref02_Shape n a0 = some r0) : ACall Tryd.prog T 88 [Tm.av a0] H (AV.sc (.bool r0)) H := (rg_ref02_Shape T n) hm

theorem enters98 : entersB Tryd.prog 98 = true := by kernel_rfl
set_option maxRecDepth 20000 in
set_option maxHeartbeats 4000000 in
theorem r_ref07_quantifier (T : Tabs) {H : Heap} {a0 : Int} {r0 : Bool} (hm : ref07_quantifier a0 = some r0) : ACall Tryd.prog T 98 [AV.sc (.int .i64 a0)] H (AV.sc (.bool r0)) H := by
  rw [ref07_quantifier] at hm
  refine ACallP.intro (fn := Tryd.f98) Tryd.func98 rfl enters98 (Nat.le_of_ble_eq_true rfl) ?_
  refine AWp.seqK fun K1 hk2 => ?_
  refine AWp.region [] (by decide +kernel) ?_
  simp
  refine hk2 _ _ ?_
  refine AWp.seqP (fun fr h => H = h ∧ fr.env 2 = AV.sc (.bool (sel (ieq a0 4) true (sel (ieq a0 5) true (sel (ieq a0 6) true (ieq a0 7)))))) (fun K12 hk13 => ?_) ?_
  · refine AWp.region [] (by decide +kernel) ?_
    rcases Bool.eq_false_or_eq_true (ieq a0 4) with hc15 | hc15
    · simp [hc15]
      refine hk13 _ _ ⟨?_, ?_⟩ <;> first | rfl | simp [hc15]
    · rcases Bool.eq_false_or_eq_true (ieq a0 5) with hc18 | hc18
      · simp [hc15, hc18]
        refine hk13 _ _ ⟨?_, ?_⟩ <;> first | rfl | simp [hc15, hc18]
      · rcases Bool.eq_false_or_eq_true (ieq a0 6) with hc21 | hc21
        · simp [hc15, hc18, hc21]
          refine hk13 _ _ ⟨?_, ?_⟩ <;> first | rfl | simp [hc15, hc18, hc21]
        · simp [hc15, hc18, hc21]
          refine hk13 _ _ ⟨?_, ?_⟩ <;> first | rfl | simp [hc15, hc18, hc21]
  · rintro fr14 h14 ⟨rfl, e2_14⟩
    refine AWp.ret ?_
    try simp only [thenQ_ret]
    obtain rfl := Option.some.inj hm
    simp [retQ, e2_14]

theorem enters81 : entersB Tryd.prog 81 = true := by kernel_rfl
set_option maxRecDepth 20000 in
set_option maxHeartbeats 4000000 in
theorem rg_ref07_Shape (T : Tabs) : ∀ (n : Nat), (∀ {H : Heap} {a0 : Fm} {r0 : Bool} (hm : ref07_Shape n a0 = some r0), ACall Tryd.prog T 81 [Fm.av a0] H (AV.sc (.bool r0)) H) := by
  intro n
  induction n with
  | zero =>
    skip
    all_goals
      intros
      rename_i hm
      cases hm
  | succ n ih =>
    intro H a0 r0 hm
    rw [ref07_Shape] at hm
    refine ACallP.intro (fn := Tryd.f81) Tryd.func81 rfl enters81 (Nat.le_of_ble_eq_true rfl) ?_
    refine AWp.seqK fun K1 hk2 => ?_
    refine AWp.region [] (by decide +kernel) ?_
    simp
    refine hk2 _ _ ?_
    refine AWp.seqK fun K216 hk217 => ?_
    refine AWp.blockK fun Q218 nn219 ne220 nx221 nr222 => ?_
    refine AWp.seqK fun K223 hk224 => ?_
    refine AWp.region [] (by decide +kernel) ?_
    simp
    refine hk224 _ _ ?_
    refine AWp.condK rfl fun A225 B226 ga227 gb228 => ?_
    rcases ite_some hm with ⟨hc229, hm230⟩ | ⟨hc229, hm231⟩
    · clear hm
      simp [hc229]
      refine ga227 _ _ ?_
      obtain ⟨j263, hj264, hm265⟩ := joinB_some hm230
      clear hm230
      refine AWp.seqP (fun fr h => ∃ (v262 : Bool), H = h ∧ fr.env 2 = AV.sc (.bool v262) ∧ j263 v262 = some r0) (fun K259 hk260 => ?_) ?_
      · refine AWp.region [] (by decide +kernel) ?_
        rcases ite_some hm265 with ⟨hc267, hm268⟩ | ⟨hc267, hm269⟩
        · clear hm265
          obtain ⟨x270, hx271, hm272⟩ := bind1_some hm268
          clear hm268
          try dsimp only at hm272
          simp [hc229, hc267]
          refine CallAt.fn (r_ref01_Zero T hx271) ?_
          rcases ite_some hm272 with ⟨hc273, hm274⟩ | ⟨hc273, hm275⟩
          · clear hm272
            rcases ite_some hm274 with ⟨hc276, hm277⟩ | ⟨hc276, hm278⟩
            · clear hm274
              obtain ⟨x279, hx280, hm281⟩ := bind1_some hm277
              clear hm277
              try dsimp only at hm281
              obtain ⟨x282, hx283, hm284⟩ := bind1_some hm281
              clear hm281
              try dsimp only at hm284
              simp [hx280, hc229, hc267, hc273, hc276]
              refine CallAt.fn (r_ref02_Shape T hx283) ?_
              rcases ite_some hm284 with ⟨hc285, hm286⟩ | ⟨hc285, hm287⟩
              · clear hm284
                obtain ⟨x288, hx289, hm290⟩ := bind1_some hm286
                clear hm286
                try dsimp only at hm290
                obtain ⟨x291, hx292, hm293⟩ := bind1_some hm290
                clear hm290
                try dsimp only at hm293
                simp [hx280, hx289, hc229, hc267, hc273, hc276, hc285]
                refine CallAt.fn (r_ref02_Shape T hx292) ?_
                simp [hx280, hx289, hc229, hc267, hc273, hc276, hc285]
                refine hk260 _ _ ⟨x291, ?_, ?_, hm293⟩ <;> first | rfl | simp [hx280, hx289, hc229, hc267, hc273, hc276, hc285]
              · clear hm284
                simp [hx280, hc229, hc267, hc273, hc276, hc285]
                refine hk260 _ _ ⟨false, ?_, ?_, hm287⟩ <;> first | rfl | simp [hx280, hc229, hc267, hc273, hc276, hc285]
            · clear hm274
              simp [hc229, hc267, hc273, hc276]
              refine hk260 _ _ ⟨false, ?_, ?_, hm278⟩ <;> first | rfl | simp [hc229, hc267, hc273, hc276]
          · clear hm272
            simp [hc229, hc267, hc273]
            refine hk260 _ _ ⟨false, ?_, ?_, hm275⟩ <;> first | rfl | simp [hc229, hc267, hc273]
        · clear hm265
          simp [hc229, hc267]
          refine hk260 _ _ ⟨false, ?_, ?_, hm269⟩ <;> first | rfl | simp [hc229, hc267]
      · clear hm265
        rintro fr261 h261 ⟨v262, rfl, e2_261, hm266⟩
        subst hj264
        refine AWp.ret ?_
        try simp only [thenQ_ret]
        refine nr222 _ _ ?_
        try simp only [thenQ_ret]
        obtain rfl := Option.some.inj hm266
        simp [retQ, e2_261, hc229]
    · clear hm
      simp [hc229]
      refine gb228 _ _ ?_
      refine AWp.seqP (fun fr h => ∃ (g1_299 : Nat), H = h ∧ fr.env 1 = AV.lptr 1 g1_299 0 ∧ fr.env 36 = AV.sc (.bool (sel (ieq a0.kind 2) true (ieq a0.kind 3))) ∧ fr.gen 1 = g1_299 ∧ fr.box 1 = some [AV.sc (.int .i64 a0.kind), AV.sc (.int .i64 a0.typeF.kind), AV.slice .frz (List.map Ty.av a0.typeF.args), AV.slice .frz (List.map Tm.av a0.terms), AV.slice .frz (List.map Fm.av a0.args)]) (fun K297 hk298 => ?_) ?_
      · refine AWp.region [] (by decide +kernel) ?_
        rcases Bool.eq_false_or_eq_true (ieq a0.kind 2) with hc300 | hc300
        · simp [hc229, hc300]
          refine hk298 _ _ ⟨1, ?_, ?_, ?_, ?_, ?_⟩ <;> first | rfl | simp [hc229, hc300]
        · simp [hc229, hc300]
          refine hk298 _ _ ⟨1, ?_, ?_, ?_, ?_, ?_⟩ <;> first | rfl | simp [hc229, hc300]
      · rintro fr299 h299 ⟨g1_299, rfl, e1_299, e36_299, g1e_299, b1_299⟩
        refine AWp.condK rfl fun A303 B304 ga305 gb306 => ?_
        rcases ite_some hm231 with ⟨hc307, hm308⟩ | ⟨hc307, hm309⟩
        · clear hm231
          simp [e1_299, e36_299, g1e_299, b1_299, hc229, hc307]
          refine ga305 _ _ ?_
          obtain ⟨j341, hj342, hm343⟩ := joinB_some hm308
          clear hm308
          refine AWp.seqP (fun fr h => ∃ (v340 : Bool), H = h ∧ fr.env 2 = AV.sc (.bool v340) ∧ j341 v340 = some r0) (fun K337 hk338 => ?_) ?_
          · refine AWp.region [] (by decide +kernel) ?_
            rcases ite_some hm343 with ⟨hc345, hm346⟩ | ⟨hc345, hm347⟩
            · clear hm343
              obtain ⟨x348, hx349, hm350⟩ := bind1_some hm346
              clear hm346
              try dsimp only at hm350
              simp [e1_299, e36_299, g1e_299, b1_299, hc229, hc307, hc345]
              refine CallAt.fn (r_ref01_Zero T hx349) ?_
              rcases ite_some hm350 with ⟨hc351, hm352⟩ | ⟨hc351, hm353⟩
              · clear hm350
                rcases ite_some hm352 with ⟨hc354, hm355⟩ | ⟨hc354, hm356⟩
                · clear hm352
                  obtain ⟨x357, hx358, hm359⟩ := bind1_some hm355
                  clear hm355
                  try dsimp only at hm359
                  obtain ⟨x360, hx361, hm362⟩ := bind1_some hm359
                  clear hm359
                  try dsimp only at hm362
                  simp [e1_299, e36_299, g1e_299, b1_299, hx358, hc229, hc307, hc345, hc351, hc354]
                  refine CallAt.fn (ih hx361) ?_
                  rcases ite_some hm362 with ⟨hc363, hm364⟩ | ⟨hc363, hm365⟩
                  · clear hm362
                    obtain ⟨x366, hx367, hm368⟩ := bind1_some hm364
                    clear hm364
                    try dsimp only at hm368
                    obtain ⟨x369, hx370, hm371⟩ := bind1_some hm368
                    clear hm368
                    try dsimp only at hm371
                    simp [e1_299, e36_299, g1e_299, b1_299, hx358, hx367, hc229, hc307, hc345, hc351, hc354, hc363]
                    refine CallAt.fn (ih hx370) ?_
                    simp [e1_299, e36_299, g1e_299, b1_299, hx358, hx367, hc229, hc307, hc345, hc351, hc354, hc363]
                    refine hk338 _ _ ⟨x369, ?_, ?_, hm371⟩ <;> first | rfl | simp [e1_299, e36_299, g1e_299, b1_299, hx358, hx367, hc229, hc307, hc345, hc351, hc354, hc363]
                  · clear hm362
                    simp [e1_299, e36_299, g1e_299, b1_299, hx358, hc229, hc307, hc345, hc351, hc354, hc363]
                    refine hk338 _ _ ⟨false, ?_, ?_, hm365⟩ <;> first | rfl | simp [e1_299, e36_299, g1e_299, b1_299, hx358, hc229, hc307, hc345, hc351, hc354, hc363]
                · clear hm352
                  simp [e1_299, e36_299, g1e_299, b1_299, hc229, hc307, hc345, hc351, hc354]
                  refine hk338 _ _ ⟨false, ?_, ?_, hm356⟩ <;> first | rfl | simp [e1_299, e36_299, g1e_299, b1_299, hc229, hc307, hc345, hc351, hc354]
              · clear hm350
                simp [e1_299, e36_299, g1e_299, b1_299, hc229, hc307, hc345, hc351]
                refine hk338 _ _ ⟨false, ?_, ?_, hm353⟩ <;> first | rfl | simp [e1_299, e36_299, g1e_299, b1_299, hc229, hc307, hc345, hc351]
            · clear hm343
              simp [e1_299, e36_299, g1e_299, b1_299, hc229, hc307, hc345]
              refine hk338 _ _ ⟨false, ?_, ?_, hm347⟩ <;> first | rfl | simp [e1_299, e36_299, g1e_299, b1_299, hc229, hc307, hc345]
          · clear hm343
            rintro fr339 h339 ⟨v340, rfl, e2_339, hm344⟩
            subst hj342
            refine AWp.ret ?_
            try simp only [thenQ_ret]
            refine nr222 _ _ ?_
            try simp only [thenQ_ret]
            obtain rfl := Option.some.inj hm344
            simp [retQ, e2_339, hc229, hc307]
        · clear hm231
          simp [e1_299, e36_299, g1e_299, b1_299, hc229, hc307]
          refine gb306 _ _ ?_
          refine AWp.seqK fun K375 hk376 => ?_
          refine AWp.region [] (by decide +kernel) ?_
          obtain ⟨x377, hx378, hm379⟩ := bind1_some hm309
          clear hm309
          try dsimp only at hm379
          simp [e1_299, e36_299, g1e_299, b1_299, hc229, hc307]
          refine CallAt.fn (r_ref07_quantifier T hx378) ?_
          simp [e1_299, e36_299, g1e_299, b1_299, hc229, hc307]
          refine hk376 _ _ ?_
          refine AWp.condK rfl fun A380 B381 ga382 gb383 => ?_
          rcases ite_some hm379 with ⟨hc384, hm385⟩ | ⟨hc384, hm386⟩
          · clear hm379
            simp [e1_299, e36_299, g1e_299, b1_299, hc229, hc307, hc384]
            refine ga382 _ _ ?_
            obtain ⟨j409, hj410, hm411⟩ := joinB_some hm385
            clear hm385
            refine AWp.seqP (fun fr h => ∃ (v408 : Bool), H = h ∧ fr.env 2 = AV.sc (.bool v408) ∧ j409 v408 = some r0) (fun K405 hk406 => ?_) ?_
            · refine AWp.region [] (by decide +kernel) ?_
              rcases ite_some hm411 with ⟨hc413, hm414⟩ | ⟨hc413, hm415⟩
              · clear hm411
                obtain ⟨x416, hx417, hm418⟩ := bind1_some hm414
                clear hm414
                try dsimp only at hm418
                simp [e1_299, e36_299, g1e_299, b1_299, hc229, hc307, hc384, hc413]
                refine CallAt.fn (r_ref01_Check T hx417) ?_
                rcases ite_some hm418 with ⟨hc419, hm420⟩ | ⟨hc419, hm421⟩
                · clear hm418
                  rcases ite_some hm420 with ⟨hc422, hm423⟩ | ⟨hc422, hm424⟩
                  · clear hm420
                    obtain ⟨x425, hx426, hm427⟩ := bind1_some hm423
                    clear hm423
                    try dsimp only at hm427
                    obtain ⟨x428, hx429, hm430⟩ := bind1_some hm427
                    clear hm427
                    try dsimp only at hm430
                    simp [e1_299, e36_299, g1e_299, b1_299, hx426, hc229, hc307, hc384, hc413, hc419, hc422]
                    refine CallAt.fn (ih hx429) ?_
                    simp [e1_299, e36_299, g1e_299, b1_299, hx426, hc229, hc307, hc384, hc413, hc419, hc422]
                    refine hk406 _ _ ⟨x428, ?_, ?_, hm430⟩ <;> first | rfl | simp [e1_299, e36_299, g1e_299, b1_299, hx426, hc229, hc307, hc384, hc413, hc419, hc422]
                  · clear hm420
                    simp [e1_299, e36_299, g1e_299, b1_299, hc229, hc307, hc384, hc413, hc419, hc422]
                    refine hk406 _ _ ⟨false, ?_, ?_, hm424⟩ <;> first | rfl | simp [e1_299, e36_299, g1e_299, b1_299, hc229, hc307, hc384, hc413, hc419, hc422]
                · clear hm418
                  simp [e1_299, e36_299, g1e_299, b1_299, hc229, hc307, hc384, hc413, hc419]
                  refine hk406 _ _ ⟨false, ?_, ?_, hm421⟩ <;> first | rfl | simp [e1_299, e36_299, g1e_299, b1_299, hc229, hc307, hc384, hc413, hc419]
              · clear hm411
                simp [e1_299, e36_299, g1e_299, b1_299, hc229, hc307, hc384, hc413]
                refine hk406 _ _ ⟨false, ?_, ?_, hm415⟩ <;> first | rfl | simp [e1_299, e36_299, g1e_299, b1_299, hc229, hc307, hc384, hc413]
            · clear hm411
              rintro fr407 h407 ⟨v408, rfl, e2_407, hm412⟩
              subst hj410
              refine AWp.ret ?_
              try simp only [thenQ_ret]
              refine nr222 _ _ ?_
              try simp only [thenQ_ret]
              obtain rfl := Option.some.inj hm412
              simp [retQ, e2_407, hc229, hc307, hc384]
          · clear hm379
            simp [e1_299, e36_299, g1e_299, b1_299, hc229, hc307, hc384]
            refine gb383 _ _ ?_
            refine AWp.skip ?_
            try simp only [thenQ_normal]
            refine nn219 _ _ ?_
            try simp only [thenQ_normal]
            refine hk217 _ _ ?_
            refine AWp.seqK fun K431 hk432 => ?_
            refine AWp.region [] (by decide +kernel) ?_
            simp [e1_299, e36_299, g1e_299, b1_299, hc229, hc307, hc384]
            refine hk432 _ _ ?_
            refine AWp.ret ?_
            try simp only [thenQ_ret]
            obtain rfl := Option.some.inj hm386
            simp [retQ, e1_299, e36_299, g1e_299, b1_299, hc229, hc307, hc384]
theorem r_ref07_Shape (T : Tabs) {H : Heap} {a0 : Fm} {r0 : Bool} {n : Nat} (hm : ref07_Shape n a0 = some r0) : ACall Tryd.prog T 81 [Fm.av a0] H (AV.sc (.bool r0)) H := (rg_ref07_Shape T n) hm

end Go.Proofs.YtdihelfnjememaaDoor
