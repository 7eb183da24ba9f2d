/- The program's functions do what the models say. -/
import Derived.Test.YtdihelfnjememaaDoorCR07
import Derived.Test.YtdihelfnjememaaDoorCM
set_option linter.unusedSimpArgs false
set_option linter.unusedVariables false
namespace Go.Proofs.YtdihelfnjememaaDoor
open Go Go.Abs Go.Mdl

theorem enters49 : entersB Tryd.prog 49 = true := by kernel_rfl
set_option maxRecDepth 20000 in
set_option maxHeartbeats 4000000 in
theorem r_ref01_Context (T : Tabs) {H : Heap} {a0 : (List Ty)} {r0 : Int} (hm : ref01_Context a0 = some r0) : ACall Tryd.prog T 49 [AV.slice .frz (List.map Ty.av a0)] H (AV.sc (.int .i64 r0)) H := by
  rw [ref01_Context] at hm
  refine ACallP.intro (fn := Tryd.f49) Tryd.func49 rfl enters49 (Nat.le_of_ble_eq_true rfl) ?_
  refine AWp.seqK fun K1 hk2 => ?_
  refine AWp.region [] (by decide +kernel) ?_
  simp
  refine hk2 _ _ ?_
  refine AWp.seqK fun K14 hk15 => ?_
  refine AWp.seqK fun K16 hk17 => ?_
  refine AWp.region [] (by decide +kernel) ?_
  simp
  refine hk17 _ _ ?_
  refine AWp.condK rfl fun A18 B19 ga20 gb21 => ?_
  rcases ite_some hm with ⟨hc22, hm23⟩ | ⟨hc22, hm24⟩
  · clear hm
    simp [hc22]
    refine ga20 _ _ ?_
    refine AWp.seqK fun K25 hk26 => ?_
    refine AWp.region [] (by decide +kernel) ?_
    simp [hc22]
    refine hk26 _ _ ?_
    refine AWp.ret ?_
    try simp only [thenQ_ret]
    obtain rfl := Option.some.inj hm23
    simp [retQ, hc22]
  · clear hm
    simp [hc22]
    refine gb21 _ _ ?_
    refine AWp.skip ?_
    try simp only [thenQ_normal]
    refine hk15 _ _ ?_
    refine AWp.seqK fun K100 hk101 => ?_
    refine AWp.seqK fun K102 hk103 => ?_
    refine AWp.region [] (by decide +kernel) ?_
    simp [hc22]
    refine hk103 _ _ ?_
    obtain ⟨hok193, hm276⟩ := chk_some hm24
    clear hm24
    obtain ⟨F175, hF176, hm277⟩ := joinB_some hm276
    clear hm276
    try dsimp only at hm277
    obtain ⟨out177, hl178, hmB179⟩ := bind1_some hm277
    clear hm277
    refine AWp.blockK fun Q184 nn185 ne186 nx187 nr188 => ?_
    refine AWp.loopF (fun n183 fr h => ∃ (i105 : Nat) (j104 : Int), H = h ∧ fr.env 9 = AV.slice .frz (List.map Ty.av a0) ∧ fr.env 10 = AV.sc (.int .i64 (llen a0)) ∧ fr.env 11 = AV.sc (.int .i64 j104) ∧ j104 = (i105 : Int) ∧ i105 + n183 = List.length a0 ∧ forR F175 (List.drop i105 a0) i105 () = some out177) (List.length a0) ?_ ?_
    · refine ⟨0, 0, ?_, ?_, ?_, ?_, rfl, (by simp), hl178⟩ <;> first | rfl | simp [hc22]
    · rintro n183 fr174 h174 ⟨i105, j104, rfl, e9_174, e10_174, e11_174, hj191, hi192, hl178⟩ K190 hK189
      rcases n183 with _ | n183
      · have hlt194 := ilt_notJ (l := a0) hj191 (by omega)
        refine AWp.seqK fun K262 hk263 => ?_
        refine AWp.region [] (by decide +kernel) ?_
        simp [e9_174, e10_174, e11_174, hlt194, hc22]
        refine hk263 _ _ ?_
        refine AWp.seqK fun K268 hk269 => ?_
        refine AWp.condK rfl fun A270 B271 ga272 gb273 => ?_
        simp [e9_174, e10_174, e11_174, hlt194, hc22]
        refine gb273 _ _ ?_
        refine AWp.exit ?_
        try simp only [thenQ_exit]
        refine ne186 _ _ ?_
        try simp only [thenQ_normal]
        rw [List.drop_eq_nil_of_le (by omega), forR_nil] at hl178
        obtain rfl := Option.some.inj hl178
        rw [sumK_inl] at hmB179
        try dsimp only at hmB179
        refine hk101 _ _ ?_
        refine AWp.seqK fun K274 hk275 => ?_
        refine AWp.region [] (by decide +kernel) ?_
        simp [e9_174, e10_174, e11_174, hlt194, hc22]
        refine hk275 _ _ ?_
        refine AWp.ret ?_
        try simp only [thenQ_ret]
        obtain rfl := Option.some.inj hmB179
        simp [retQ, e9_174, e10_174, e11_174, hlt194, hc22]
      · have hlt194 := ilt_ofJ (l := a0) hj191 (by omega)
        obtain ⟨x106, hdn183, hg195⟩ := drop_ltJ (l := a0) hj191 (by omega)
        rw [hdn183, forR_cons] at hl178
        obtain ⟨c180, hb182, hk181⟩ := bind1_some hl178
        clear hl178
        rw [hF176, ← hj191] at hb182
        try dsimp only at hb182
        refine AWp.seqK fun K196 hk197 => ?_
        refine AWp.region [] (by decide +kernel) ?_
        simp [e9_174, e10_174, e11_174, hlt194, hg195, hc22]
        refine hk197 _ _ ?_
        refine AWp.seqK fun K202 hk203 => ?_
        refine AWp.condK rfl fun A204 B205 ga206 gb207 => ?_
        simp [e9_174, e10_174, e11_174, hlt194, hg195, hc22]
        refine ga206 _ _ ?_
        refine AWp.skip ?_
        try simp only [thenQ_normal]
        refine hk203 _ _ ?_
        refine AWp.seqK fun K234 hk235 => ?_
        refine AWp.blockK fun Q236 nn237 ne238 nx239 nr240 => ?_
        refine AWp.seqK fun K241 hk242 => ?_
        refine AWp.region [] (by decide +kernel) ?_
        simp [e9_174, e10_174, e11_174, hlt194, hg195, hc22]
        refine hk242 _ _ ?_
        refine AWp.seqK fun K246 hk247 => ?_
        refine AWp.region [] (by decide +kernel) ?_
        obtain ⟨x248, hx249, hm250⟩ := bind1_some hb182
        clear hb182
        try dsimp only at hm250
        simp [e9_174, e10_174, e11_174, hlt194, hg195, hc22]
        refine CallAt.fn (r_ref01_Check T hx249) ?_
        simp [e9_174, e10_174, e11_174, hlt194, hg195, hc22]
        refine hk247 _ _ ?_
        refine AWp.seqK fun K251 hk252 => ?_
        refine AWp.region [] (by decide +kernel) ?_
        simp [e9_174, e10_174, e11_174, hlt194, hg195, hc22]
        refine hk252 _ _ ?_
        refine AWp.condK rfl fun A253 B254 ga255 gb256 => ?_
        rcases ite_some hm250 with ⟨hc257, hm258⟩ | ⟨hc257, hm259⟩
        · clear hm250
          simp [e9_174, e10_174, e11_174, hlt194, hg195, hc22, hc257]
          refine ga255 _ _ ?_
          refine AWp.seqK fun K260 hk261 => ?_
          refine AWp.region [] (by decide +kernel) ?_
          simp [e9_174, e10_174, e11_174, hlt194, hg195, hc22, hc257]
          refine hk261 _ _ ?_
          refine AWp.ret ?_
          try simp only [thenQ_ret]
          refine nr240 _ _ ?_
          try simp only [thenQ_ret]
          refine nr188 _ _ ?_
          try simp only [thenQ_ret]
          obtain rfl := Option.some.inj hm258
          rw [ctlK_ret] at hk181
          obtain rfl := Option.some.inj hk181
          rw [sumK_inr] at hmB179
          try dsimp only at hmB179
          obtain rfl := Option.some.inj hmB179
          simp [retQ, e9_174, e10_174, e11_174, hlt194, hg195, hc22, hc257]
        · clear hm250
          simp [e9_174, e10_174, e11_174, hlt194, hg195, hc22, hc257]
          refine gb256 _ _ ?_
          refine AWp.skip ?_
          try simp only [thenQ_normal]
          refine nn237 _ _ ?_
          try simp only [thenQ_normal]
          refine hk235 _ _ ?_
          refine AWp.region [] (by decide +kernel) ?_
          simp [e9_174, e10_174, e11_174, hlt194, hg195, hc22, hc257]
          obtain rfl := Option.some.inj hm259
          rw [ctlK_next] at hk181
          refine hK189 _ _ n183 (Nat.lt_succ_self _) ⟨(i105 + 1), (iadd .i64 j104 1), ?_, ?_, ?_, ?_, (iadd_idxJ hj191 (by omega) hok193), (by omega), hk181⟩ <;> first | rfl | simp [e9_174, e10_174, e11_174, hlt194, hg195, hc22, hc257]

theorem enters20 : entersB Tryd.prog 20 = true := by kernel_rfl
set_option maxRecDepth 20000 in
set_option maxHeartbeats 4000000 in
theorem r_ref23_Context (T : Tabs) {H : Heap} {a0 : Sq} {r0 : (List Ty)} {r1 : Int} (hm : ref23_Context a0 = some (r0, r1)) : ACall Tryd.prog T 20 [Sq.av a0] H (AV.tuple [AV.slice .frz (List.map Ty.av r0), AV.sc (.int .i64 r1)]) H := by
  rw [ref23_Context] at hm
  refine ACallP.intro (fn := Tryd.f20) Tryd.func20 rfl enters20 (Nat.le_of_ble_eq_true rfl) ?_
  refine AWp.seqK fun K1 hk2 => ?_
  refine AWp.region [] (by decide +kernel) ?_
  simp
  refine hk2 _ _ ?_
  refine AWp.seqK fun K22 hk23 => ?_
  refine AWp.seqK fun K27 hk28 => ?_
  refine AWp.region [] (by decide +kernel) ?_
  obtain ⟨x29, hx30, hm31⟩ := bind1_some hm
  clear hm
  try dsimp only at hm31
  simp
  refine CallAt.fn (r_ref01_Context T hx30) ?_
  simp
  refine hk28 _ _ ?_
  refine AWp.seqK fun K32 hk33 => ?_
  refine AWp.region [] (by decide +kernel) ?_
  simp
  refine hk33 _ _ ?_
  refine AWp.condK rfl fun A34 B35 ga36 gb37 => ?_
  rcases ite_some hm31 with ⟨hc38, hm39⟩ | ⟨hc38, hm40⟩
  · clear hm31
    simp [hc38]
    refine ga36 _ _ ?_
    refine AWp.seqK fun K41 hk42 => ?_
    refine AWp.region [] (by decide +kernel) ?_
    simp [hc38]
    refine hk42 _ _ ?_
    refine AWp.ret ?_
    try simp only [thenQ_ret]
    simp only [Option.some.injEq, Prod.mk.injEq] at hm39
    obtain ⟨rfl, rfl⟩ := hm39
    simp [retQ, hc38]
  · clear hm31
    simp [hc38]
    refine gb37 _ _ ?_
    refine AWp.skip ?_
    try simp only [thenQ_normal]
    refine hk23 _ _ ?_
    refine AWp.seqK fun K54 hk55 => ?_
    refine AWp.seqK fun K56 hk57 => ?_
    refine AWp.region [] (by decide +kernel) ?_
    simp [hc38]
    refine hk57 _ _ ?_
    refine AWp.condK rfl fun A58 B59 ga60 gb61 => ?_
    rcases ite_some hm40 with ⟨hc62, hm63⟩ | ⟨hc62, hm64⟩
    · clear hm40
      simp [hc38, hc62]
      refine ga60 _ _ ?_
      refine AWp.seqK fun K65 hk66 => ?_
      refine AWp.region [] (by decide +kernel) ?_
      simp [hc38, hc62]
      refine hk66 _ _ ?_
      refine AWp.ret ?_
      try simp only [thenQ_ret]
      simp only [Option.some.injEq, Prod.mk.injEq] at hm63
      obtain ⟨rfl, rfl⟩ := hm63
      simp [retQ, hc38, hc62]
    · clear hm40
      simp [hc38, hc62]
      refine gb61 _ _ ?_
      refine AWp.skip ?_
      try simp only [thenQ_normal]
      refine hk55 _ _ ?_
      refine AWp.seqK fun K69 hk70 => ?_
      refine AWp.region [] (by decide +kernel) ?_
      obtain ⟨ha71, hm72⟩ := chk_some hm64
      clear hm64
      simp [hc38, hc62]
      refine AppAt.own (f := Ty.av) [] a0.types (OwnT.full (D := [])) ap23 (by intro x; simp) ha71 (by first | rfl | simp) (by first | rfl | simp) ?_
      simp [hc38, hc62]
      refine hk70 _ _ ?_
      refine AWp.seqK fun K386 hk387 => ?_
      refine AWp.seqK fun K388 hk389 => ?_
      refine AWp.region [] (by decide +kernel) ?_
      simp [hc38, hc62]
      refine hk389 _ _ ?_
      obtain ⟨F701, hF702, hm873⟩ := joinB_some hm72
      clear hm72
      try dsimp only at hm873
      obtain ⟨out703, hl704, hmB705⟩ := bind1_some hm873
      clear hm873
      refine AWp.blockK fun Q710 nn711 ne712 nx713 nr714 => ?_
      refine AWp.loopF (fun n709 fr h => ∃ (v699 : (List Ty)) (v700 : Int) (tg0_698 : Tag) (g1_698 : Nat), H = h ∧ fr.env 1 = AV.lptr 1 g1_698 0 ∧ fr.env 5 = AV.slice tg0_698 (List.map Ty.av v699) ∧ fr.env 6 = AV.sc (.int .i64 v700) ∧ fr.gen 1 = g1_698 ∧ fr.box 1 = some [AV.slice .frz (List.map Ty.av a0.types), AV.slice .frz (List.map Fm.av a0.hyps)] ∧ OwnT fr.tab fr.tgen [21, 50] tg0_698 (List.length v699) ∧ loopN F701 n709 (v699, v700) = some out703) FU ?_ ?_
      · refine ⟨(lapp [] a0.types), 0, (.loc 21 1), 1, ?_, ?_, ?_, ?_, ?_, ?_, (OwnT.mono (D := [21]) (OwnT.new (D := [21]) (d := 21) (by decide)) (by decide)), hl704⟩ <;> first | rfl | simp [hc38, hc62]
      · rintro n709 fr698 h698 ⟨v699, v700, tg0_698, g1_698, rfl, e1_698, e5_698, e6_698, g1e_698, b1_698, o0_698, hl704⟩ K716 hK715
        rcases n709 with _ | n709
        · rw [loopN_zero] at hl704
          cases hl704
        · rw [loopN_succ] at hl704
          obtain ⟨c706, hb708, hk707⟩ := bind1_some hl704
          clear hl704
          rw [hF702] at hb708
          try dsimp only at hb708
          rw [un2_mk] at hb708
          try dsimp only at hb708
          refine AWp.seqK fun K728 hk729 => ?_
          refine AWp.seqK fun K730 hk731 => ?_
          refine AWp.region [] (by decide +kernel) ?_
          simp [e1_698, e5_698, e6_698, g1e_698, b1_698, hc38, hc62]
          refine hk731 _ _ ?_
          refine AWp.condK rfl fun A732 B733 ga734 gb735 => ?_
          rcases ite_some hb708 with ⟨hc736, hm737⟩ | ⟨hc736, hm738⟩
          · clear hb708
            simp [e1_698, e5_698, e6_698, g1e_698, b1_698, hc38, hc62, hc736]
            refine ga734 _ _ ?_
            refine AWp.skip ?_
            try simp only [thenQ_normal]
            refine hk729 _ _ ?_
            obtain ⟨j805, hj806, hm807⟩ := joinB_some hm737
            clear hm737
            refine AWp.seqP (fun fr h => ∃ (v804 : (List Ty)) (tg0_803 : Tag) (g1_803 : Nat), H = h ∧ fr.env 1 = AV.lptr 1 g1_803 0 ∧ fr.env 5 = AV.slice tg0_803 (List.map Ty.av v804) ∧ fr.env 6 = AV.sc (.int .i64 v700) ∧ fr.gen 1 = g1_803 ∧ fr.box 1 = some [AV.slice .frz (List.map Ty.av a0.types), AV.slice .frz (List.map Fm.av a0.hyps)] ∧ OwnT fr.tab fr.tgen [21, 50] tg0_803 (List.length v804) ∧ j805 v804 = some c706) (fun K801 hk802 => ?_) ?_
            · refine AWp.blockK fun Q809 nn810 ne811 nx812 nr813 => ?_
              refine AWp.seqK fun K821 hk822 => ?_
              refine AWp.region [] (by decide +kernel) ?_
              obtain ⟨x823, hx824, hm825⟩ := bind1_some hm807
              clear hm807
              try dsimp only at hm825
              obtain ⟨x826, x827, hx828, hm829⟩ := bind2_some hm825
              clear hm825
              try dsimp only at hm829
              simp [e1_698, e5_698, e6_698, g1e_698, b1_698, hx824, hc38, hc62, hc736]
              refine CallAt.fn (r_ref23_Type T hx828) ?_
              simp [e1_698, e5_698, e6_698, g1e_698, b1_698, hx824, hc38, hc62, hc736]
              refine hk822 _ _ ?_
              refine AWp.seqK fun K841 hk842 => ?_
              refine AWp.seqK fun K843 hk844 => ?_
              refine AWp.region [] (by decide +kernel) ?_
              simp [e1_698, e5_698, e6_698, g1e_698, b1_698, hx824, hc38, hc62, hc736]
              refine hk844 _ _ ?_
              refine AWp.condK rfl fun A845 B846 ga847 gb848 => ?_
              rcases ite_some hm829 with ⟨hc849, hm850⟩ | ⟨hc849, hm851⟩
              · clear hm829
                simp [e1_698, e5_698, e6_698, g1e_698, b1_698, hx824, hc38, hc62, hc736, hc849]
                refine ga847 _ _ ?_
                refine AWp.seqK fun K852 hk853 => ?_
                refine AWp.region [] (by decide +kernel) ?_
                simp [e1_698, e5_698, e6_698, g1e_698, b1_698, hx824, hc38, hc62, hc736, hc849]
                refine hk853 _ _ ?_
                refine AWp.ret ?_
                try simp only [thenQ_ret]
                refine nr813 _ _ ?_
                try simp only [thenQ_ret]
                refine nr714 _ _ ?_
                try simp only [thenQ_ret]
                obtain rfl := Option.some.inj hm850
                rw [ctlK_ret] at hk707
                obtain rfl := Option.some.inj hk707
                rw [sumK_inr] at hmB705
                try dsimp only at hmB705
                simp only [Option.some.injEq, Prod.mk.injEq] at hmB705
                obtain ⟨rfl, rfl⟩ := hmB705
                simp [retQ, e1_698, e5_698, e6_698, g1e_698, b1_698, hx824, hc38, hc62, hc736, hc849]
              · clear hm829
                simp [e1_698, e5_698, e6_698, g1e_698, b1_698, hx824, hc38, hc62, hc736, hc849]
                refine gb848 _ _ ?_
                refine AWp.skip ?_
                try simp only [thenQ_normal]
                refine hk842 _ _ ?_
                refine AWp.seqK fun K857 hk858 => ?_
                refine AWp.region [] (by decide +kernel) ?_
                obtain ⟨x859, hx860, hm861⟩ := bind1_some hm851
                clear hm851
                try dsimp only at hm861
                simp [e1_698, e5_698, e6_698, g1e_698, b1_698, hx824, hc38, hc62, hc736, hc849]
                refine CallAt.fn (r_ref23_Has T hx860) ?_
                simp [e1_698, e5_698, e6_698, g1e_698, b1_698, hx824, hc38, hc62, hc736, hc849]
                refine hk858 _ _ ?_
                refine AWp.condK rfl fun A862 B863 ga864 gb865 => ?_
                rcases ite_some hm861 with ⟨hc866, hm867⟩ | ⟨hc866, hm868⟩
                · clear hm861
                  simp [e1_698, e5_698, e6_698, g1e_698, b1_698, hx824, hc38, hc62, hc736, hc849, hc866]
                  refine ga864 _ _ ?_
                  refine AWp.region [] (by decide +kernel) ?_
                  obtain ⟨ha869, hm870⟩ := chk_some hm867
                  clear hm867
                  simp [e1_698, e5_698, e6_698, g1e_698, b1_698, hx824, hc38, hc62, hc736, hc849, hc866]
                  refine AppAt.own (f := Ty.av) v699 [x826] o0_698 ap23 (by intro x; simp) ha869 (by first | rfl | simp) (by first | rfl | simp) ?_
                  simp [e1_698, e5_698, e6_698, g1e_698, b1_698, hx824, hc38, hc62, hc736, hc849, hc866]
                  refine nn810 _ _ ?_
                  try simp only [thenQ_normal]
                  refine hk802 _ _ ⟨(lapp v699 [x826]), (.loc 50 (fr698.tgen 50 + 1)), g1_698, ?_, ?_, ?_, ?_, ?_, ?_, (OwnT.mono (D := [50]) (OwnT.new (D := [50]) (d := 50) (by decide)) (by decide)), hm870⟩ <;> first | rfl | simp [e1_698, e5_698, e6_698, g1e_698, b1_698, hx824, hc38, hc62, hc736, hc849, hc866]
                · clear hm861
                  simp [e1_698, e5_698, e6_698, g1e_698, b1_698, hx824, hc38, hc62, hc736, hc849, hc866]
                  refine gb865 _ _ ?_
                  refine AWp.skip ?_
                  try simp only [thenQ_normal]
                  refine nn810 _ _ ?_
                  try simp only [thenQ_normal]
                  refine hk802 _ _ ⟨v699, tg0_698, g1_698, ?_, ?_, ?_, ?_, ?_, ?_, (OwnT.mono (D := [21, 50]) o0_698 (by decide)), hm868⟩ <;> first | rfl | simp [e1_698, e5_698, e6_698, g1e_698, b1_698, hx824, hc38, hc62, hc736, hc849, hc866]
            · clear hm807
              rintro fr803 h803 ⟨v804, tg0_803, g1_803, rfl, e1_803, e5_803, e6_803, g1e_803, b1_803, o0_803, hm808⟩
              subst hj806
              refine AWp.region [] (by decide +kernel) ?_
              simp [e1_803, e5_803, e6_803, g1e_803, b1_803, hc38, hc62, hc736]
              obtain rfl := Option.some.inj hm808
              rw [ctlK_next] at hk707
              refine hK715 _ _ n709 (Nat.lt_succ_self _) ⟨v804, (iadd .i64 v700 1), tg0_803, g1_803, ?_, ?_, ?_, ?_, ?_, ?_, (OwnT.mono (D := [21, 50]) o0_803 (by decide)), hk707⟩ <;> first | rfl | simp [e1_803, e5_803, e6_803, g1e_803, b1_803, hc38, hc62, hc736]
          · clear hb708
            simp [e1_698, e5_698, e6_698, g1e_698, b1_698, hc38, hc62, hc736]
            refine gb735 _ _ ?_
            refine AWp.exit ?_
            try simp only [thenQ_exit]
            refine ne712 _ _ ?_
            try simp only [thenQ_normal]
            obtain rfl := Option.some.inj hm738
            rw [ctlK_brk] at hk707
            obtain rfl := Option.some.inj hk707
            rw [sumK_inl, un2_mk] at hmB705
            try dsimp only at hmB705
            refine hk387 _ _ ?_
            refine AWp.seqK fun K871 hk872 => ?_
            refine AWp.region [] (by decide +kernel) ?_
            simp [e1_698, e5_698, e6_698, g1e_698, b1_698, hc38, hc62, hc736]
            refine hk872 _ _ ?_
            refine AWp.ret ?_
            try simp only [thenQ_ret]
            simp only [Option.some.injEq, Prod.mk.injEq] at hmB705
            obtain ⟨rfl, rfl⟩ := hmB705
            simp [retQ, e1_698, e5_698, e6_698, g1e_698, b1_698, hc38, hc62, hc736]

theorem enters22 : entersB Tryd.prog 22 = true := by kernel_rfl
set_option maxRecDepth 20000 in
set_option maxHeartbeats 4000000 in
theorem r_ref23_Places (T : Tabs) {H : Heap} {a0 : Sq} {r0 : (List Int)} {r1 : Int} (hm : ref23_Places a0 = some (r0, r1)) : ACall Tryd.prog T 22 [Sq.av a0] H (AV.tuple [AV.slice .frz (List.map (fun n => AV.sc (Value.int .i64 n)) r0), AV.sc (.int .i64 r1)]) H := by
  rw [ref23_Places] at hm
  refine ACallP.intro (fn := Tryd.f22) Tryd.func22 rfl enters22 (Nat.le_of_ble_eq_true rfl) ?_
  refine AWp.seqK fun K1 hk2 => ?_
  refine AWp.region [] (by decide +kernel) ?_
  simp
  refine hk2 _ _ ?_
  refine AWp.seqK fun K24 hk25 => ?_
  refine AWp.seqK fun K30 hk31 => ?_
  refine AWp.region [] (by decide +kernel) ?_
  obtain ⟨x32, x33, hx34, hm35⟩ := bind2_some hm
  clear hm
  try dsimp only at hm35
  simp
  refine CallAt.fn (r_ref23_Context T hx34) ?_
  simp
  refine hk31 _ _ ?_
  refine AWp.seqK fun K36 hk37 => ?_
  refine AWp.region [] (by decide +kernel) ?_
  simp
  refine hk37 _ _ ?_
  refine AWp.condK rfl fun A38 B39 ga40 gb41 => ?_
  rcases ite_some hm35 with ⟨hc42, hm43⟩ | ⟨hc42, hm44⟩
  · clear hm35
    simp [hc42]
    refine ga40 _ _ ?_
    refine AWp.seqK fun K45 hk46 => ?_
    refine AWp.region [] (by decide +kernel) ?_
    simp [hc42]
    refine hk46 _ _ ?_
    refine AWp.ret ?_
    try simp only [thenQ_ret]
    simp only [Option.some.injEq, Prod.mk.injEq] at hm43
    obtain ⟨rfl, rfl⟩ := hm43
    simp [retQ, hc42]
  · clear hm35
    simp [hc42]
    refine gb41 _ _ ?_
    refine AWp.skip ?_
    try simp only [thenQ_normal]
    refine hk25 _ _ ?_
    refine AWp.seqK fun K47 hk48 => ?_
    refine AWp.region [] (by decide +kernel) ?_
    simp [hc42]
    refine hk48 _ _ ?_
    refine AWp.seqK fun K49 hk50 => ?_
    refine AWp.region [] (by decide +kernel) ?_
    simp [hc42]
    refine hk50 _ _ ?_
    refine AWp.seqK fun K256 hk257 => ?_
    refine AWp.seqK fun K258 hk259 => ?_
    refine AWp.region [] (by decide +kernel) ?_
    simp [hc42]
    refine hk259 _ _ ?_
    obtain ⟨F463, hF464, hm580⟩ := joinB_some hm44
    clear hm44
    try dsimp only at hm580
    obtain ⟨out465, hl466, hmB467⟩ := bind1_some hm580
    clear hm580
    refine AWp.blockK fun Q472 nn473 ne474 nx475 nr476 => ?_
    refine AWp.loopF (fun n471 fr h => ∃ (v460 : (List Int)) (v461 : Int) (v462 : Int) (tg0_459 : Tag) (g1_459 : Nat), H = h ∧ fr.env 1 = AV.lptr 1 g1_459 0 ∧ fr.env 6 = AV.slice tg0_459 (List.map (fun n => AV.sc (Value.int .i64 n)) v460) ∧ fr.env 7 = AV.sc (.int .i64 v461) ∧ fr.env 8 = AV.sc (.int .i64 v462) ∧ fr.gen 1 = g1_459 ∧ fr.box 1 = some [AV.slice .frz (List.map Ty.av a0.types), AV.slice .frz (List.map Fm.av a0.hyps)] ∧ OwnT fr.tab fr.tgen [36, 41] tg0_459 (List.length v460) ∧ loopN F463 n471 (v460, v461, v462) = some out465) FU ?_ ?_
    · refine ⟨[], (llen a0.types), 0, .full, 1, ?_, ?_, ?_, ?_, ?_, ?_, ?_, OwnT.full, hl466⟩ <;> first | rfl | simp [hc42]
    · rintro n471 fr459 h459 ⟨v460, v461, v462, tg0_459, g1_459, rfl, e1_459, e6_459, e7_459, e8_459, g1e_459, b1_459, o0_459, hl466⟩ K478 hK477
      rcases n471 with _ | n471
      · rw [loopN_zero] at hl466
        cases hl466
      · rw [loopN_succ] at hl466
        obtain ⟨c468, hb470, hk469⟩ := bind1_some hl466
        clear hl466
        rw [hF464] at hb470
        try dsimp only at hb470
        rw [un3_mk] at hb470
        try dsimp only at hb470
        refine AWp.seqK fun K490 hk491 => ?_
        refine AWp.seqK fun K492 hk493 => ?_
        refine AWp.region [] (by decide +kernel) ?_
        simp [e1_459, e6_459, e7_459, e8_459, g1e_459, b1_459, hc42]
        refine hk493 _ _ ?_
        refine AWp.condK rfl fun A494 B495 ga496 gb497 => ?_
        rcases ite_some hb470 with ⟨hc498, hm499⟩ | ⟨hc498, hm500⟩
        · clear hb470
          simp [e1_459, e6_459, e7_459, e8_459, g1e_459, b1_459, hc42, hc498]
          refine ga496 _ _ ?_
          refine AWp.skip ?_
          try simp only [thenQ_normal]
          refine hk491 _ _ ?_
          obtain ⟨j540, hj541, hm542⟩ := joinB_some hm499
          clear hm499
          refine AWp.seqP (fun fr h => ∃ (v538 : (List Int)) (v539 : Int) (tg0_537 : Tag) (g1_537 : Nat), H = h ∧ fr.env 1 = AV.lptr 1 g1_537 0 ∧ fr.env 6 = AV.slice tg0_537 (List.map (fun n => AV.sc (Value.int .i64 n)) v538) ∧ fr.env 7 = AV.sc (.int .i64 v539) ∧ fr.env 8 = AV.sc (.int .i64 v462) ∧ fr.gen 1 = g1_537 ∧ fr.box 1 = some [AV.slice .frz (List.map Ty.av a0.types), AV.slice .frz (List.map Fm.av a0.hyps)] ∧ OwnT fr.tab fr.tgen [36, 41] tg0_537 (List.length v538) ∧ j540 v538 v539 = some c468) (fun K535 hk536 => ?_) ?_
          · refine AWp.blockK fun Q544 nn545 ne546 nx547 nr548 => ?_
            refine AWp.seqK fun K555 hk556 => ?_
            refine AWp.region [] (by decide +kernel) ?_
            obtain ⟨x557, hx558, hm559⟩ := bind1_some hm542
            clear hm542
            try dsimp only at hm559
            obtain ⟨x560, hx561, hm562⟩ := bind1_some hm559
            clear hm559
            try dsimp only at hm562
            simp [e1_459, e6_459, e7_459, e8_459, g1e_459, b1_459, hx558, hc42, hc498]
            refine CallAt.fn (r_ref23_Has T hx561) ?_
            simp [e1_459, e6_459, e7_459, e8_459, g1e_459, b1_459, hx558, hc42, hc498]
            refine hk556 _ _ ?_
            refine AWp.condK rfl fun A563 B564 ga565 gb566 => ?_
            rcases ite_some hm562 with ⟨hc567, hm568⟩ | ⟨hc567, hm569⟩
            · clear hm562
              simp [e1_459, e6_459, e7_459, e8_459, g1e_459, b1_459, hx558, hc42, hc498, hc567]
              refine ga565 _ _ ?_
              refine AWp.seqK fun K572 hk573 => ?_
              refine AWp.region [] (by decide +kernel) ?_
              obtain ⟨ha574, hm575⟩ := chk_some hm568
              clear hm568
              simp [e1_459, e6_459, e7_459, e8_459, g1e_459, b1_459, hx558, hc42, hc498, hc567]
              refine AppAt.own (f := (fun n => AV.sc (Value.int .i64 n))) v460 [v461] o0_459 ap22 (by intro x; simp) ha574 (by first | rfl | simp) (by first | rfl | simp) ?_
              simp [e1_459, e6_459, e7_459, e8_459, g1e_459, b1_459, hx558, hc42, hc498, hc567]
              refine hk573 _ _ ?_
              refine AWp.region [] (by decide +kernel) ?_
              simp [e1_459, e6_459, e7_459, e8_459, g1e_459, b1_459, hx558, hc42, hc498, hc567]
              refine nn545 _ _ ?_
              try simp only [thenQ_normal]
              refine hk536 _ _ ⟨(lapp v460 [v461]), (iadd .i64 v461 1), (.loc 36 (fr459.tgen 36 + 1)), g1_459, ?_, ?_, ?_, ?_, ?_, ?_, ?_, (OwnT.mono (D := [36]) (OwnT.new (D := [36]) (d := 36) (by decide)) (by decide)), hm575⟩ <;> first | rfl | simp [e1_459, e6_459, e7_459, e8_459, g1e_459, b1_459, hx558, hc42, hc498, hc567]
            · clear hm562
              simp [e1_459, e6_459, e7_459, e8_459, g1e_459, b1_459, hx558, hc42, hc498, hc567]
              refine gb566 _ _ ?_
              refine AWp.region [] (by decide +kernel) ?_
              obtain ⟨ha576, hm577⟩ := chk_some hm569
              clear hm569
              simp [e1_459, e6_459, e7_459, e8_459, g1e_459, b1_459, hx558, hc42, hc498, hc567]
              refine AppAt.own (f := (fun n => AV.sc (Value.int .i64 n))) v460 [(-1)] o0_459 ap22 (by intro x; simp) ha576 (by first | rfl | simp) (by first | rfl | simp) ?_
              simp [e1_459, e6_459, e7_459, e8_459, g1e_459, b1_459, hx558, hc42, hc498, hc567]
              refine nn545 _ _ ?_
              try simp only [thenQ_normal]
              refine hk536 _ _ ⟨(lapp v460 [(-1)]), v461, (.loc 41 (fr459.tgen 41 + 1)), g1_459, ?_, ?_, ?_, ?_, ?_, ?_, ?_, (OwnT.mono (D := [41]) (OwnT.new (D := [41]) (d := 41) (by decide)) (by decide)), hm577⟩ <;> first | rfl | simp [e1_459, e6_459, e7_459, e8_459, g1e_459, b1_459, hx558, hc42, hc498, hc567]
          · clear hm542
            rintro fr537 h537 ⟨v538, v539, tg0_537, g1_537, rfl, e1_537, e6_537, e7_537, e8_537, g1e_537, b1_537, o0_537, hm543⟩
            subst hj541
            refine AWp.region [] (by decide +kernel) ?_
            simp [e1_537, e6_537, e7_537, e8_537, g1e_537, b1_537, hc42, hc498]
            obtain rfl := Option.some.inj hm543
            rw [ctlK_next] at hk469
            refine hK477 _ _ n471 (Nat.lt_succ_self _) ⟨v538, v539, (iadd .i64 v462 1), tg0_537, g1_537, ?_, ?_, ?_, ?_, ?_, ?_, ?_, (OwnT.mono (D := [36, 41]) o0_537 (by decide)), hk469⟩ <;> first | rfl | simp [e1_537, e6_537, e7_537, e8_537, g1e_537, b1_537, hc42, hc498]
        · clear hb470
          simp [e1_459, e6_459, e7_459, e8_459, g1e_459, b1_459, hc42, hc498]
          refine gb497 _ _ ?_
          refine AWp.exit ?_
          try simp only [thenQ_exit]
          refine ne474 _ _ ?_
          try simp only [thenQ_normal]
          obtain rfl := Option.some.inj hm500
          rw [ctlK_brk] at hk469
          obtain rfl := Option.some.inj hk469
          rw [sumK_inl, un3_mk] at hmB467
          try dsimp only at hmB467
          refine hk257 _ _ ?_
          refine AWp.seqK fun K578 hk579 => ?_
          refine AWp.region [] (by decide +kernel) ?_
          simp [e1_459, e6_459, e7_459, e8_459, g1e_459, b1_459, hc42, hc498]
          refine hk579 _ _ ?_
          refine AWp.ret ?_
          try simp only [thenQ_ret]
          simp only [Option.some.injEq, Prod.mk.injEq] at hmB467
          obtain ⟨rfl, rfl⟩ := hmB467
          simp [retQ, e1_459, e6_459, e7_459, e8_459, g1e_459, b1_459, hc42, hc498]

theorem enters23 : entersB Tryd.prog 23 = true := by kernel_rfl
set_option maxRecDepth 20000 in
set_option maxHeartbeats 4000000 in
theorem r_ref01_SameAll (T : Tabs) {H : Heap} {a0 : (List Ty)} {a1 : (List Ty)} {r0 : Bool} (hm : ref01_SameAll a0 a1 = some r0) : ACall Tryd.prog T 23 [AV.slice .frz (List.map Ty.av a0), AV.slice .frz (List.map Ty.av a1)] H (AV.sc (.bool r0)) H := by
  rw [ref01_SameAll] at hm
  refine ACallP.intro (fn := Tryd.f23) Tryd.func23 rfl enters23 (Nat.le_of_ble_eq_true rfl) ?_
  refine AWp.seqK fun K1 hk2 => ?_
  refine AWp.region [] (by decide +kernel) ?_
  simp
  refine hk2 _ _ ?_
  refine AWp.seqK fun K14 hk15 => ?_
  refine AWp.seqK fun K16 hk17 => ?_
  refine AWp.region [] (by decide +kernel) ?_
  simp
  refine hk17 _ _ ?_
  refine AWp.condK rfl fun A18 B19 ga20 gb21 => ?_
  rcases ite_some hm with ⟨hc22, hm23⟩ | ⟨hc22, hm24⟩
  · clear hm
    simp [hc22]
    refine ga20 _ _ ?_
    refine AWp.seqK fun K25 hk26 => ?_
    refine AWp.region [] (by decide +kernel) ?_
    simp [hc22]
    refine hk26 _ _ ?_
    refine AWp.ret ?_
    try simp only [thenQ_ret]
    obtain rfl := Option.some.inj hm23
    simp [retQ, hc22]
  · clear hm
    simp [hc22]
    refine gb21 _ _ ?_
    refine AWp.skip ?_
    try simp only [thenQ_normal]
    refine hk15 _ _ ?_
    refine AWp.seqK fun K108 hk109 => ?_
    refine AWp.seqK fun K110 hk111 => ?_
    refine AWp.region [] (by decide +kernel) ?_
    simp [hc22]
    refine hk111 _ _ ?_
    obtain ⟨hok209, hm300⟩ := chk_some hm24
    clear hm24
    obtain ⟨F191, hF192, hm301⟩ := joinB_some hm300
    clear hm300
    try dsimp only at hm301
    obtain ⟨out193, hl194, hmB195⟩ := bind1_some hm301
    clear hm301
    refine AWp.blockK fun Q200 nn201 ne202 nx203 nr204 => ?_
    refine AWp.loopF (fun n199 fr h => ∃ (i113 : Nat) (j112 : Int), H = h ∧ fr.env 0 = AV.slice .frz (List.map Ty.av a0) ∧ fr.env 1 = AV.slice .frz (List.map Ty.av a1) ∧ fr.env 12 = AV.sc (.int .i64 (llen a0)) ∧ fr.env 13 = AV.sc (.int .i64 j112) ∧ j112 = (i113 : Int) ∧ i113 + n199 = List.length a0 ∧ forR F191 (List.drop i113 a0) i113 () = some out193) (List.length a0) ?_ ?_
    · refine ⟨0, 0, ?_, ?_, ?_, ?_, ?_, rfl, (by simp), hl194⟩ <;> first | rfl | simp [hc22]
    · rintro n199 fr190 h190 ⟨i113, j112, rfl, e0_190, e1_190, e12_190, e13_190, hj207, hi208, hl194⟩ K206 hK205
      rcases n199 with _ | n199
      · have hlt210 := ilt_notJ (l := a0) hj207 (by omega)
        refine AWp.seqK fun K286 hk287 => ?_
        refine AWp.region [] (by decide +kernel) ?_
        simp [e0_190, e1_190, e12_190, e13_190, hlt210, hc22]
        refine hk287 _ _ ?_
        refine AWp.seqK fun K292 hk293 => ?_
        refine AWp.condK rfl fun A294 B295 ga296 gb297 => ?_
        simp [e0_190, e1_190, e12_190, e13_190, hlt210, hc22]
        refine gb297 _ _ ?_
        refine AWp.exit ?_
        try simp only [thenQ_exit]
        refine ne202 _ _ ?_
        try simp only [thenQ_normal]
        rw [List.drop_eq_nil_of_le (by omega), forR_nil] at hl194
        obtain rfl := Option.some.inj hl194
        rw [sumK_inl] at hmB195
        try dsimp only at hmB195
        refine hk109 _ _ ?_
        refine AWp.seqK fun K298 hk299 => ?_
        refine AWp.region [] (by decide +kernel) ?_
        simp [e0_190, e1_190, e12_190, e13_190, hlt210, hc22]
        refine hk299 _ _ ?_
        refine AWp.ret ?_
        try simp only [thenQ_ret]
        obtain rfl := Option.some.inj hmB195
        simp [retQ, e0_190, e1_190, e12_190, e13_190, hlt210, hc22]
      · have hlt210 := ilt_ofJ (l := a0) hj207 (by omega)
        obtain ⟨x114, hdn199, hg211⟩ := drop_ltJ (l := a0) hj207 (by omega)
        rw [hdn199, forR_cons] at hl194
        obtain ⟨c196, hb198, hk197⟩ := bind1_some hl194
        clear hl194
        rw [hF192, ← hj207] at hb198
        try dsimp only at hb198
        refine AWp.seqK fun K212 hk213 => ?_
        refine AWp.region [] (by decide +kernel) ?_
        simp [e0_190, e1_190, e12_190, e13_190, hlt210, hg211, hc22]
        refine hk213 _ _ ?_
        refine AWp.seqK fun K218 hk219 => ?_
        refine AWp.condK rfl fun A220 B221 ga222 gb223 => ?_
        simp [e0_190, e1_190, e12_190, e13_190, hlt210, hg211, hc22]
        refine ga222 _ _ ?_
        refine AWp.skip ?_
        try simp only [thenQ_normal]
        refine hk219 _ _ ?_
        refine AWp.seqK fun K254 hk255 => ?_
        refine AWp.blockK fun Q256 nn257 ne258 nx259 nr260 => ?_
        refine AWp.seqK fun K261 hk262 => ?_
        refine AWp.region [] (by decide +kernel) ?_
        simp [e0_190, e1_190, e12_190, e13_190, hlt210, hg211, hc22]
        refine hk262 _ _ ?_
        refine AWp.seqK fun K269 hk270 => ?_
        refine AWp.regionD [] false mixed (by decide +kernel) (by decide +kernel) ?_
        obtain ⟨x271, hx272, hm273⟩ := bind1_some hb198
        clear hb198
        try dsimp only at hm273
        obtain ⟨x274, hx275, hm276⟩ := bind1_some hm273
        clear hm273
        try dsimp only at hm276
        simp [e0_190, e1_190, e12_190, e13_190, hlt210, hg211, hx272, hc22]
        refine CallAtD.fn (r_ref01_Same T hx275) (by simp) ?_
        simp [e0_190, e1_190, e12_190, e13_190, hlt210, hg211, hx272, hc22]
        refine hk270 _ _ ?_
        refine AWp.condK rfl fun A277 B278 ga279 gb280 => ?_
        rcases ite_some hm276 with ⟨hc281, hm282⟩ | ⟨hc281, hm283⟩
        · clear hm276
          simp [e0_190, e1_190, e12_190, e13_190, hlt210, hg211, hx272, hc22, hc281]
          refine gb280 _ _ ?_
          refine AWp.skip ?_
          try simp only [thenQ_normal]
          refine nn257 _ _ ?_
          try simp only [thenQ_normal]
          refine hk255 _ _ ?_
          refine AWp.region [] (by decide +kernel) ?_
          simp [e0_190, e1_190, e12_190, e13_190, hlt210, hg211, hx272, hc22, hc281]
          obtain rfl := Option.some.inj hm282
          rw [ctlK_next] at hk197
          refine hK205 _ _ n199 (Nat.lt_succ_self _) ⟨(i113 + 1), (iadd .i64 j112 1), ?_, ?_, ?_, ?_, ?_, (iadd_idxJ hj207 (by omega) hok209), (by omega), hk197⟩ <;> first | rfl | simp [e0_190, e1_190, e12_190, e13_190, hlt210, hg211, hx272, hc22, hc281]
        · clear hm276
          simp [e0_190, e1_190, e12_190, e13_190, hlt210, hg211, hx272, hc22, hc281]
          refine ga279 _ _ ?_
          refine AWp.seqK fun K284 hk285 => ?_
          refine AWp.region [] (by decide +kernel) ?_
          simp [e0_190, e1_190, e12_190, e13_190, hlt210, hg211, hx272, hc22, hc281]
          refine hk285 _ _ ?_
          refine AWp.ret ?_
          try simp only [thenQ_ret]
          refine nr260 _ _ ?_
          try simp only [thenQ_ret]
          refine nr204 _ _ ?_
          try simp only [thenQ_ret]
          obtain rfl := Option.some.inj hm283
          rw [ctlK_ret] at hk197
          obtain rfl := Option.some.inj hk197
          rw [sumK_inr] at hmB195
          try dsimp only at hmB195
          obtain rfl := Option.some.inj hmB195
          simp [retQ, e0_190, e1_190, e12_190, e13_190, hlt210, hg211, hx272, hc22, hc281]

theorem enters24 : entersB Tryd.prog 24 = true := by kernel_rfl
set_option maxRecDepth 20000 in
set_option maxHeartbeats 4000000 in
theorem r_ref05_Ints (T : Tabs) {H : Heap} {a0 : (List Int)} {a1 : (List Int)} {r0 : Bool} (hm : ref05_Ints a0 a1 = some r0) : ACall Tryd.prog T 24 [AV.slice .frz (List.map (fun n => AV.sc (Value.int .i64 n)) a0), AV.slice .frz (List.map (fun n => AV.sc (Value.int .i64 n)) a1)] H (AV.sc (.bool r0)) H := by
  rw [ref05_Ints] at hm
  refine ACallP.intro (fn := Tryd.f24) Tryd.func24 rfl enters24 (Nat.le_of_ble_eq_true rfl) ?_
  refine AWp.seqK fun K1 hk2 => ?_
  refine AWp.region [] (by decide +kernel) ?_
  simp
  refine hk2 _ _ ?_
  refine AWp.seqK fun K14 hk15 => ?_
  refine AWp.seqK fun K16 hk17 => ?_
  refine AWp.region [] (by decide +kernel) ?_
  simp
  refine hk17 _ _ ?_
  refine AWp.condK rfl fun A18 B19 ga20 gb21 => ?_
  rcases ite_some hm with ⟨hc22, hm23⟩ | ⟨hc22, hm24⟩
  · clear hm
    simp [hc22]
    refine ga20 _ _ ?_
    refine AWp.seqK fun K25 hk26 => ?_
    refine AWp.region [] (by decide +kernel) ?_
    simp [hc22]
    refine hk26 _ _ ?_
    refine AWp.ret ?_
    try simp only [thenQ_ret]
    obtain rfl := Option.some.inj hm23
    simp [retQ, hc22]
  · clear hm
    simp [hc22]
    refine gb21 _ _ ?_
    refine AWp.skip ?_
    try simp only [thenQ_normal]
    refine hk15 _ _ ?_
    refine AWp.seqK fun K96 hk97 => ?_
    refine AWp.seqK fun K98 hk99 => ?_
    refine AWp.region [] (by decide +kernel) ?_
    simp [hc22]
    refine hk99 _ _ ?_
    obtain ⟨hok185, hm264⟩ := chk_some hm24
    clear hm24
    obtain ⟨F167, hF168, hm265⟩ := joinB_some hm264
    clear hm264
    try dsimp only at hm265
    obtain ⟨out169, hl170, hmB171⟩ := bind1_some hm265
    clear hm265
    refine AWp.blockK fun Q176 nn177 ne178 nx179 nr180 => ?_
    refine AWp.loopF (fun n175 fr h => ∃ (i101 : Nat) (j100 : Int), H = h ∧ fr.env 0 = AV.slice .frz (List.map (fun n => AV.sc (Value.int .i64 n)) a0) ∧ fr.env 1 = AV.slice .frz (List.map (fun n => AV.sc (Value.int .i64 n)) a1) ∧ fr.env 12 = AV.sc (.int .i64 (llen a0)) ∧ fr.env 13 = AV.sc (.int .i64 j100) ∧ j100 = (i101 : Int) ∧ i101 + n175 = List.length a0 ∧ forR F167 (List.drop i101 a0) i101 () = some out169) (List.length a0) ?_ ?_
    · refine ⟨0, 0, ?_, ?_, ?_, ?_, ?_, rfl, (by simp), hl170⟩ <;> first | rfl | simp [hc22]
    · rintro n175 fr166 h166 ⟨i101, j100, rfl, e0_166, e1_166, e12_166, e13_166, hj183, hi184, hl170⟩ K182 hK181
      rcases n175 with _ | n175
      · have hlt186 := ilt_notJ (l := a0) hj183 (by omega)
        refine AWp.seqK fun K250 hk251 => ?_
        refine AWp.region [] (by decide +kernel) ?_
        simp [e0_166, e1_166, e12_166, e13_166, hlt186, hc22]
        refine hk251 _ _ ?_
        refine AWp.seqK fun K256 hk257 => ?_
        refine AWp.condK rfl fun A258 B259 ga260 gb261 => ?_
        simp [e0_166, e1_166, e12_166, e13_166, hlt186, hc22]
        refine gb261 _ _ ?_
        refine AWp.exit ?_
        try simp only [thenQ_exit]
        refine ne178 _ _ ?_
        try simp only [thenQ_normal]
        rw [List.drop_eq_nil_of_le (by omega), forR_nil] at hl170
        obtain rfl := Option.some.inj hl170
        rw [sumK_inl] at hmB171
        try dsimp only at hmB171
        refine hk97 _ _ ?_
        refine AWp.seqK fun K262 hk263 => ?_
        refine AWp.region [] (by decide +kernel) ?_
        simp [e0_166, e1_166, e12_166, e13_166, hlt186, hc22]
        refine hk263 _ _ ?_
        refine AWp.ret ?_
        try simp only [thenQ_ret]
        obtain rfl := Option.some.inj hmB171
        simp [retQ, e0_166, e1_166, e12_166, e13_166, hlt186, hc22]
      · have hlt186 := ilt_ofJ (l := a0) hj183 (by omega)
        obtain ⟨x102, hdn175, hg187⟩ := drop_ltJ (l := a0) hj183 (by omega)
        rw [hdn175, forR_cons] at hl170
        obtain ⟨c172, hb174, hk173⟩ := bind1_some hl170
        clear hl170
        rw [hF168, ← hj183] at hb174
        try dsimp only at hb174
        refine AWp.seqK fun K188 hk189 => ?_
        refine AWp.region [] (by decide +kernel) ?_
        simp [e0_166, e1_166, e12_166, e13_166, hlt186, hg187, hc22]
        refine hk189 _ _ ?_
        refine AWp.seqK fun K194 hk195 => ?_
        refine AWp.condK rfl fun A196 B197 ga198 gb199 => ?_
        simp [e0_166, e1_166, e12_166, e13_166, hlt186, hg187, hc22]
        refine ga198 _ _ ?_
        refine AWp.skip ?_
        try simp only [thenQ_normal]
        refine hk195 _ _ ?_
        refine AWp.seqK fun K224 hk225 => ?_
        refine AWp.blockK fun Q226 nn227 ne228 nx229 nr230 => ?_
        refine AWp.seqK fun K231 hk232 => ?_
        refine AWp.region [] (by decide +kernel) ?_
        simp [e0_166, e1_166, e12_166, e13_166, hlt186, hg187, hc22]
        refine hk232 _ _ ?_
        refine AWp.seqK fun K236 hk237 => ?_
        refine AWp.regionD [] true mixed (by decide +kernel) (by decide +kernel) ?_
        obtain ⟨x238, hx239, hm240⟩ := bind1_some hb174
        clear hb174
        try dsimp only at hm240
        simp [e0_166, e1_166, e12_166, e13_166, hlt186, hg187, hx239, hc22]
        refine hk237 _ _ ?_
        refine AWp.condK rfl fun A241 B242 ga243 gb244 => ?_
        rcases ite_some hm240 with ⟨hc245, hm246⟩ | ⟨hc245, hm247⟩
        · clear hm240
          simp [e0_166, e1_166, e12_166, e13_166, hlt186, hg187, hx239, hc22, hc245]
          refine ga243 _ _ ?_
          refine AWp.seqK fun K248 hk249 => ?_
          refine AWp.region [] (by decide +kernel) ?_
          simp [e0_166, e1_166, e12_166, e13_166, hlt186, hg187, hx239, hc22, hc245]
          refine hk249 _ _ ?_
          refine AWp.ret ?_
          try simp only [thenQ_ret]
          refine nr230 _ _ ?_
          try simp only [thenQ_ret]
          refine nr180 _ _ ?_
          try simp only [thenQ_ret]
          obtain rfl := Option.some.inj hm246
          rw [ctlK_ret] at hk173
          obtain rfl := Option.some.inj hk173
          rw [sumK_inr] at hmB171
          try dsimp only at hmB171
          obtain rfl := Option.some.inj hmB171
          simp [retQ, e0_166, e1_166, e12_166, e13_166, hlt186, hg187, hx239, hc22, hc245]
        · clear hm240
          simp [e0_166, e1_166, e12_166, e13_166, hlt186, hg187, hx239, hc22, hc245]
          refine gb244 _ _ ?_
          refine AWp.skip ?_
          try simp only [thenQ_normal]
          refine nn227 _ _ ?_
          try simp only [thenQ_normal]
          refine hk225 _ _ ?_
          refine AWp.region [] (by decide +kernel) ?_
          simp [e0_166, e1_166, e12_166, e13_166, hlt186, hg187, hx239, hc22, hc245]
          obtain rfl := Option.some.inj hm247
          rw [ctlK_next] at hk173
          refine hK181 _ _ n175 (Nat.lt_succ_self _) ⟨(i101 + 1), (iadd .i64 j100 1), ?_, ?_, ?_, ?_, ?_, (iadd_idxJ hj183 (by omega) hok185), (by omega), hk173⟩ <;> first | rfl | simp [e0_166, e1_166, e12_166, e13_166, hlt186, hg187, hx239, hc22, hc245]

theorem enters3 : entersB Tryd.prog 3 = true := by kernel_rfl
set_option maxRecDepth 20000 in
set_option maxHeartbeats 4000000 in
theorem r_law23_ContentExact (T : Tabs) (hT : T 0 = some (AV.agg (List.map (fun n => AV.sc (Value.int .i64 n)) tree_arities))) {a0 : (List Int)} {a1 : Fm} {a2 : Sq} {r0 : Bool} (hm : law23_ContentExact a0 a1 a2 = some r0) : ACallP Tryd.prog T 3 [AV.slice .frz (List.map (fun n => AV.sc (Value.int .i64 n)) a0), Fm.av a1, Sq.av a2] [] (fun x _ => x = AV.sc (.bool r0)) := by
  rw [law23_ContentExact] at hm
  refine ACallP.intro (fn := Tryd.f3) Tryd.func3 rfl enters3 (Nat.le_of_ble_eq_true rfl) ?_
  refine AWp.seqK fun K1 hk2 => ?_
  refine AWp.region [] (by decide +kernel) ?_
  simp [hT]
  refine hk2 _ _ ?_
  refine AWp.seqK fun K86 hk87 => ?_
  obtain ⟨j122, hj123, hm124⟩ := joinB_some hm
  clear hm
  refine AWp.seqP (fun fr h => ∃ (v121 : Bool) (g4_120 : Nat) (g5_120 : Nat), ([] : Heap) = h ∧ fr.env 0 = AV.slice .frz (List.map (fun n => AV.sc (Value.int .i64 n)) a0) ∧ fr.env 4 = AV.lptr 4 g4_120 0 ∧ fr.env 5 = AV.lptr 5 g5_120 0 ∧ fr.env 53 = AV.sc (.bool v121) ∧ fr.gen 4 = g4_120 ∧ fr.box 4 = some [AV.sc (.int .i64 a1.kind), AV.sc (.int .i64 a1.typeF.kind), AV.slice .frz (List.map Ty.av a1.typeF.args), AV.slice .frz (List.map Tm.av a1.terms), AV.slice .frz (List.map Fm.av a1.args)] ∧ fr.gen 5 = g5_120 ∧ fr.box 5 = some [AV.slice .frz (List.map Ty.av a2.types), AV.slice .frz (List.map Fm.av a2.hyps)] ∧ j122 v121 = some r0) (fun K118 hk119 => ?_) ?_
  · refine AWp.regionD [] false mixed (by decide +kernel) (by decide +kernel) ?_
    obtain ⟨x126, hx127, hm128⟩ := bind1_some hm124
    clear hm124
    try dsimp only at hm128
    simp [hT]
    refine CallAtD.fn (r_law23_awake T hT hx127) (by simp) ?_
    rcases ite_some hm128 with ⟨hc129, hm130⟩ | ⟨hc129, hm131⟩
    · clear hm128
      obtain ⟨x132, hx133, hm134⟩ := bind1_some hm130
      clear hm130
      try dsimp only at hm134
      simp [hT, hc129]
      refine CallAtD.fn (r_mk_Few T hx133) (by simp) ?_
      rcases ite_some hm134 with ⟨hc135, hm136⟩ | ⟨hc135, hm137⟩
      · clear hm134
        obtain ⟨x138, hx139, hm140⟩ := bind1_some hm136
        clear hm136
        try dsimp only at hm140
        simp [hT, hc129, hc135]
        refine CallAtD.fn (r_play_Count T hx139) (by simp) ?_
        obtain ⟨x141, hx142, hm143⟩ := bind1_some hm140
        clear hm140
        try dsimp only at hm143
        simp [hT, hc129, hc135]
        refine CallAtD.fn (r_play_Sum_Formula T hx142) (by simp) ?_
        obtain ⟨x144, hx145, hm146⟩ := bind1_some hm143
        clear hm143
        try dsimp only at hm146
        simp [hT, hc129, hc135]
        refine CallAtD.fn (r_play_Sum_Sequent T hx145) (by simp) ?_
        obtain ⟨x147, hx148, hm149⟩ := bind1_some hm146
        clear hm146
        try dsimp only at hm149
        simp [hT, hc129, hc135]
        refine CallAtD.fn (r_play_Sum_Few T hx148) (by simp) ?_
        rcases ite_some hm149 with ⟨hc150, hm151⟩ | ⟨hc150, hm152⟩
        · clear hm149
          rcases ite_some hm151 with ⟨hc153, hm154⟩ | ⟨hc153, hm155⟩
          · clear hm151
            simp [hT, hc129, hc135, hc150, hc153]
            refine hk119 _ _ ⟨true, 1, 1, ?_, ?_, ?_, ?_, ?_, ?_, ?_, ?_, ?_, hm154⟩ <;> first | rfl | simp [hT, hc129, hc135, hc150, hc153]
          · clear hm151
            simp [hT, hc129, hc135, hc150, hc153]
            refine hk119 _ _ ⟨(igt (llen a2.hyps) 30), 1, 1, ?_, ?_, ?_, ?_, ?_, ?_, ?_, ?_, ?_, hm155⟩ <;> first | rfl | simp [hT, hc129, hc135, hc150, hc153]
        · clear hm149
          simp [hT, hc129, hc135, hc150]
          refine hk119 _ _ ⟨true, 1, 1, ?_, ?_, ?_, ?_, ?_, ?_, ?_, ?_, ?_, hm152⟩ <;> first | rfl | simp [hT, hc129, hc135, hc150]
      · clear hm134
        simp [hT, hc129, hc135]
        refine hk119 _ _ ⟨true, 1, 1, ?_, ?_, ?_, ?_, ?_, ?_, ?_, ?_, ?_, hm137⟩ <;> first | rfl | simp [hT, hc129, hc135]
    · clear hm128
      simp [hT, hc129]
      refine hk119 _ _ ⟨true, 1, 1, ?_, ?_, ?_, ?_, ?_, ?_, ?_, ?_, ?_, hm131⟩ <;> first | rfl | simp [hT, hc129]
  · clear hm124
    rintro fr120 h120 ⟨v121, g4_120, g5_120, rfl, e0_120, e4_120, e5_120, e53_120, g4e_120, b4_120, g5e_120, b5_120, hm125⟩
    subst hj123
    refine AWp.condK rfl fun A156 B157 ga158 gb159 => ?_
    rcases ite_some hm125 with ⟨hc160, hm161⟩ | ⟨hc160, hm162⟩
    · clear hm125
      simp [e0_120, e4_120, e5_120, e53_120, g4e_120, b4_120, g5e_120, b5_120, hT, hc160]
      refine ga158 _ _ ?_
      refine AWp.seqK fun K166 hk167 => ?_
      refine AWp.region [] (by decide +kernel) ?_
      obtain ⟨x168, hx169, hm170⟩ := bind1_some hm161
      clear hm161
      try dsimp only at hm170
      simp [e0_120, e4_120, e5_120, e53_120, g4e_120, b4_120, g5e_120, b5_120, hT, hc160]
      refine CallAt.fn (r_law23_awake T hT hx169) ?_
      simp [e0_120, e4_120, e5_120, e53_120, g4e_120, b4_120, g5e_120, b5_120, hT, hc160]
      refine hk167 _ _ ?_
      refine AWp.ret ?_
      try simp only [thenQ_ret]
      obtain rfl := Option.some.inj hm170
      simp [retQ, e0_120, e4_120, e5_120, e53_120, g4e_120, b4_120, g5e_120, b5_120, hT, hc160]
    · clear hm125
      simp [e0_120, e4_120, e5_120, e53_120, g4e_120, b4_120, g5e_120, b5_120, hT, hc160]
      refine gb159 _ _ ?_
      refine AWp.skip ?_
      try simp only [thenQ_normal]
      refine hk87 _ _ ?_
      refine AWp.seqK fun K174 hk175 => ?_
      refine AWp.region [] (by decide +kernel) ?_
      obtain ⟨x176, hx177, hm178⟩ := bind1_some hm162
      clear hm162
      try dsimp only at hm178
      simp [e0_120, e4_120, e5_120, e53_120, g4e_120, b4_120, g5e_120, b5_120, hT, hc160]
      refine CallAt.fn (r_mk_New T hx177) ?_
      simp [e0_120, e4_120, e5_120, e53_120, g4e_120, b4_120, g5e_120, b5_120, hT, hc160]
      refine hk175 _ _ ?_
      refine AWp.seqK fun K183 hk184 => ?_
      refine AWp.region [] (by decide +kernel) ?_
      obtain ⟨x185, d186, hx187, hm188⟩ := bind2_some hm178
      clear hm178
      try dsimp only at hm188
      simp [e0_120, e4_120, e5_120, e53_120, g4e_120, b4_120, g5e_120, b5_120, hT, hc160]
      refine CallAt.fn (r_mk_Sequent T (by first | exact ho | decide) hx187) ?_
      simp [e0_120, e4_120, e5_120, e53_120, g4e_120, b4_120, g5e_120, b5_120, hT, hc160]
      refine hk184 _ _ ?_
      refine AWp.seqK fun K331 hk332 => ?_
      refine AWp.seqK fun K337 hk338 => ?_
      refine AWp.regionD [] false mixed (by decide +kernel) (by decide +kernel) ?_
      obtain ⟨x339, d340, hx341, hm342⟩ := bind2_some hm188
      clear hm188
      try dsimp only at hm342
      simp [e0_120, e4_120, e5_120, e53_120, g4e_120, b4_120, g5e_120, b5_120, hT, hc160]
      refine CallAtD.fn (r_mk_Formula T (by first | exact ho | decide) hx341) (by simp) ?_
      simp [e0_120, e4_120, e5_120, e53_120, g4e_120, b4_120, g5e_120, b5_120, hT, hc160]
      refine hk338 _ _ ?_
      obtain ⟨L343, hL1297, hm1298⟩ := joinB_some hm342
      clear hm342
      try dsimp only at hm1298
      obtain ⟨hok493, hm1299⟩ := chk_some hm1298
      clear hm1298
      obtain ⟨F475, hF476, hm1300⟩ := joinB_some hm1299
      clear hm1299
      try dsimp only at hm1300
      obtain ⟨out477, hl478, hmB479⟩ := bind1_some hm1300
      clear hm1300
      refine AWp.blockK fun Q484 nn485 ne486 nx487 nr488 => ?_
      refine AWp.loopF (fun n483 fr h => ∃ (i345 : Nat) (j344 : Int) (g5_474 : Nat) (g8_474 : Nat), hset [[]] 0 [AV.slice .frz (List.map (fun n => AV.sc (Value.int .i64 n)) d340.l), AV.sc (.int .i64 d340.atF)] = h ∧ fr.env 5 = AV.lptr 5 g5_474 0 ∧ fr.env 8 = AV.lptr 8 g8_474 0 ∧ fr.env 64 = AV.slice .full (List.map Fm.av L343) ∧ fr.env 65 = AV.sc (.int .i64 (llen L343)) ∧ fr.env 66 = AV.sc (.int .i64 j344) ∧ fr.gen 5 = g5_474 ∧ fr.box 5 = some [AV.slice .frz (List.map Ty.av a2.types), AV.slice .frz (List.map Fm.av a2.hyps)] ∧ fr.gen 8 = g8_474 ∧ fr.box 8 = some [AV.slice .frz (List.map Ty.av x185.types), AV.slice .frz (List.map Fm.av x185.hyps)] ∧ j344 = (i345 : Int) ∧ i345 + n483 = List.length L343 ∧ forR F475 (List.drop i345 L343) i345 () = some out477) (List.length L343) ?_ ?_
      · refine ⟨0, 0, g5_120, (fr120.gen 8 + 1), ?_, ?_, ?_, ?_, ?_, ?_, ?_, ?_, ?_, ?_, rfl, (by simp), hl478⟩ <;> first | rfl | (rw [hL1297]; rfl) | simp [e0_120, e4_120, e5_120, e53_120, g4e_120, b4_120, g5e_120, b5_120, hT, hL1297, llen, hc160, hL1297]
      · rintro n483 fr474 h474 ⟨i345, j344, g5_474, g8_474, rfl, e5_474, e8_474, e64_474, e65_474, e66_474, g5e_474, b5_474, g8e_474, b8_474, hj491, hi492, hl478⟩ K490 hK489
        rcases n483 with _ | n483
        · have hlt494 := ilt_notJ (l := L343) hj491 (by omega)
          refine AWp.seqK fun K622 hk623 => ?_
          refine AWp.region [] (by decide +kernel) ?_
          simp [e5_474, e8_474, e64_474, e65_474, e66_474, g5e_474, b5_474, g8e_474, b8_474, hT, hlt494, hc160]
          refine hk623 _ _ ?_
          refine AWp.seqK fun K628 hk629 => ?_
          refine AWp.condK rfl fun A630 B631 ga632 gb633 => ?_
          simp [e5_474, e8_474, e64_474, e65_474, e66_474, g5e_474, b5_474, g8e_474, b8_474, hT, hlt494, hc160]
          refine gb633 _ _ ?_
          refine AWp.exit ?_
          try simp only [thenQ_exit]
          refine ne486 _ _ ?_
          try simp only [thenQ_normal]
          rw [List.drop_eq_nil_of_le (by omega), forR_nil] at hl478
          obtain rfl := Option.some.inj hl478
          rw [sumK_inl] at hmB479
          try dsimp only at hmB479
          refine hk332 _ _ ?_
          refine AWp.seqK fun K844 hk845 => ?_
          refine AWp.seqK fun K846 hk847 => ?_
          refine AWp.region [] (by decide +kernel) ?_
          simp [e5_474, e8_474, e64_474, e65_474, e66_474, g5e_474, b5_474, g8e_474, b8_474, hT, hlt494, hc160]
          refine hk847 _ _ ?_
          obtain ⟨L848, hL1293, hm1294⟩ := joinB_some hmB479
          clear hmB479
          try dsimp only at hm1294
          obtain ⟨hok1074, hm1295⟩ := chk_some hm1294
          clear hm1294
          obtain ⟨F1056, hF1057, hm1296⟩ := joinB_some hm1295
          clear hm1295
          try dsimp only at hm1296
          obtain ⟨out1058, hl1059, hmB1060⟩ := bind1_some hm1296
          clear hm1296
          refine AWp.blockK fun Q1065 nn1066 ne1067 nx1068 nr1069 => ?_
          refine AWp.loopF (fun n1064 fr h => ∃ (i850 : Nat) (j849 : Int), hset [[]] 0 [AV.slice .frz (List.map (fun n => AV.sc (Value.int .i64 n)) d340.l), AV.sc (.int .i64 d340.atF)] = h ∧ fr.env 92 = AV.slice .full (List.map Sq.av L848) ∧ fr.env 93 = AV.sc (.int .i64 (llen L848)) ∧ fr.env 94 = AV.sc (.int .i64 j849) ∧ j849 = (i850 : Int) ∧ i850 + n1064 = List.length L848 ∧ forR F1056 (List.drop i850 L848) i850 () = some out1058) (List.length L848) ?_ ?_
          · refine ⟨0, 0, ?_, ?_, ?_, ?_, rfl, (by simp), hl1059⟩ <;> first | rfl | (rw [hL1293]; rfl) | simp [e5_474, e8_474, e64_474, e65_474, e66_474, g5e_474, b5_474, g8e_474, b8_474, hT, hlt494, hL1293, llen, hc160, hL1293]
          · rintro n1064 fr1055 h1055 ⟨i850, j849, rfl, e92_1055, e93_1055, e94_1055, hj1072, hi1073, hl1059⟩ K1071 hK1070
            rcases n1064 with _ | n1064
            · have hlt1075 := ilt_notJ (l := L848) hj1072 (by omega)
              refine AWp.seqK fun K1279 hk1280 => ?_
              refine AWp.region [] (by decide +kernel) ?_
              simp [e92_1055, e93_1055, e94_1055, hT, hlt494, hlt1075, hc160]
              refine hk1280 _ _ ?_
              refine AWp.seqK fun K1285 hk1286 => ?_
              refine AWp.condK rfl fun A1287 B1288 ga1289 gb1290 => ?_
              simp [e92_1055, e93_1055, e94_1055, hT, hlt494, hlt1075, hc160]
              refine gb1290 _ _ ?_
              refine AWp.exit ?_
              try simp only [thenQ_exit]
              refine ne1067 _ _ ?_
              try simp only [thenQ_normal]
              rw [List.drop_eq_nil_of_le (by omega), forR_nil] at hl1059
              obtain rfl := Option.some.inj hl1059
              rw [sumK_inl] at hmB1060
              try dsimp only at hmB1060
              refine hk845 _ _ ?_
              refine AWp.seqK fun K1291 hk1292 => ?_
              refine AWp.region [] (by decide +kernel) ?_
              simp [e92_1055, e93_1055, e94_1055, hT, hlt494, hlt1075, hc160]
              refine hk1292 _ _ ?_
              refine AWp.ret ?_
              try simp only [thenQ_ret]
              obtain rfl := Option.some.inj hmB1060
              simp [retQ, e92_1055, e93_1055, e94_1055, hT, hlt494, hlt1075, hc160]
            · have hlt1075 := ilt_ofJ (l := L848) hj1072 (by omega)
              obtain ⟨x851, hdn1064, hg1076⟩ := drop_ltJ (l := L848) hj1072 (by omega)
              rw [hdn1064, forR_cons] at hl1059
              obtain ⟨c1061, hb1063, hk1062⟩ := bind1_some hl1059
              clear hl1059
              rw [hF1057, ← hj1072] at hb1063
              try dsimp only at hb1063
              refine AWp.seqK fun K1077 hk1078 => ?_
              refine AWp.region [] (by decide +kernel) ?_
              simp [e92_1055, e93_1055, e94_1055, hT, hlt494, hlt1075, hg1076, hc160]
              refine hk1078 _ _ ?_
              refine AWp.seqK fun K1083 hk1084 => ?_
              refine AWp.condK rfl fun A1085 B1086 ga1087 gb1088 => ?_
              simp [e92_1055, e93_1055, e94_1055, hT, hlt494, hlt1075, hg1076, hc160]
              refine ga1087 _ _ ?_
              refine AWp.skip ?_
              try simp only [thenQ_normal]
              refine hk1084 _ _ ?_
              refine AWp.seqK fun K1183 hk1184 => ?_
              refine AWp.blockK fun Q1185 nn1186 ne1187 nx1188 nr1189 => ?_
              refine AWp.seqK fun K1190 hk1191 => ?_
              refine AWp.region [] (by decide +kernel) ?_
              simp [e92_1055, e93_1055, e94_1055, hT, hlt494, hlt1075, hg1076, hc160]
              refine hk1191 _ _ ?_
              refine AWp.seqK fun K1196 hk1197 => ?_
              refine AWp.region [] (by decide +kernel) ?_
              obtain ⟨x1198, x1199, hx1200, hm1201⟩ := bind2_some hb1063
              clear hb1063
              try dsimp only at hm1201
              simp [e92_1055, e93_1055, e94_1055, hT, hlt494, hlt1075, hg1076, hc160]
              refine CallAt.fn (r_content_Context T hT hx1200) ?_
              simp [e92_1055, e93_1055, e94_1055, hT, hlt494, hlt1075, hg1076, hc160]
              refine hk1197 _ _ ?_
              refine AWp.seqK fun K1206 hk1207 => ?_
              refine AWp.region [] (by decide +kernel) ?_
              obtain ⟨x1208, x1209, hx1210, hm1211⟩ := bind2_some hm1201
              clear hm1201
              try dsimp only at hm1211
              simp [e92_1055, e93_1055, e94_1055, hT, hlt494, hlt1075, hg1076, hc160]
              refine CallAt.fn (r_ref23_Context T hx1210) ?_
              simp [e92_1055, e93_1055, e94_1055, hT, hlt494, hlt1075, hg1076, hc160]
              refine hk1207 _ _ ?_
              refine AWp.seqK fun K1216 hk1217 => ?_
              refine AWp.region [] (by decide +kernel) ?_
              obtain ⟨x1218, x1219, hx1220, hm1221⟩ := bind2_some hm1211
              clear hm1211
              try dsimp only at hm1221
              simp [e92_1055, e93_1055, e94_1055, hT, hlt494, hlt1075, hg1076, hc160]
              refine CallAt.fn (r_content_Places T hT hx1220) ?_
              simp [e92_1055, e93_1055, e94_1055, hT, hlt494, hlt1075, hg1076, hc160]
              refine hk1217 _ _ ?_
              refine AWp.seqK fun K1226 hk1227 => ?_
              refine AWp.region [] (by decide +kernel) ?_
              obtain ⟨x1228, x1229, hx1230, hm1231⟩ := bind2_some hm1221
              clear hm1221
              try dsimp only at hm1231
              simp [e92_1055, e93_1055, e94_1055, hT, hlt494, hlt1075, hg1076, hc160]
              refine CallAt.fn (r_ref23_Places T hx1230) ?_
              simp [e92_1055, e93_1055, e94_1055, hT, hlt494, hlt1075, hg1076, hc160]
              refine hk1227 _ _ ?_
              obtain ⟨j1251, hj1252, hm1253⟩ := joinB_some hm1231
              clear hm1231
              refine AWp.seqP (fun fr h => ∃ (v1250 : Bool), hset [[]] 0 [AV.slice .frz (List.map (fun n => AV.sc (Value.int .i64 n)) d340.l), AV.sc (.int .i64 d340.atF)] = h ∧ fr.env 92 = AV.slice .full (List.map Sq.av L848) ∧ fr.env 93 = AV.sc (.int .i64 (llen L848)) ∧ fr.env 94 = AV.sc (.int .i64 j849) ∧ fr.env 137 = AV.sc (.bool v1250) ∧ j1251 v1250 = some c1061) (fun K1247 hk1248 => ?_) ?_
              · refine AWp.region [] (by decide +kernel) ?_
                rcases ite_some hm1253 with ⟨hc1255, hm1256⟩ | ⟨hc1255, hm1257⟩
                · clear hm1253
                  simp [e92_1055, e93_1055, e94_1055, hT, hlt494, hlt1075, hg1076, hc160, hc1255]
                  refine hk1248 _ _ ⟨true, ?_, ?_, ?_, ?_, ?_, hm1256⟩ <;> first | rfl | simp [e92_1055, e93_1055, e94_1055, hT, hlt494, hlt1075, hg1076, hc160, hc1255]
                · clear hm1253
                  rcases ite_some hm1257 with ⟨hc1258, hm1259⟩ | ⟨hc1258, hm1260⟩
                  · clear hm1257
                    simp [e92_1055, e93_1055, e94_1055, hT, hlt494, hlt1075, hg1076, hc160, hc1255, hc1258]
                    refine hk1248 _ _ ⟨true, ?_, ?_, ?_, ?_, ?_, hm1259⟩ <;> first | rfl | simp [e92_1055, e93_1055, e94_1055, hT, hlt494, hlt1075, hg1076, hc160, hc1255, hc1258]
                  · clear hm1257
                    obtain ⟨x1261, hx1262, hm1263⟩ := bind1_some hm1260
                    clear hm1260
                    try dsimp only at hm1263
                    simp [e92_1055, e93_1055, e94_1055, hT, hlt494, hlt1075, hg1076, hc160, hc1255, hc1258]
                    refine CallAt.fn (r_ref01_SameAll T hx1262) ?_
                    rcases ite_some hm1263 with ⟨hc1264, hm1265⟩ | ⟨hc1264, hm1266⟩
                    · clear hm1263
                      obtain ⟨x1267, hx1268, hm1269⟩ := bind1_some hm1265
                      clear hm1265
                      try dsimp only at hm1269
                      simp [e92_1055, e93_1055, e94_1055, hT, hlt494, hlt1075, hg1076, hc160, hc1255, hc1258, hc1264]
                      refine CallAt.fn (r_ref05_Ints T hx1268) ?_
                      simp [e92_1055, e93_1055, e94_1055, hT, hlt494, hlt1075, hg1076, hc160, hc1255, hc1258, hc1264]
                      refine hk1248 _ _ ⟨(bnot x1267), ?_, ?_, ?_, ?_, ?_, hm1269⟩ <;> first | rfl | simp [e92_1055, e93_1055, e94_1055, hT, hlt494, hlt1075, hg1076, hc160, hc1255, hc1258, hc1264]
                    · clear hm1263
                      simp [e92_1055, e93_1055, e94_1055, hT, hlt494, hlt1075, hg1076, hc160, hc1255, hc1258, hc1264]
                      refine hk1248 _ _ ⟨true, ?_, ?_, ?_, ?_, ?_, hm1266⟩ <;> first | rfl | simp [e92_1055, e93_1055, e94_1055, hT, hlt494, hlt1075, hg1076, hc160, hc1255, hc1258, hc1264]
              · clear hm1253
                rintro fr1249 h1249 ⟨v1250, rfl, e92_1249, e93_1249, e94_1249, e137_1249, hm1254⟩
                subst hj1252
                refine AWp.condK rfl fun A1270 B1271 ga1272 gb1273 => ?_
                rcases ite_some hm1254 with ⟨hc1274, hm1275⟩ | ⟨hc1274, hm1276⟩
                · clear hm1254
                  simp [e92_1249, e93_1249, e94_1249, e137_1249, hT, hlt494, hlt1075, hg1076, hc160, hc1274]
                  refine ga1272 _ _ ?_
                  refine AWp.seqK fun K1277 hk1278 => ?_
                  refine AWp.region [] (by decide +kernel) ?_
                  simp [e92_1249, e93_1249, e94_1249, e137_1249, hT, hlt494, hlt1075, hg1076, hc160, hc1274]
                  refine hk1278 _ _ ?_
                  refine AWp.ret ?_
                  try simp only [thenQ_ret]
                  refine nr1189 _ _ ?_
                  try simp only [thenQ_ret]
                  refine nr1069 _ _ ?_
                  try simp only [thenQ_ret]
                  obtain rfl := Option.some.inj hm1275
                  rw [ctlK_ret] at hk1062
                  obtain rfl := Option.some.inj hk1062
                  rw [sumK_inr] at hmB1060
                  try dsimp only at hmB1060
                  obtain rfl := Option.some.inj hmB1060
                  simp [retQ, e92_1249, e93_1249, e94_1249, e137_1249, hT, hlt494, hlt1075, hg1076, hc160, hc1274]
                · clear hm1254
                  simp [e92_1249, e93_1249, e94_1249, e137_1249, hT, hlt494, hlt1075, hg1076, hc160, hc1274]
                  refine gb1273 _ _ ?_
                  refine AWp.skip ?_
                  try simp only [thenQ_normal]
                  refine nn1186 _ _ ?_
                  try simp only [thenQ_normal]
                  refine hk1184 _ _ ?_
                  refine AWp.region [] (by decide +kernel) ?_
                  simp [e92_1249, e93_1249, e94_1249, e137_1249, hT, hlt494, hlt1075, hg1076, hc160, hc1274]
                  obtain rfl := Option.some.inj hm1276
                  rw [ctlK_next] at hk1062
                  refine hK1070 _ _ n1064 (Nat.lt_succ_self _) ⟨(i850 + 1), (iadd .i64 j849 1), ?_, ?_, ?_, ?_, (iadd_idxJ hj1072 (by omega) hok1074), (by omega), hk1062⟩ <;> first | rfl | simp [e92_1249, e93_1249, e94_1249, e137_1249, hT, hlt494, hlt1075, hg1076, hc160, hc1274]
        · have hlt494 := ilt_ofJ (l := L343) hj491 (by omega)
          obtain ⟨x346, hdn483, hg495⟩ := drop_ltJ (l := L343) hj491 (by omega)
          rw [hdn483, forR_cons] at hl478
          obtain ⟨c480, hb482, hk481⟩ := bind1_some hl478
          clear hl478
          rw [hF476, ← hj491] at hb482
          try dsimp only at hb482
          refine AWp.seqK fun K496 hk497 => ?_
          refine AWp.region [] (by decide +kernel) ?_
          simp [e5_474, e8_474, e64_474, e65_474, e66_474, g5e_474, b5_474, g8e_474, b8_474, hT, hlt494, hg495, hc160]
          refine hk497 _ _ ?_
          refine AWp.seqK fun K502 hk503 => ?_
          refine AWp.condK rfl fun A504 B505 ga506 gb507 => ?_
          simp [e5_474, e8_474, e64_474, e65_474, e66_474, g5e_474, b5_474, g8e_474, b8_474, hT, hlt494, hg495, hc160]
          refine ga506 _ _ ?_
          refine AWp.skip ?_
          try simp only [thenQ_normal]
          refine hk503 _ _ ?_
          refine AWp.seqK fun K564 hk565 => ?_
          refine AWp.blockK fun Q566 nn567 ne568 nx569 nr570 => ?_
          refine AWp.seqK fun K571 hk572 => ?_
          refine AWp.region [] (by decide +kernel) ?_
          simp [e5_474, e8_474, e64_474, e65_474, e66_474, g5e_474, b5_474, g8e_474, b8_474, hT, hlt494, hg495, hc160]
          refine hk572 _ _ ?_
          refine AWp.seqK fun K577 hk578 => ?_
          refine AWp.region [] (by decide +kernel) ?_
          obtain ⟨x579, x580, hx581, hm582⟩ := bind2_some hb482
          clear hb482
          try dsimp only at hm582
          simp [e5_474, e8_474, e64_474, e65_474, e66_474, g5e_474, b5_474, g8e_474, b8_474, hT, hlt494, hg495, hc160]
          refine CallAt.fn (r_content_Type T hT hx581) ?_
          simp [e5_474, e8_474, e64_474, e65_474, e66_474, g5e_474, b5_474, g8e_474, b8_474, hT, hlt494, hg495, hc160]
          refine hk578 _ _ ?_
          refine AWp.seqK fun K587 hk588 => ?_
          refine AWp.region [] (by decide +kernel) ?_
          obtain ⟨x589, x590, hx591, hm592⟩ := bind2_some hm582
          clear hm582
          try dsimp only at hm592
          simp [e5_474, e8_474, e64_474, e65_474, e66_474, g5e_474, b5_474, g8e_474, b8_474, hT, hlt494, hg495, hc160]
          refine CallAt.fn (r_ref23_Type T hx591) ?_
          simp [e5_474, e8_474, e64_474, e65_474, e66_474, g5e_474, b5_474, g8e_474, b8_474, hT, hlt494, hg495, hc160]
          refine hk588 _ _ ?_
          obtain ⟨j603, hj604, hm605⟩ := joinB_some hm592
          clear hm592
          refine AWp.seqP (fun fr h => ∃ (v602 : Bool) (g5_601 : Nat) (g8_601 : Nat), hset [[]] 0 [AV.slice .frz (List.map (fun n => AV.sc (Value.int .i64 n)) d340.l), AV.sc (.int .i64 d340.atF)] = h ∧ fr.env 5 = AV.lptr 5 g5_601 0 ∧ fr.env 8 = AV.lptr 8 g8_601 0 ∧ fr.env 64 = AV.slice .full (List.map Fm.av L343) ∧ fr.env 65 = AV.sc (.int .i64 (llen L343)) ∧ fr.env 66 = AV.sc (.int .i64 j344) ∧ fr.env 88 = AV.sc (.bool v602) ∧ fr.gen 5 = g5_601 ∧ fr.box 5 = some [AV.slice .frz (List.map Ty.av a2.types), AV.slice .frz (List.map Fm.av a2.hyps)] ∧ fr.gen 8 = g8_601 ∧ fr.box 8 = some [AV.slice .frz (List.map Ty.av x185.types), AV.slice .frz (List.map Fm.av x185.hyps)] ∧ j603 v602 = some c480) (fun K599 hk600 => ?_) ?_
          · refine AWp.region [] (by decide +kernel) ?_
            rcases ite_some hm605 with ⟨hc607, hm608⟩ | ⟨hc607, hm609⟩
            · clear hm605
              simp [e5_474, e8_474, e64_474, e65_474, e66_474, g5e_474, b5_474, g8e_474, b8_474, hT, hlt494, hg495, hc160, hc607]
              refine hk600 _ _ ⟨true, g5_474, g8_474, ?_, ?_, ?_, ?_, ?_, ?_, ?_, ?_, ?_, ?_, ?_, hm608⟩ <;> first | rfl | simp [e5_474, e8_474, e64_474, e65_474, e66_474, g5e_474, b5_474, g8e_474, b8_474, hT, hlt494, hg495, hc160, hc607]
            · clear hm605
              obtain ⟨x610, hx611, hm612⟩ := bind1_some hm609
              clear hm609
              try dsimp only at hm612
              simp [e5_474, e8_474, e64_474, e65_474, e66_474, g5e_474, b5_474, g8e_474, b8_474, hT, hlt494, hg495, hc160, hc607]
              refine CallAt.fn (r_ref01_Same T hx611) ?_
              simp [e5_474, e8_474, e64_474, e65_474, e66_474, g5e_474, b5_474, g8e_474, b8_474, hT, hlt494, hg495, hc160, hc607]
              refine hk600 _ _ ⟨(bnot x610), g5_474, g8_474, ?_, ?_, ?_, ?_, ?_, ?_, ?_, ?_, ?_, ?_, ?_, hm612⟩ <;> first | rfl | simp [e5_474, e8_474, e64_474, e65_474, e66_474, g5e_474, b5_474, g8e_474, b8_474, hT, hlt494, hg495, hc160, hc607]
          · clear hm605
            rintro fr601 h601 ⟨v602, g5_601, g8_601, rfl, e5_601, e8_601, e64_601, e65_601, e66_601, e88_601, g5e_601, b5_601, g8e_601, b8_601, hm606⟩
            subst hj604
            refine AWp.condK rfl fun A613 B614 ga615 gb616 => ?_
            rcases ite_some hm606 with ⟨hc617, hm618⟩ | ⟨hc617, hm619⟩
            · clear hm606
              simp [e5_601, e8_601, e64_601, e65_601, e66_601, e88_601, g5e_601, b5_601, g8e_601, b8_601, hT, hlt494, hg495, hc160, hc617]
              refine ga615 _ _ ?_
              refine AWp.seqK fun K620 hk621 => ?_
              refine AWp.region [] (by decide +kernel) ?_
              simp [e5_601, e8_601, e64_601, e65_601, e66_601, e88_601, g5e_601, b5_601, g8e_601, b8_601, hT, hlt494, hg495, hc160, hc617]
              refine hk621 _ _ ?_
              refine AWp.ret ?_
              try simp only [thenQ_ret]
              refine nr570 _ _ ?_
              try simp only [thenQ_ret]
              refine nr488 _ _ ?_
              try simp only [thenQ_ret]
              obtain rfl := Option.some.inj hm618
              rw [ctlK_ret] at hk481
              obtain rfl := Option.some.inj hk481
              rw [sumK_inr] at hmB479
              try dsimp only at hmB479
              obtain rfl := Option.some.inj hmB479
              simp [retQ, e5_601, e8_601, e64_601, e65_601, e66_601, e88_601, g5e_601, b5_601, g8e_601, b8_601, hT, hlt494, hg495, hc160, hc617]
            · clear hm606
              simp [e5_601, e8_601, e64_601, e65_601, e66_601, e88_601, g5e_601, b5_601, g8e_601, b8_601, hT, hlt494, hg495, hc160, hc617]
              refine gb616 _ _ ?_
              refine AWp.skip ?_
              try simp only [thenQ_normal]
              refine nn567 _ _ ?_
              try simp only [thenQ_normal]
              refine hk565 _ _ ?_
              refine AWp.region [] (by decide +kernel) ?_
              simp [e5_601, e8_601, e64_601, e65_601, e66_601, e88_601, g5e_601, b5_601, g8e_601, b8_601, hT, hlt494, hg495, hc160, hc617]
              obtain rfl := Option.some.inj hm619
              rw [ctlK_next] at hk481
              refine hK489 _ _ n483 (Nat.lt_succ_self _) ⟨(i345 + 1), (iadd .i64 j344 1), g5_601, g8_601, ?_, ?_, ?_, ?_, ?_, ?_, ?_, ?_, ?_, ?_, (iadd_idxJ hj491 (by omega) hok493), (by omega), hk481⟩ <;> first | rfl | simp [e5_601, e8_601, e64_601, e65_601, e66_601, e88_601, g5e_601, b5_601, g8e_601, b8_601, hT, hlt494, hg495, hc160, hc617]

theorem enters51 : entersB Tryd.prog 51 = true := by kernel_rfl
set_option maxRecDepth 20000 in
set_option maxHeartbeats 4000000 in
theorem r_ref23_Nat (T : Tabs) {H : Heap}  {r0 : Ty} (hm : ref23_Nat = some r0) : ACall Tryd.prog T 51 [] H (Ty.av r0) H := by
  rw [ref23_Nat] at hm
  refine ACallP.intro (fn := Tryd.f51) Tryd.func51 rfl enters51 (Nat.le_of_ble_eq_true rfl) ?_
  refine AWp.seqK fun K1 hk2 => ?_
  refine AWp.region [] (by decide +kernel) ?_
  simp
  refine hk2 _ _ ?_
  refine AWp.seqK fun K3 hk4 => ?_
  refine AWp.region [] (by decide +kernel) ?_
  simp
  refine hk4 _ _ ?_
  refine AWp.ret ?_
  try simp only [thenQ_ret]
  obtain rfl := Option.some.inj hm
  simp [retQ]

theorem enters26 : entersB Tryd.prog 26 = true := by kernel_rfl
set_option maxRecDepth 20000 in
set_option maxHeartbeats 4000000 in
theorem r_play_Nat (T : Tabs) {H : Heap}  {r0 : Ty} (hm : play_Nat = some r0) : ACall Tryd.prog T 26 [] H (Ty.av r0) H := by
  rw [play_Nat] at hm
  refine ACallP.intro (fn := Tryd.f26) Tryd.func26 rfl enters26 (Nat.le_of_ble_eq_true rfl) ?_
  refine AWp.seqK fun K1 hk2 => ?_
  refine AWp.region [] (by decide +kernel) ?_
  simp
  refine hk2 _ _ ?_
  refine AWp.seqK fun K6 hk7 => ?_
  refine AWp.region [] (by decide +kernel) ?_
  obtain ⟨x8, hx9, hm10⟩ := bind1_some hm
  clear hm
  try dsimp only at hm10
  simp
  refine CallAt.fn (r_ref23_Nat T hx9) ?_
  simp
  refine hk7 _ _ ?_
  refine AWp.ret ?_
  try simp only [thenQ_ret]
  obtain rfl := Option.some.inj hm10
  simp [retQ]

theorem enters57 : entersB Tryd.prog 57 = true := by kernel_rfl
set_option maxRecDepth 20000 in
set_option maxHeartbeats 4000000 in
theorem rg_ref03_Least (T : Tabs) : ∀ (n : Nat), (∀ {H : Heap} {a0 : Tm} {a1 : Int} {r0 : Bool} (hm : ref03_Least n a0 a1 = some r0), ACall Tryd.prog T 57 [Tm.av a0, AV.sc (.int .i64 a1)] H (AV.sc (.bool r0)) H) := by
  intro n
  induction n with
  | zero =>
    skip
    all_goals
      intros
      rename_i hm
      cases hm
  | succ n ih =>
    intro H a0 a1 r0 hm
    rw [ref03_Least] at hm
    refine ACallP.intro (fn := Tryd.f57) Tryd.func57 rfl enters57 (Nat.le_of_ble_eq_true rfl) ?_
    refine AWp.seqK fun K1 hk2 => ?_
    refine AWp.region [] (by decide +kernel) ?_
    simp
    refine hk2 _ _ ?_
    refine AWp.seqK fun K14 hk15 => ?_
    refine AWp.seqK fun K16 hk17 => ?_
    refine AWp.region [] (by decide +kernel) ?_
    simp
    refine hk17 _ _ ?_
    refine AWp.condK rfl fun A18 B19 ga20 gb21 => ?_
    rcases ite_some hm with ⟨hc22, hm23⟩ | ⟨hc22, hm24⟩
    · clear hm
      simp [hc22]
      refine ga20 _ _ ?_
      refine AWp.seqK fun K25 hk26 => ?_
      refine AWp.region [] (by decide +kernel) ?_
      simp [hc22]
      refine hk26 _ _ ?_
      refine AWp.ret ?_
      try simp only [thenQ_ret]
      obtain rfl := Option.some.inj hm23
      simp [retQ, hc22]
    · clear hm
      simp [hc22]
      refine gb21 _ _ ?_
      refine AWp.skip ?_
      try simp only [thenQ_normal]
      refine hk15 _ _ ?_
      refine AWp.seqK fun K96 hk97 => ?_
      refine AWp.seqK fun K98 hk99 => ?_
      refine AWp.region [] (by decide +kernel) ?_
      simp [hc22]
      refine hk99 _ _ ?_
      obtain ⟨hok185, hm264⟩ := chk_some hm24
      clear hm24
      obtain ⟨F167, hF168, hm265⟩ := joinB_some hm264
      clear hm264
      try dsimp only at hm265
      obtain ⟨out169, hl170, hmB171⟩ := bind1_some hm265
      clear hm265
      refine AWp.blockK fun Q176 nn177 ne178 nx179 nr180 => ?_
      refine AWp.loopF (fun n175 fr h => ∃ (i101 : Nat) (j100 : Int), H = h ∧ fr.env 1 = AV.sc (.int .i64 a1) ∧ fr.env 12 = AV.slice .frz (List.map Tm.av a0.args) ∧ fr.env 13 = AV.sc (.int .i64 (llen a0.args)) ∧ fr.env 14 = AV.sc (.int .i64 j100) ∧ j100 = (i101 : Int) ∧ i101 + n175 = List.length a0.args ∧ forR F167 (List.drop i101 a0.args) i101 () = some out169) (List.length a0.args) ?_ ?_
      · refine ⟨0, 0, ?_, ?_, ?_, ?_, ?_, rfl, (by simp), hl170⟩ <;> first | rfl | simp [hc22]
      · rintro n175 fr166 h166 ⟨i101, j100, rfl, e1_166, e12_166, e13_166, e14_166, hj183, hi184, hl170⟩ K182 hK181
        rcases n175 with _ | n175
        · have hlt186 := ilt_notJ (l := a0.args) hj183 (by omega)
          refine AWp.seqK fun K250 hk251 => ?_
          refine AWp.region [] (by decide +kernel) ?_
          simp [e1_166, e12_166, e13_166, e14_166, hlt186, hc22]
          refine hk251 _ _ ?_
          refine AWp.seqK fun K256 hk257 => ?_
          refine AWp.condK rfl fun A258 B259 ga260 gb261 => ?_
          simp [e1_166, e12_166, e13_166, e14_166, hlt186, hc22]
          refine gb261 _ _ ?_
          refine AWp.exit ?_
          try simp only [thenQ_exit]
          refine ne178 _ _ ?_
          try simp only [thenQ_normal]
          rw [List.drop_eq_nil_of_le (by omega), forR_nil] at hl170
          obtain rfl := Option.some.inj hl170
          rw [sumK_inl] at hmB171
          try dsimp only at hmB171
          refine hk97 _ _ ?_
          refine AWp.seqK fun K262 hk263 => ?_
          refine AWp.region [] (by decide +kernel) ?_
          simp [e1_166, e12_166, e13_166, e14_166, hlt186, hc22]
          refine hk263 _ _ ?_
          refine AWp.ret ?_
          try simp only [thenQ_ret]
          obtain rfl := Option.some.inj hmB171
          simp [retQ, e1_166, e12_166, e13_166, e14_166, hlt186, hc22]
        · have hlt186 := ilt_ofJ (l := a0.args) hj183 (by omega)
          obtain ⟨x102, hdn175, hg187⟩ := drop_ltJ (l := a0.args) hj183 (by omega)
          rw [hdn175, forR_cons] at hl170
          obtain ⟨c172, hb174, hk173⟩ := bind1_some hl170
          clear hl170
          rw [hF168, ← hj183] at hb174
          try dsimp only at hb174
          refine AWp.seqK fun K188 hk189 => ?_
          refine AWp.region [] (by decide +kernel) ?_
          simp [e1_166, e12_166, e13_166, e14_166, hlt186, hg187, hc22]
          refine hk189 _ _ ?_
          refine AWp.seqK fun K194 hk195 => ?_
          refine AWp.condK rfl fun A196 B197 ga198 gb199 => ?_
          simp [e1_166, e12_166, e13_166, e14_166, hlt186, hg187, hc22]
          refine ga198 _ _ ?_
          refine AWp.skip ?_
          try simp only [thenQ_normal]
          refine hk195 _ _ ?_
          refine AWp.seqK fun K224 hk225 => ?_
          refine AWp.blockK fun Q226 nn227 ne228 nx229 nr230 => ?_
          refine AWp.seqK fun K231 hk232 => ?_
          refine AWp.region [] (by decide +kernel) ?_
          simp [e1_166, e12_166, e13_166, e14_166, hlt186, hg187, hc22]
          refine hk232 _ _ ?_
          refine AWp.seqK fun K236 hk237 => ?_
          refine AWp.region [] (by decide +kernel) ?_
          obtain ⟨x238, hx239, hm240⟩ := bind1_some hb174
          clear hb174
          try dsimp only at hm240
          simp [e1_166, e12_166, e13_166, e14_166, hlt186, hg187, hc22]
          refine CallAt.fn (ih hx239) ?_
          simp [e1_166, e12_166, e13_166, e14_166, hlt186, hg187, hc22]
          refine hk237 _ _ ?_
          refine AWp.condK rfl fun A241 B242 ga243 gb244 => ?_
          rcases ite_some hm240 with ⟨hc245, hm246⟩ | ⟨hc245, hm247⟩
          · clear hm240
            simp [e1_166, e12_166, e13_166, e14_166, hlt186, hg187, hc22, hc245]
            refine gb244 _ _ ?_
            refine AWp.skip ?_
            try simp only [thenQ_normal]
            refine nn227 _ _ ?_
            try simp only [thenQ_normal]
            refine hk225 _ _ ?_
            refine AWp.region [] (by decide +kernel) ?_
            simp [e1_166, e12_166, e13_166, e14_166, hlt186, hg187, hc22, hc245]
            obtain rfl := Option.some.inj hm246
            rw [ctlK_next] at hk173
            refine hK181 _ _ n175 (Nat.lt_succ_self _) ⟨(i101 + 1), (iadd .i64 j100 1), ?_, ?_, ?_, ?_, ?_, (iadd_idxJ hj183 (by omega) hok185), (by omega), hk173⟩ <;> first | rfl | simp [e1_166, e12_166, e13_166, e14_166, hlt186, hg187, hc22, hc245]
          · clear hm240
            simp [e1_166, e12_166, e13_166, e14_166, hlt186, hg187, hc22, hc245]
            refine ga243 _ _ ?_
            refine AWp.seqK fun K248 hk249 => ?_
            refine AWp.region [] (by decide +kernel) ?_
            simp [e1_166, e12_166, e13_166, e14_166, hlt186, hg187, hc22, hc245]
            refine hk249 _ _ ?_
            refine AWp.ret ?_
            try simp only [thenQ_ret]
            refine nr230 _ _ ?_
            try simp only [thenQ_ret]
            refine nr180 _ _ ?_
            try simp only [thenQ_ret]
            obtain rfl := Option.some.inj hm247
            rw [ctlK_ret] at hk173
            obtain rfl := Option.some.inj hk173
            rw [sumK_inr] at hmB171
            try dsimp only at hmB171
            obtain rfl := Option.some.inj hmB171
            simp [retQ, e1_166, e12_166, e13_166, e14_166, hlt186, hg187, hc22, hc245]
theorem r_ref03_Least (T : Tabs) {H : Heap} {a0 : Tm} {a1 : Int} {r0 : Bool} {n : Nat} (hm : ref03_Least n a0 a1 = some r0) : ACall Tryd.prog T 57 [Tm.av a0, AV.sc (.int .i64 a1)] H (AV.sc (.bool r0)) H := (rg_ref03_Least T n) hm

theorem enters52 : entersB Tryd.prog 52 = true := by kernel_rfl
set_option maxRecDepth 20000 in
set_option maxHeartbeats 4000000 in
theorem rg_ref07_Least (T : Tabs) : ∀ (n : Nat), (∀ {H : Heap} {a0 : Fm} {a1 : Int} {r0 : Bool} (hm : ref07_Least n a0 a1 = some r0), ACall Tryd.prog T 52 [Fm.av a0, AV.sc (.int .i64 a1)] H (AV.sc (.bool r0)) H) := by
  intro n
  induction n with
  | zero =>
    skip
    all_goals
      intros
      rename_i hm
      cases hm
  | succ n ih =>
    intro H a0 a1 r0 hm
    rw [ref07_Least] at hm
    refine ACallP.intro (fn := Tryd.f52) Tryd.func52 rfl enters52 (Nat.le_of_ble_eq_true rfl) ?_
    refine AWp.seqK fun K1 hk2 => ?_
    refine AWp.region [] (by decide +kernel) ?_
    simp
    refine hk2 _ _ ?_
    refine AWp.seqK fun K72 hk73 => ?_
    refine AWp.seqK fun K74 hk75 => ?_
    refine AWp.region [] (by decide +kernel) ?_
    simp
    refine hk75 _ _ ?_
    obtain ⟨hok161, hm477⟩ := chk_some hm
    clear hm
    obtain ⟨F143, hF144, hm478⟩ := joinB_some hm477
    clear hm477
    try dsimp only at hm478
    obtain ⟨out145, hl146, hmB147⟩ := bind1_some hm478
    clear hm478
    refine AWp.blockK fun Q152 nn153 ne154 nx155 nr156 => ?_
    refine AWp.loopF (fun n151 fr h => ∃ (i77 : Nat) (j76 : Int) (g2_142 : Nat), H = h ∧ fr.env 1 = AV.sc (.int .i64 a1) ∧ fr.env 2 = AV.lptr 2 g2_142 0 ∧ fr.env 10 = AV.slice .frz (List.map Tm.av a0.terms) ∧ fr.env 11 = AV.sc (.int .i64 (llen a0.terms)) ∧ fr.env 12 = AV.sc (.int .i64 j76) ∧ fr.gen 2 = g2_142 ∧ fr.box 2 = some [AV.sc (.int .i64 a0.kind), AV.sc (.int .i64 a0.typeF.kind), AV.slice .frz (List.map Ty.av a0.typeF.args), AV.slice .frz (List.map Tm.av a0.terms), AV.slice .frz (List.map Fm.av a0.args)] ∧ j76 = (i77 : Int) ∧ i77 + n151 = List.length a0.terms ∧ forR F143 (List.drop i77 a0.terms) i77 () = some out145) (List.length a0.terms) ?_ ?_
    · refine ⟨0, 0, 1, ?_, ?_, ?_, ?_, ?_, ?_, ?_, ?_, rfl, (by simp), hl146⟩ <;> first | rfl | simp
    · rintro n151 fr142 h142 ⟨i77, j76, g2_142, rfl, e1_142, e2_142, e10_142, e11_142, e12_142, g2e_142, b2_142, hj159, hi160, hl146⟩ K158 hK157
      rcases n151 with _ | n151
      · have hlt162 := ilt_notJ (l := a0.terms) hj159 (by omega)
        refine AWp.seqK fun K226 hk227 => ?_
        refine AWp.region [] (by decide +kernel) ?_
        simp [e1_142, e2_142, e10_142, e11_142, e12_142, g2e_142, b2_142, hlt162]
        refine hk227 _ _ ?_
        refine AWp.seqK fun K232 hk233 => ?_
        refine AWp.condK rfl fun A234 B235 ga236 gb237 => ?_
        simp [e1_142, e2_142, e10_142, e11_142, e12_142, g2e_142, b2_142, hlt162]
        refine gb237 _ _ ?_
        refine AWp.exit ?_
        try simp only [thenQ_exit]
        refine ne154 _ _ ?_
        try simp only [thenQ_normal]
        rw [List.drop_eq_nil_of_le (by omega), forR_nil] at hl146
        obtain rfl := Option.some.inj hl146
        rw [sumK_inl] at hmB147
        try dsimp only at hmB147
        refine hk73 _ _ ?_
        refine AWp.seqK fun K307 hk308 => ?_
        refine AWp.seqK fun K309 hk310 => ?_
        refine AWp.region [] (by decide +kernel) ?_
        simp [e1_142, e2_142, e10_142, e11_142, e12_142, g2e_142, b2_142, hlt162]
        refine hk310 _ _ ?_
        obtain ⟨hok396, hm475⟩ := chk_some hmB147
        clear hmB147
        obtain ⟨F378, hF379, hm476⟩ := joinB_some hm475
        clear hm475
        try dsimp only at hm476
        obtain ⟨out380, hl381, hmB382⟩ := bind1_some hm476
        clear hm476
        refine AWp.blockK fun Q387 nn388 ne389 nx390 nr391 => ?_
        refine AWp.loopF (fun n386 fr h => ∃ (i312 : Nat) (j311 : Int), H = h ∧ fr.env 1 = AV.sc (.int .i64 a1) ∧ fr.env 22 = AV.slice .frz (List.map Fm.av a0.args) ∧ fr.env 23 = AV.sc (.int .i64 (llen a0.args)) ∧ fr.env 24 = AV.sc (.int .i64 j311) ∧ j311 = (i312 : Int) ∧ i312 + n386 = List.length a0.args ∧ forR F378 (List.drop i312 a0.args) i312 () = some out380) (List.length a0.args) ?_ ?_
        · refine ⟨0, 0, ?_, ?_, ?_, ?_, ?_, rfl, (by simp), hl381⟩ <;> first | rfl | simp [e1_142, e2_142, e10_142, e11_142, e12_142, g2e_142, b2_142, hlt162]
        · rintro n386 fr377 h377 ⟨i312, j311, rfl, e1_377, e22_377, e23_377, e24_377, hj394, hi395, hl381⟩ K393 hK392
          rcases n386 with _ | n386
          · have hlt397 := ilt_notJ (l := a0.args) hj394 (by omega)
            refine AWp.seqK fun K461 hk462 => ?_
            refine AWp.region [] (by decide +kernel) ?_
            simp [e1_377, e22_377, e23_377, e24_377, hlt162, hlt397]
            refine hk462 _ _ ?_
            refine AWp.seqK fun K467 hk468 => ?_
            refine AWp.condK rfl fun A469 B470 ga471 gb472 => ?_
            simp [e1_377, e22_377, e23_377, e24_377, hlt162, hlt397]
            refine gb472 _ _ ?_
            refine AWp.exit ?_
            try simp only [thenQ_exit]
            refine ne389 _ _ ?_
            try simp only [thenQ_normal]
            rw [List.drop_eq_nil_of_le (by omega), forR_nil] at hl381
            obtain rfl := Option.some.inj hl381
            rw [sumK_inl] at hmB382
            try dsimp only at hmB382
            refine hk308 _ _ ?_
            refine AWp.seqK fun K473 hk474 => ?_
            refine AWp.region [] (by decide +kernel) ?_
            simp [e1_377, e22_377, e23_377, e24_377, hlt162, hlt397]
            refine hk474 _ _ ?_
            refine AWp.ret ?_
            try simp only [thenQ_ret]
            obtain rfl := Option.some.inj hmB382
            simp [retQ, e1_377, e22_377, e23_377, e24_377, hlt162, hlt397]
          · have hlt397 := ilt_ofJ (l := a0.args) hj394 (by omega)
            obtain ⟨x313, hdn386, hg398⟩ := drop_ltJ (l := a0.args) hj394 (by omega)
            rw [hdn386, forR_cons] at hl381
            obtain ⟨c383, hb385, hk384⟩ := bind1_some hl381
            clear hl381
            rw [hF379, ← hj394] at hb385
            try dsimp only at hb385
            refine AWp.seqK fun K399 hk400 => ?_
            refine AWp.region [] (by decide +kernel) ?_
            simp [e1_377, e22_377, e23_377, e24_377, hlt162, hlt397, hg398]
            refine hk400 _ _ ?_
            refine AWp.seqK fun K405 hk406 => ?_
            refine AWp.condK rfl fun A407 B408 ga409 gb410 => ?_
            simp [e1_377, e22_377, e23_377, e24_377, hlt162, hlt397, hg398]
            refine ga409 _ _ ?_
            refine AWp.skip ?_
            try simp only [thenQ_normal]
            refine hk406 _ _ ?_
            refine AWp.seqK fun K435 hk436 => ?_
            refine AWp.blockK fun Q437 nn438 ne439 nx440 nr441 => ?_
            refine AWp.seqK fun K442 hk443 => ?_
            refine AWp.region [] (by decide +kernel) ?_
            simp [e1_377, e22_377, e23_377, e24_377, hlt162, hlt397, hg398]
            refine hk443 _ _ ?_
            refine AWp.seqK fun K447 hk448 => ?_
            refine AWp.region [] (by decide +kernel) ?_
            obtain ⟨x449, hx450, hm451⟩ := bind1_some hb385
            clear hb385
            try dsimp only at hm451
            simp [e1_377, e22_377, e23_377, e24_377, hlt162, hlt397, hg398]
            refine CallAt.fn (ih hx450) ?_
            simp [e1_377, e22_377, e23_377, e24_377, hlt162, hlt397, hg398]
            refine hk448 _ _ ?_
            refine AWp.condK rfl fun A452 B453 ga454 gb455 => ?_
            rcases ite_some hm451 with ⟨hc456, hm457⟩ | ⟨hc456, hm458⟩
            · clear hm451
              simp [e1_377, e22_377, e23_377, e24_377, hlt162, hlt397, hg398, hc456]
              refine gb455 _ _ ?_
              refine AWp.skip ?_
              try simp only [thenQ_normal]
              refine nn438 _ _ ?_
              try simp only [thenQ_normal]
              refine hk436 _ _ ?_
              refine AWp.region [] (by decide +kernel) ?_
              simp [e1_377, e22_377, e23_377, e24_377, hlt162, hlt397, hg398, hc456]
              obtain rfl := Option.some.inj hm457
              rw [ctlK_next] at hk384
              refine hK392 _ _ n386 (Nat.lt_succ_self _) ⟨(i312 + 1), (iadd .i64 j311 1), ?_, ?_, ?_, ?_, ?_, (iadd_idxJ hj394 (by omega) hok396), (by omega), hk384⟩ <;> first | rfl | simp [e1_377, e22_377, e23_377, e24_377, hlt162, hlt397, hg398, hc456]
            · clear hm451
              simp [e1_377, e22_377, e23_377, e24_377, hlt162, hlt397, hg398, hc456]
              refine ga454 _ _ ?_
              refine AWp.seqK fun K459 hk460 => ?_
              refine AWp.region [] (by decide +kernel) ?_
              simp [e1_377, e22_377, e23_377, e24_377, hlt162, hlt397, hg398, hc456]
              refine hk460 _ _ ?_
              refine AWp.ret ?_
              try simp only [thenQ_ret]
              refine nr441 _ _ ?_
              try simp only [thenQ_ret]
              refine nr391 _ _ ?_
              try simp only [thenQ_ret]
              obtain rfl := Option.some.inj hm458
              rw [ctlK_ret] at hk384
              obtain rfl := Option.some.inj hk384
              rw [sumK_inr] at hmB382
              try dsimp only at hmB382
              obtain rfl := Option.some.inj hmB382
              simp [retQ, e1_377, e22_377, e23_377, e24_377, hlt162, hlt397, hg398, hc456]
      · have hlt162 := ilt_ofJ (l := a0.terms) hj159 (by omega)
        obtain ⟨x78, hdn151, hg163⟩ := drop_ltJ (l := a0.terms) hj159 (by omega)
        rw [hdn151, forR_cons] at hl146
        obtain ⟨c148, hb150, hk149⟩ := bind1_some hl146
        clear hl146
        rw [hF144, ← hj159] at hb150
        try dsimp only at hb150
        refine AWp.seqK fun K164 hk165 => ?_
        refine AWp.region [] (by decide +kernel) ?_
        simp [e1_142, e2_142, e10_142, e11_142, e12_142, g2e_142, b2_142, hlt162, hg163]
        refine hk165 _ _ ?_
        refine AWp.seqK fun K170 hk171 => ?_
        refine AWp.condK rfl fun A172 B173 ga174 gb175 => ?_
        simp [e1_142, e2_142, e10_142, e11_142, e12_142, g2e_142, b2_142, hlt162, hg163]
        refine ga174 _ _ ?_
        refine AWp.skip ?_
        try simp only [thenQ_normal]
        refine hk171 _ _ ?_
        refine AWp.seqK fun K200 hk201 => ?_
        refine AWp.blockK fun Q202 nn203 ne204 nx205 nr206 => ?_
        refine AWp.seqK fun K207 hk208 => ?_
        refine AWp.region [] (by decide +kernel) ?_
        simp [e1_142, e2_142, e10_142, e11_142, e12_142, g2e_142, b2_142, hlt162, hg163]
        refine hk208 _ _ ?_
        refine AWp.seqK fun K212 hk213 => ?_
        refine AWp.region [] (by decide +kernel) ?_
        obtain ⟨x214, hx215, hm216⟩ := bind1_some hb150
        clear hb150
        try dsimp only at hm216
        simp [e1_142, e2_142, e10_142, e11_142, e12_142, g2e_142, b2_142, hlt162, hg163]
        refine CallAt.fn (r_ref03_Least T hx215) ?_
        simp [e1_142, e2_142, e10_142, e11_142, e12_142, g2e_142, b2_142, hlt162, hg163]
        refine hk213 _ _ ?_
        refine AWp.condK rfl fun A217 B218 ga219 gb220 => ?_
        rcases ite_some hm216 with ⟨hc221, hm222⟩ | ⟨hc221, hm223⟩
        · clear hm216
          simp [e1_142, e2_142, e10_142, e11_142, e12_142, g2e_142, b2_142, hlt162, hg163, hc221]
          refine gb220 _ _ ?_
          refine AWp.skip ?_
          try simp only [thenQ_normal]
          refine nn203 _ _ ?_
          try simp only [thenQ_normal]
          refine hk201 _ _ ?_
          refine AWp.region [] (by decide +kernel) ?_
          simp [e1_142, e2_142, e10_142, e11_142, e12_142, g2e_142, b2_142, hlt162, hg163, hc221]
          obtain rfl := Option.some.inj hm222
          rw [ctlK_next] at hk149
          refine hK157 _ _ n151 (Nat.lt_succ_self _) ⟨(i77 + 1), (iadd .i64 j76 1), g2_142, ?_, ?_, ?_, ?_, ?_, ?_, ?_, ?_, (iadd_idxJ hj159 (by omega) hok161), (by omega), hk149⟩ <;> first | rfl | simp [e1_142, e2_142, e10_142, e11_142, e12_142, g2e_142, b2_142, hlt162, hg163, hc221]
        · clear hm216
          simp [e1_142, e2_142, e10_142, e11_142, e12_142, g2e_142, b2_142, hlt162, hg163, hc221]
          refine ga219 _ _ ?_
          refine AWp.seqK fun K224 hk225 => ?_
          refine AWp.region [] (by decide +kernel) ?_
          simp [e1_142, e2_142, e10_142, e11_142, e12_142, g2e_142, b2_142, hlt162, hg163, hc221]
          refine hk225 _ _ ?_
          refine AWp.ret ?_
          try simp only [thenQ_ret]
          refine nr206 _ _ ?_
          try simp only [thenQ_ret]
          refine nr156 _ _ ?_
          try simp only [thenQ_ret]
          obtain rfl := Option.some.inj hm223
          rw [ctlK_ret] at hk149
          obtain rfl := Option.some.inj hk149
          rw [sumK_inr] at hmB147
          try dsimp only at hmB147
          obtain rfl := Option.some.inj hmB147
          simp [retQ, e1_142, e2_142, e10_142, e11_142, e12_142, g2e_142, b2_142, hlt162, hg163, hc221]
theorem r_ref07_Least (T : Tabs) {H : Heap} {a0 : Fm} {a1 : Int} {r0 : Bool} {n : Nat} (hm : ref07_Least n a0 a1 = some r0) : ACall Tryd.prog T 52 [Fm.av a0, AV.sc (.int .i64 a1)] H (AV.sc (.bool r0)) H := (rg_ref07_Least T n) hm

theorem enters102 : entersB Tryd.prog 102 = true := by kernel_rfl
set_option maxRecDepth 20000 in
set_option maxHeartbeats 4000000 in
theorem r_ref03_below (T : Tabs) {H : Heap} {a0 : Tm} {r0 : Int} (hm : ref03_below a0 = some r0) : ACall Tryd.prog T 102 [Tm.av a0] H (AV.sc (.int .i64 r0)) H := by
  rw [ref03_below] at hm
  refine ACallP.intro (fn := Tryd.f102) Tryd.func102 rfl enters102 (Nat.le_of_ble_eq_true rfl) ?_
  refine AWp.seqK fun K1 hk2 => ?_
  refine AWp.region [] (by decide +kernel) ?_
  simp
  refine hk2 _ _ ?_
  refine AWp.seqK fun K14 hk15 => ?_
  refine AWp.seqK fun K16 hk17 => ?_
  refine AWp.region [] (by decide +kernel) ?_
  simp
  refine hk17 _ _ ?_
  refine AWp.condK rfl fun A18 B19 ga20 gb21 => ?_
  rcases ite_some hm with ⟨hc22, hm23⟩ | ⟨hc22, hm24⟩
  · clear hm
    simp [hc22]
    refine ga20 _ _ ?_
    refine AWp.seqK fun K25 hk26 => ?_
    refine AWp.region [] (by decide +kernel) ?_
    simp [hc22]
    refine hk26 _ _ ?_
    refine AWp.ret ?_
    try simp only [thenQ_ret]
    obtain rfl := Option.some.inj hm23
    simp [retQ, hc22]
  · clear hm
    simp [hc22]
    refine gb21 _ _ ?_
    refine AWp.skip ?_
    try simp only [thenQ_normal]
    refine hk15 _ _ ?_
    refine AWp.seqK fun K27 hk28 => ?_
    refine AWp.region [] (by decide +kernel) ?_
    simp [hc22]
    refine hk28 _ _ ?_
    refine AWp.ret ?_
    try simp only [thenQ_ret]
    obtain rfl := Option.some.inj hm24
    simp [retQ, hc22]

theorem enters86 : entersB Tryd.prog 86 = true := by kernel_rfl
set_option maxRecDepth 20000 in
set_option maxHeartbeats 4000000 in
theorem rg_ref03_Up (T : Tabs) : ∀ (n : Nat), (∀ {H : Heap} {a0 : Tm} {a1 : Int} {a2 : Int} {r0 : Tm} (hm : ref03_Up n a0 a1 a2 = some r0), ACall Tryd.prog T 86 [Tm.av a0, AV.sc (.int .i64 a1), AV.sc (.int .i64 a2)] H (Tm.av r0) H) := by
  intro n
  induction n with
  | zero =>
    skip
    all_goals
      intros
      rename_i hm
      cases hm
  | succ n ih =>
    intro H a0 a1 a2 r0 hm
    rw [ref03_Up] at hm
    refine ACallP.intro (fn := Tryd.f86) Tryd.func86 rfl enters86 (Nat.le_of_ble_eq_true rfl) ?_
    refine AWp.seqK fun K1 hk2 => ?_
    refine AWp.region [] (by decide +kernel) ?_
    simp
    refine hk2 _ _ ?_
    refine AWp.seqK fun K3 hk4 => ?_
    refine AWp.region [] (by decide +kernel) ?_
    simp
    refine hk4 _ _ ?_
    refine AWp.seqP (fun fr h => ∃ (g3_23 : Nat) (g6_23 : Nat) (g7_23 : Nat), H = h ∧ fr.env 1 = AV.sc (.int .i64 a1) ∧ fr.env 2 = AV.sc (.int .i64 a2) ∧ fr.env 3 = AV.lptr 3 g3_23 0 ∧ fr.env 6 = AV.lptr 6 g6_23 0 ∧ fr.env 7 = AV.lptr 7 g7_23 0 ∧ fr.gen 3 = g3_23 ∧ fr.box 3 = some [AV.sc (.int .i64 a0.kind), AV.sc (.int .i64 a0.index), AV.sc (.int .i64 a0.typeF.kind), AV.slice .frz (List.map Ty.av a0.typeF.args), AV.slice .frz (List.map Tm.av a0.args)] ∧ fr.gen 6 = g6_23 ∧ fr.box 6 = some [AV.sc (.int .i64 0), AV.sc (.int .i64 0), AV.sc (.int .i64 0), AV.slice .full [], AV.slice .full []] ∧ fr.gen 7 = g7_23 ∧ fr.box 7 = some [AV.sc (.int .i64 a0.kind), AV.sc (.int .i64 (sel (sel (ieq a0.kind 1) (ige a0.index a1) false) (iadd .i64 a0.index a2) a0.index)), AV.sc (.int .i64 a0.typeF.kind), AV.slice .frz (List.map Ty.av a0.typeF.args), AV.slice .full []]) (fun K21 hk22 => ?_) ?_
    · refine AWp.seqP (fun fr h => ∃ (g3_29 : Nat) (g6_29 : Nat) (g7_29 : Nat), H = h ∧ fr.env 1 = AV.sc (.int .i64 a1) ∧ fr.env 2 = AV.sc (.int .i64 a2) ∧ fr.env 3 = AV.lptr 3 g3_29 0 ∧ fr.env 6 = AV.lptr 6 g6_29 0 ∧ fr.env 7 = AV.lptr 7 g7_29 0 ∧ fr.env 25 = AV.sc (.bool (sel (ieq a0.kind 1) (ige a0.index a1) false)) ∧ fr.gen 3 = g3_29 ∧ fr.box 3 = some [AV.sc (.int .i64 a0.kind), AV.sc (.int .i64 a0.index), AV.sc (.int .i64 a0.typeF.kind), AV.slice .frz (List.map Ty.av a0.typeF.args), AV.slice .frz (List.map Tm.av a0.args)] ∧ fr.gen 6 = g6_29 ∧ fr.box 6 = some [AV.sc (.int .i64 0), AV.sc (.int .i64 0), AV.sc (.int .i64 0), AV.slice .full [], AV.slice .full []] ∧ fr.gen 7 = g7_29 ∧ fr.box 7 = some [AV.sc (.int .i64 a0.kind), AV.sc (.int .i64 a0.index), AV.sc (.int .i64 a0.typeF.kind), AV.slice .frz (List.map Ty.av a0.typeF.args), AV.slice .full []]) (fun K27 hk28 => ?_) ?_
      · refine AWp.region [] (by decide +kernel) ?_
        rcases Bool.eq_false_or_eq_true (ieq a0.kind 1) with hc30 | hc30
        · simp [hc30]
          refine hk28 _ _ ⟨1, 1, 1, ?_, ?_, ?_, ?_, ?_, ?_, ?_, ?_, ?_, ?_, ?_, ?_, ?_⟩ <;> first | rfl | simp [hc30]
        · simp [hc30]
          refine hk28 _ _ ⟨1, 1, 1, ?_, ?_, ?_, ?_, ?_, ?_, ?_, ?_, ?_, ?_, ?_, ?_, ?_⟩ <;> first | rfl | simp [hc30]
      · rintro fr29 h29 ⟨g3_29, g6_29, g7_29, rfl, e1_29, e2_29, e3_29, e6_29, e7_29, e25_29, g3e_29, b3_29, g6e_29, b6_29, g7e_29, b7_29⟩
        refine AWp.condK rfl fun A33 B34 ga35 gb36 => ?_
        rcases Bool.eq_false_or_eq_true (sel (ieq a0.kind 1) (ige a0.index a1) false) with hc37 | hc37
        · simp [e1_29, e2_29, e3_29, e6_29, e7_29, e25_29, g3e_29, b3_29, g6e_29, b6_29, g7e_29, b7_29, hc37]
          refine ga35 _ _ ?_
          refine AWp.region [] (by decide +kernel) ?_
          simp [e1_29, e2_29, e3_29, e6_29, e7_29, e25_29, g3e_29, b3_29, g6e_29, b6_29, g7e_29, b7_29, hc37]
          refine hk22 _ _ ⟨g3_29, g6_29, g7_29, ?_, ?_, ?_, ?_, ?_, ?_, ?_, ?_, ?_, ?_, ?_, ?_⟩ <;> first | rfl | simp [e1_29, e2_29, e3_29, e6_29, e7_29, e25_29, g3e_29, b3_29, g6e_29, b6_29, g7e_29, b7_29, hc37]
        · simp [e1_29, e2_29, e3_29, e6_29, e7_29, e25_29, g3e_29, b3_29, g6e_29, b6_29, g7e_29, b7_29, hc37]
          refine gb36 _ _ ?_
          refine AWp.skip ?_
          try simp only [thenQ_normal]
          refine hk22 _ _ ⟨g3_29, g6_29, g7_29, ?_, ?_, ?_, ?_, ?_, ?_, ?_, ?_, ?_, ?_, ?_, ?_⟩ <;> first | rfl | simp [e1_29, e2_29, e3_29, e6_29, e7_29, e25_29, g3e_29, b3_29, g6e_29, b6_29, g7e_29, b7_29, hc37]
    · rintro fr23 h23 ⟨g3_23, g6_23, g7_23, rfl, e1_23, e2_23, e3_23, e6_23, e7_23, g3e_23, b3_23, g6e_23, b6_23, g7e_23, b7_23⟩
      refine AWp.seqK fun K138 hk139 => ?_
      refine AWp.seqK fun K140 hk141 => ?_
      refine AWp.region [] (by decide +kernel) ?_
      simp [e1_23, e2_23, e3_23, e6_23, e7_23, g3e_23, b3_23, g6e_23, b6_23, g7e_23, b7_23]
      refine hk141 _ _ ?_
      obtain ⟨hok256, hm317⟩ := chk_some hm
      clear hm
      obtain ⟨F238, hF239, hm318⟩ := joinB_some hm317
      clear hm317
      try dsimp only at hm318
      obtain ⟨out240, hl241, hmB242⟩ := bind1_some hm318
      clear hm318
      refine AWp.blockK fun Q247 nn248 ne249 nx250 nr251 => ?_
      refine AWp.loopF (fun n246 fr h => ∃ (i143 : Nat) (j142 : Int) (v237 : (List Tm)) (tg0_236 : Tag) (g3_236 : Nat) (g6_236 : Nat) (g7_236 : Nat), H = h ∧ fr.env 1 = AV.sc (.int .i64 a1) ∧ fr.env 2 = AV.sc (.int .i64 a2) ∧ fr.env 3 = AV.lptr 3 g3_236 0 ∧ fr.env 6 = AV.lptr 6 g6_236 0 ∧ fr.env 7 = AV.lptr 7 g7_236 0 ∧ fr.env 32 = AV.slice .frz (List.map Tm.av a0.args) ∧ fr.env 33 = AV.sc (.int .i64 (llen a0.args)) ∧ fr.env 34 = AV.sc (.int .i64 j142) ∧ fr.gen 3 = g3_236 ∧ fr.box 3 = some [AV.sc (.int .i64 a0.kind), AV.sc (.int .i64 a0.index), AV.sc (.int .i64 a0.typeF.kind), AV.slice .frz (List.map Ty.av a0.typeF.args), AV.slice .frz (List.map Tm.av a0.args)] ∧ fr.gen 6 = g6_236 ∧ fr.box 6 = some [AV.sc (.int .i64 0), AV.sc (.int .i64 0), AV.sc (.int .i64 0), AV.slice .full [], AV.slice .full []] ∧ fr.gen 7 = g7_236 ∧ fr.box 7 = some [AV.sc (.int .i64 a0.kind), AV.sc (.int .i64 (sel (sel (ieq a0.kind 1) (ige a0.index a1) false) (iadd .i64 a0.index a2) a0.index)), AV.sc (.int .i64 a0.typeF.kind), AV.slice .frz (List.map Ty.av a0.typeF.args), AV.slice tg0_236 (List.map Tm.av v237)] ∧ OwnT fr.tab fr.tgen [48] tg0_236 (List.length v237) ∧ j142 = (i143 : Int) ∧ i143 + n246 = List.length a0.args ∧ forR F238 (List.drop i143 a0.args) i143 v237 = some out240) (List.length a0.args) ?_ ?_
      · refine ⟨0, 0, [], .full, g3_23, g6_23, g7_23, ?_, ?_, ?_, ?_, ?_, ?_, ?_, ?_, ?_, ?_, ?_, ?_, ?_, ?_, ?_, OwnT.full, rfl, (by simp), hl241⟩ <;> first | rfl | simp [e1_23, e2_23, e3_23, e6_23, e7_23, g3e_23, b3_23, g6e_23, b6_23, g7e_23, b7_23]
      · rintro n246 fr236 h236 ⟨i143, j142, v237, tg0_236, g3_236, g6_236, g7_236, rfl, e1_236, e2_236, e3_236, e6_236, e7_236, e32_236, e33_236, e34_236, g3e_236, b3_236, g6e_236, b6_236, g7e_236, b7_236, o0_236, hj254, hi255, hl241⟩ K253 hK252
        rcases n246 with _ | n246
        · have hlt257 := ilt_notJ (l := a0.args) hj254 (by omega)
          refine AWp.seqK fun K303 hk304 => ?_
          refine AWp.region [] (by decide +kernel) ?_
          simp [e1_236, e2_236, e3_236, e6_236, e7_236, e32_236, e33_236, e34_236, g3e_236, b3_236, g6e_236, b6_236, g7e_236, b7_236, hlt257]
          refine hk304 _ _ ?_
          refine AWp.seqK fun K309 hk310 => ?_
          refine AWp.condK rfl fun A311 B312 ga313 gb314 => ?_
          simp [e1_236, e2_236, e3_236, e6_236, e7_236, e32_236, e33_236, e34_236, g3e_236, b3_236, g6e_236, b6_236, g7e_236, b7_236, hlt257]
          refine gb314 _ _ ?_
          refine AWp.exit ?_
          try simp only [thenQ_exit]
          refine ne249 _ _ ?_
          try simp only [thenQ_normal]
          rw [List.drop_eq_nil_of_le (by omega), forR_nil] at hl241
          obtain rfl := Option.some.inj hl241
          rw [sumK_inl] at hmB242
          try dsimp only at hmB242
          refine hk139 _ _ ?_
          refine AWp.seqK fun K315 hk316 => ?_
          refine AWp.region [] (by decide +kernel) ?_
          simp [e1_236, e2_236, e3_236, e6_236, e7_236, e32_236, e33_236, e34_236, g3e_236, b3_236, g6e_236, b6_236, g7e_236, b7_236, hlt257]
          refine hk316 _ _ ?_
          refine AWp.ret ?_
          try simp only [thenQ_ret]
          obtain rfl := Option.some.inj hmB242
          simp [retQ, e1_236, e2_236, e3_236, e6_236, e7_236, e32_236, e33_236, e34_236, g3e_236, b3_236, g6e_236, b6_236, g7e_236, b7_236, hlt257]
        · have hlt257 := ilt_ofJ (l := a0.args) hj254 (by omega)
          obtain ⟨x144, hdn246, hg258⟩ := drop_ltJ (l := a0.args) hj254 (by omega)
          rw [hdn246, forR_cons] at hl241
          obtain ⟨c243, hb245, hk244⟩ := bind1_some hl241
          clear hl241
          rw [hF239, ← hj254] at hb245
          try dsimp only at hb245
          refine AWp.seqK fun K259 hk260 => ?_
          refine AWp.region [] (by decide +kernel) ?_
          simp [e1_236, e2_236, e3_236, e6_236, e7_236, e32_236, e33_236, e34_236, g3e_236, b3_236, g6e_236, b6_236, g7e_236, b7_236, hlt257, hg258]
          refine hk260 _ _ ?_
          refine AWp.seqK fun K265 hk266 => ?_
          refine AWp.condK rfl fun A267 B268 ga269 gb270 => ?_
          simp [e1_236, e2_236, e3_236, e6_236, e7_236, e32_236, e33_236, e34_236, g3e_236, b3_236, g6e_236, b6_236, g7e_236, b7_236, hlt257, hg258]
          refine ga269 _ _ ?_
          refine AWp.skip ?_
          try simp only [thenQ_normal]
          refine hk266 _ _ ?_
          refine AWp.seqK fun K286 hk287 => ?_
          refine AWp.blockK fun Q288 nn289 ne290 nx291 nr292 => ?_
          refine AWp.seqK fun K293 hk294 => ?_
          refine AWp.region [] (by decide +kernel) ?_
          simp [e1_236, e2_236, e3_236, e6_236, e7_236, e32_236, e33_236, e34_236, g3e_236, b3_236, g6e_236, b6_236, g7e_236, b7_236, hlt257, hg258]
          refine hk294 _ _ ?_
          refine AWp.regionD [] false mixed (by decide +kernel) (by decide +kernel) ?_
          obtain ⟨x295, hx296, hm297⟩ := bind1_some hb245
          clear hb245
          try dsimp only at hm297
          simp [e1_236, e2_236, e3_236, e6_236, e7_236, e32_236, e33_236, e34_236, g3e_236, b3_236, g6e_236, b6_236, g7e_236, b7_236, hlt257, hg258]
          refine CallAtD.fn (r_ref03_below T hx296) (by simp) ?_
          obtain ⟨x298, hx299, hm300⟩ := bind1_some hm297
          clear hm297
          try dsimp only at hm300
          simp [e1_236, e2_236, e3_236, e6_236, e7_236, e32_236, e33_236, e34_236, g3e_236, b3_236, g6e_236, b6_236, g7e_236, b7_236, hlt257, hg258]
          refine CallAtD.fn (ih hx299) (by simp) ?_
          obtain ⟨ha301, hm302⟩ := chk_some hm300
          clear hm300
          simp [e1_236, e2_236, e3_236, e6_236, e7_236, e32_236, e33_236, e34_236, g3e_236, b3_236, g6e_236, b6_236, g7e_236, b7_236, hlt257, hg258]
          refine AppAt.own (f := Tm.av) v237 [x298] o0_236 ap26 (by intro x; simp) ha301 (by first | rfl | simp) (by first | rfl | simp) ?_
          simp [e1_236, e2_236, e3_236, e6_236, e7_236, e32_236, e33_236, e34_236, g3e_236, b3_236, g6e_236, b6_236, g7e_236, b7_236, hlt257, hg258]
          refine nn289 _ _ ?_
          try simp only [thenQ_normal]
          refine hk287 _ _ ?_
          refine AWp.region [] (by decide +kernel) ?_
          simp [e1_236, e2_236, e3_236, e6_236, e7_236, e32_236, e33_236, e34_236, g3e_236, b3_236, g6e_236, b6_236, g7e_236, b7_236, hlt257, hg258]
          obtain rfl := Option.some.inj hm302
          rw [ctlK_next] at hk244
          refine hK252 _ _ n246 (Nat.lt_succ_self _) ⟨(i143 + 1), (iadd .i64 j142 1), (lapp v237 [x298]), (.loc 48 (fr236.tgen 48 + 1)), g3_236, g6_236, g7_236, ?_, ?_, ?_, ?_, ?_, ?_, ?_, ?_, ?_, ?_, ?_, ?_, ?_, ?_, ?_, (OwnT.mono (D := [48]) (OwnT.new (D := [48]) (d := 48) (by decide)) (by decide)), (iadd_idxJ hj254 (by omega) hok256), (by omega), hk244⟩ <;> first | rfl | simp [e1_236, e2_236, e3_236, e6_236, e7_236, e32_236, e33_236, e34_236, g3e_236, b3_236, g6e_236, b6_236, g7e_236, b7_236, hlt257, hg258]
theorem r_ref03_Up (T : Tabs) {H : Heap} {a0 : Tm} {a1 : Int} {a2 : Int} {r0 : Tm} {n : Nat} (hm : ref03_Up n a0 a1 a2 = some r0) : ACall Tryd.prog T 86 [Tm.av a0, AV.sc (.int .i64 a1), AV.sc (.int .i64 a2)] H (Tm.av r0) H := (rg_ref03_Up T n) hm

end Go.Proofs.YtdihelfnjememaaDoor
