/- The program's functions do what the models say. -/
import Derived.Test.YtdihelfnjememaaDoorCR06
import Derived.Test.YtdihelfnjememaaDoorCM
set_option linter.unusedSimpArgs false
set_option linter.unusedVariables false
namespace Go.Proofs.YtdihelfnjememaaDoor
open Go Go.Abs Go.Mdl

theorem enters60 : entersB Tryd.prog 60 = true := by kernel_rfl
set_option maxRecDepth 20000 in
set_option maxHeartbeats 4000000 in
theorem rg_ref02_Count (T : Tabs) : ∀ (n : Nat), (∀ {H : Heap} {a0 : Tm} {r0 : Int} (hm : ref02_Count n a0 = some r0), ACall Tryd.prog T 60 [Tm.av a0] H (AV.sc (.int .i64 r0)) H) := by
  intro n
  induction n with
  | zero =>
    skip
    all_goals
      intros
      rename_i hm
      cases hm
  | succ n ih =>
    intro H a0 r0 hm
    rw [ref02_Count] at hm
    refine ACallP.intro (fn := Tryd.f60) Tryd.func60 rfl enters60 (Nat.le_of_ble_eq_true rfl) ?_
    refine AWp.seqK fun K1 hk2 => ?_
    refine AWp.region [] (by decide +kernel) ?_
    simp
    refine hk2 _ _ ?_
    refine AWp.seqK fun K3 hk4 => ?_
    refine AWp.region [] (by decide +kernel) ?_
    simp
    refine hk4 _ _ ?_
    refine AWp.seqK fun K83 hk84 => ?_
    refine AWp.seqK fun K85 hk86 => ?_
    refine AWp.region [] (by decide +kernel) ?_
    simp
    refine hk86 _ _ ?_
    obtain ⟨hok181, hm232⟩ := chk_some hm
    clear hm
    obtain ⟨F163, hF164, hm233⟩ := joinB_some hm232
    clear hm232
    try dsimp only at hm233
    obtain ⟨out165, hl166, hmB167⟩ := bind1_some hm233
    clear hm233
    refine AWp.blockK fun Q172 nn173 ne174 nx175 nr176 => ?_
    refine AWp.loopF (fun n171 fr h => ∃ (i88 : Nat) (j87 : Int) (v162 : Int), H = h ∧ fr.env 3 = AV.sc (.int .i64 v162) ∧ fr.env 7 = AV.slice .frz (List.map Tm.av a0.args) ∧ fr.env 8 = AV.sc (.int .i64 (llen a0.args)) ∧ fr.env 9 = AV.sc (.int .i64 j87) ∧ j87 = (i88 : Int) ∧ i88 + n171 = List.length a0.args ∧ forR F163 (List.drop i88 a0.args) i88 v162 = some out165) (List.length a0.args) ?_ ?_
    · refine ⟨0, 0, 1, ?_, ?_, ?_, ?_, ?_, rfl, (by simp), hl166⟩ <;> first | rfl | simp
    · rintro n171 fr161 h161 ⟨i88, j87, v162, rfl, e3_161, e7_161, e8_161, e9_161, hj179, hi180, hl166⟩ K178 hK177
      rcases n171 with _ | n171
      · have hlt182 := ilt_notJ (l := a0.args) hj179 (by omega)
        refine AWp.seqK fun K218 hk219 => ?_
        refine AWp.region [] (by decide +kernel) ?_
        simp [e3_161, e7_161, e8_161, e9_161, hlt182]
        refine hk219 _ _ ?_
        refine AWp.seqK fun K224 hk225 => ?_
        refine AWp.condK rfl fun A226 B227 ga228 gb229 => ?_
        simp [e3_161, e7_161, e8_161, e9_161, hlt182]
        refine gb229 _ _ ?_
        refine AWp.exit ?_
        try simp only [thenQ_exit]
        refine ne174 _ _ ?_
        try simp only [thenQ_normal]
        rw [List.drop_eq_nil_of_le (by omega), forR_nil] at hl166
        obtain rfl := Option.some.inj hl166
        rw [sumK_inl] at hmB167
        try dsimp only at hmB167
        refine hk84 _ _ ?_
        refine AWp.seqK fun K230 hk231 => ?_
        refine AWp.region [] (by decide +kernel) ?_
        simp [e3_161, e7_161, e8_161, e9_161, hlt182]
        refine hk231 _ _ ?_
        refine AWp.ret ?_
        try simp only [thenQ_ret]
        obtain rfl := Option.some.inj hmB167
        simp [retQ, e3_161, e7_161, e8_161, e9_161, hlt182]
      · have hlt182 := ilt_ofJ (l := a0.args) hj179 (by omega)
        obtain ⟨x89, hdn171, hg183⟩ := drop_ltJ (l := a0.args) hj179 (by omega)
        rw [hdn171, forR_cons] at hl166
        obtain ⟨c168, hb170, hk169⟩ := bind1_some hl166
        clear hl166
        rw [hF164, ← hj179] at hb170
        try dsimp only at hb170
        refine AWp.seqK fun K184 hk185 => ?_
        refine AWp.region [] (by decide +kernel) ?_
        simp [e3_161, e7_161, e8_161, e9_161, hlt182, hg183]
        refine hk185 _ _ ?_
        refine AWp.seqK fun K190 hk191 => ?_
        refine AWp.condK rfl fun A192 B193 ga194 gb195 => ?_
        simp [e3_161, e7_161, e8_161, e9_161, hlt182, hg183]
        refine ga194 _ _ ?_
        refine AWp.skip ?_
        try simp only [thenQ_normal]
        refine hk191 _ _ ?_
        refine AWp.seqK fun K206 hk207 => ?_
        refine AWp.blockK fun Q208 nn209 ne210 nx211 nr212 => ?_
        refine AWp.seqK fun K213 hk214 => ?_
        refine AWp.region [] (by decide +kernel) ?_
        simp [e3_161, e7_161, e8_161, e9_161, hlt182, hg183]
        refine hk214 _ _ ?_
        refine AWp.region [] (by decide +kernel) ?_
        obtain ⟨x215, hx216, hm217⟩ := bind1_some hb170
        clear hb170
        try dsimp only at hm217
        simp [e3_161, e7_161, e8_161, e9_161, hlt182, hg183]
        refine CallAt.fn (ih hx216) ?_
        simp [e3_161, e7_161, e8_161, e9_161, hlt182, hg183]
        refine nn209 _ _ ?_
        try simp only [thenQ_normal]
        refine hk207 _ _ ?_
        refine AWp.region [] (by decide +kernel) ?_
        simp [e3_161, e7_161, e8_161, e9_161, hlt182, hg183]
        obtain rfl := Option.some.inj hm217
        rw [ctlK_next] at hk169
        refine hK177 _ _ n171 (Nat.lt_succ_self _) ⟨(i88 + 1), (iadd .i64 j87 1), (iadd .i64 v162 x215), ?_, ?_, ?_, ?_, ?_, (iadd_idxJ hj179 (by omega) hok181), (by omega), hk169⟩ <;> first | rfl | simp [e3_161, e7_161, e8_161, e9_161, hlt182, hg183]
theorem r_ref02_Count (T : Tabs) {H : Heap} {a0 : Tm} {r0 : Int} {n : Nat} (hm : ref02_Count n a0 = some r0) : ACall Tryd.prog T 60 [Tm.av a0] H (AV.sc (.int .i64 r0)) H := (rg_ref02_Count T n) hm

theorem enters58 : entersB Tryd.prog 58 = true := by kernel_rfl
set_option maxRecDepth 20000 in
set_option maxHeartbeats 4000000 in
theorem rg_ref07_Count (T : Tabs) : ∀ (n : Nat), (∀ {H : Heap} {a0 : Fm} {r0 : Int} (hm : ref07_Count n a0 = some r0), ACall Tryd.prog T 58 [Fm.av a0] H (AV.sc (.int .i64 r0)) H) := by
  intro n
  induction n with
  | zero =>
    skip
    all_goals
      intros
      rename_i hm
      cases hm
  | succ n ih =>
    intro H a0 r0 hm
    rw [ref07_Count] at hm
    refine ACallP.intro (fn := Tryd.f58) Tryd.func58 rfl enters58 (Nat.le_of_ble_eq_true rfl) ?_
    refine AWp.seqK fun K1 hk2 => ?_
    refine AWp.region [] (by decide +kernel) ?_
    simp
    refine hk2 _ _ ?_
    refine AWp.seqK fun K3 hk4 => ?_
    refine AWp.region [] (by decide +kernel) ?_
    simp
    refine hk4 _ _ ?_
    refine AWp.seqK fun K83 hk84 => ?_
    refine AWp.seqK fun K85 hk86 => ?_
    refine AWp.region [] (by decide +kernel) ?_
    simp
    refine hk86 _ _ ?_
    obtain ⟨hok181, hm459⟩ := chk_some hm
    clear hm
    obtain ⟨F163, hF164, hm460⟩ := joinB_some hm459
    clear hm459
    try dsimp only at hm460
    obtain ⟨out165, hl166, hmB167⟩ := bind1_some hm460
    clear hm460
    refine AWp.blockK fun Q172 nn173 ne174 nx175 nr176 => ?_
    refine AWp.loopF (fun n171 fr h => ∃ (i88 : Nat) (j87 : Int) (v162 : Int) (g1_161 : Nat), H = h ∧ fr.env 1 = AV.lptr 1 g1_161 0 ∧ fr.env 3 = AV.sc (.int .i64 v162) ∧ fr.env 9 = AV.slice .frz (List.map Tm.av a0.terms) ∧ fr.env 10 = AV.sc (.int .i64 (llen a0.terms)) ∧ fr.env 11 = AV.sc (.int .i64 j87) ∧ fr.gen 1 = g1_161 ∧ fr.box 1 = some [AV.sc (.int .i64 a0.kind), AV.sc (.int .i64 a0.typeF.kind), AV.slice .frz (List.map Ty.av a0.typeF.args), AV.slice .frz (List.map Tm.av a0.terms), AV.slice .frz (List.map Fm.av a0.args)] ∧ j87 = (i88 : Int) ∧ i88 + n171 = List.length a0.terms ∧ forR F163 (List.drop i88 a0.terms) i88 v162 = some out165) (List.length a0.terms) ?_ ?_
    · refine ⟨0, 0, 1, 1, ?_, ?_, ?_, ?_, ?_, ?_, ?_, ?_, rfl, (by simp), hl166⟩ <;> first | rfl | simp
    · rintro n171 fr161 h161 ⟨i88, j87, v162, g1_161, rfl, e1_161, e3_161, e9_161, e10_161, e11_161, g1e_161, b1_161, hj179, hi180, hl166⟩ K178 hK177
      rcases n171 with _ | n171
      · have hlt182 := ilt_notJ (l := a0.terms) hj179 (by omega)
        refine AWp.seqK fun K218 hk219 => ?_
        refine AWp.region [] (by decide +kernel) ?_
        simp [e1_161, e3_161, e9_161, e10_161, e11_161, g1e_161, b1_161, hlt182]
        refine hk219 _ _ ?_
        refine AWp.seqK fun K224 hk225 => ?_
        refine AWp.condK rfl fun A226 B227 ga228 gb229 => ?_
        simp [e1_161, e3_161, e9_161, e10_161, e11_161, g1e_161, b1_161, hlt182]
        refine gb229 _ _ ?_
        refine AWp.exit ?_
        try simp only [thenQ_exit]
        refine ne174 _ _ ?_
        try simp only [thenQ_normal]
        rw [List.drop_eq_nil_of_le (by omega), forR_nil] at hl166
        obtain rfl := Option.some.inj hl166
        rw [sumK_inl] at hmB167
        try dsimp only at hmB167
        refine hk84 _ _ ?_
        refine AWp.seqK fun K308 hk309 => ?_
        refine AWp.seqK fun K310 hk311 => ?_
        refine AWp.region [] (by decide +kernel) ?_
        simp [e1_161, e3_161, e9_161, e10_161, e11_161, g1e_161, b1_161, hlt182]
        refine hk311 _ _ ?_
        obtain ⟨hok406, hm457⟩ := chk_some hmB167
        clear hmB167
        obtain ⟨F388, hF389, hm458⟩ := joinB_some hm457
        clear hm457
        try dsimp only at hm458
        obtain ⟨out390, hl391, hmB392⟩ := bind1_some hm458
        clear hm458
        refine AWp.blockK fun Q397 nn398 ne399 nx400 nr401 => ?_
        refine AWp.loopF (fun n396 fr h => ∃ (i313 : Nat) (j312 : Int) (v387 : Int), H = h ∧ fr.env 3 = AV.sc (.int .i64 v387) ∧ fr.env 21 = AV.slice .frz (List.map Fm.av a0.args) ∧ fr.env 22 = AV.sc (.int .i64 (llen a0.args)) ∧ fr.env 23 = AV.sc (.int .i64 j312) ∧ j312 = (i313 : Int) ∧ i313 + n396 = List.length a0.args ∧ forR F388 (List.drop i313 a0.args) i313 v387 = some out390) (List.length a0.args) ?_ ?_
        · refine ⟨0, 0, v162, ?_, ?_, ?_, ?_, ?_, rfl, (by simp), hl391⟩ <;> first | rfl | simp [e1_161, e3_161, e9_161, e10_161, e11_161, g1e_161, b1_161, hlt182]
        · rintro n396 fr386 h386 ⟨i313, j312, v387, rfl, e3_386, e21_386, e22_386, e23_386, hj404, hi405, hl391⟩ K403 hK402
          rcases n396 with _ | n396
          · have hlt407 := ilt_notJ (l := a0.args) hj404 (by omega)
            refine AWp.seqK fun K443 hk444 => ?_
            refine AWp.region [] (by decide +kernel) ?_
            simp [e3_386, e21_386, e22_386, e23_386, hlt182, hlt407]
            refine hk444 _ _ ?_
            refine AWp.seqK fun K449 hk450 => ?_
            refine AWp.condK rfl fun A451 B452 ga453 gb454 => ?_
            simp [e3_386, e21_386, e22_386, e23_386, hlt182, hlt407]
            refine gb454 _ _ ?_
            refine AWp.exit ?_
            try simp only [thenQ_exit]
            refine ne399 _ _ ?_
            try simp only [thenQ_normal]
            rw [List.drop_eq_nil_of_le (by omega), forR_nil] at hl391
            obtain rfl := Option.some.inj hl391
            rw [sumK_inl] at hmB392
            try dsimp only at hmB392
            refine hk309 _ _ ?_
            refine AWp.seqK fun K455 hk456 => ?_
            refine AWp.region [] (by decide +kernel) ?_
            simp [e3_386, e21_386, e22_386, e23_386, hlt182, hlt407]
            refine hk456 _ _ ?_
            refine AWp.ret ?_
            try simp only [thenQ_ret]
            obtain rfl := Option.some.inj hmB392
            simp [retQ, e3_386, e21_386, e22_386, e23_386, hlt182, hlt407]
          · have hlt407 := ilt_ofJ (l := a0.args) hj404 (by omega)
            obtain ⟨x314, hdn396, hg408⟩ := drop_ltJ (l := a0.args) hj404 (by omega)
            rw [hdn396, forR_cons] at hl391
            obtain ⟨c393, hb395, hk394⟩ := bind1_some hl391
            clear hl391
            rw [hF389, ← hj404] at hb395
            try dsimp only at hb395
            refine AWp.seqK fun K409 hk410 => ?_
            refine AWp.region [] (by decide +kernel) ?_
            simp [e3_386, e21_386, e22_386, e23_386, hlt182, hlt407, hg408]
            refine hk410 _ _ ?_
            refine AWp.seqK fun K415 hk416 => ?_
            refine AWp.condK rfl fun A417 B418 ga419 gb420 => ?_
            simp [e3_386, e21_386, e22_386, e23_386, hlt182, hlt407, hg408]
            refine ga419 _ _ ?_
            refine AWp.skip ?_
            try simp only [thenQ_normal]
            refine hk416 _ _ ?_
            refine AWp.seqK fun K431 hk432 => ?_
            refine AWp.blockK fun Q433 nn434 ne435 nx436 nr437 => ?_
            refine AWp.seqK fun K438 hk439 => ?_
            refine AWp.region [] (by decide +kernel) ?_
            simp [e3_386, e21_386, e22_386, e23_386, hlt182, hlt407, hg408]
            refine hk439 _ _ ?_
            refine AWp.region [] (by decide +kernel) ?_
            obtain ⟨x440, hx441, hm442⟩ := bind1_some hb395
            clear hb395
            try dsimp only at hm442
            simp [e3_386, e21_386, e22_386, e23_386, hlt182, hlt407, hg408]
            refine CallAt.fn (ih hx441) ?_
            simp [e3_386, e21_386, e22_386, e23_386, hlt182, hlt407, hg408]
            refine nn434 _ _ ?_
            try simp only [thenQ_normal]
            refine hk432 _ _ ?_
            refine AWp.region [] (by decide +kernel) ?_
            simp [e3_386, e21_386, e22_386, e23_386, hlt182, hlt407, hg408]
            obtain rfl := Option.some.inj hm442
            rw [ctlK_next] at hk394
            refine hK402 _ _ n396 (Nat.lt_succ_self _) ⟨(i313 + 1), (iadd .i64 j312 1), (iadd .i64 v387 x440), ?_, ?_, ?_, ?_, ?_, (iadd_idxJ hj404 (by omega) hok406), (by omega), hk394⟩ <;> first | rfl | simp [e3_386, e21_386, e22_386, e23_386, hlt182, hlt407, hg408]
      · have hlt182 := ilt_ofJ (l := a0.terms) hj179 (by omega)
        obtain ⟨x89, hdn171, hg183⟩ := drop_ltJ (l := a0.terms) hj179 (by omega)
        rw [hdn171, forR_cons] at hl166
        obtain ⟨c168, hb170, hk169⟩ := bind1_some hl166
        clear hl166
        rw [hF164, ← hj179] at hb170
        try dsimp only at hb170
        refine AWp.seqK fun K184 hk185 => ?_
        refine AWp.region [] (by decide +kernel) ?_
        simp [e1_161, e3_161, e9_161, e10_161, e11_161, g1e_161, b1_161, hlt182, hg183]
        refine hk185 _ _ ?_
        refine AWp.seqK fun K190 hk191 => ?_
        refine AWp.condK rfl fun A192 B193 ga194 gb195 => ?_
        simp [e1_161, e3_161, e9_161, e10_161, e11_161, g1e_161, b1_161, hlt182, hg183]
        refine ga194 _ _ ?_
        refine AWp.skip ?_
        try simp only [thenQ_normal]
        refine hk191 _ _ ?_
        refine AWp.seqK fun K206 hk207 => ?_
        refine AWp.blockK fun Q208 nn209 ne210 nx211 nr212 => ?_
        refine AWp.seqK fun K213 hk214 => ?_
        refine AWp.region [] (by decide +kernel) ?_
        simp [e1_161, e3_161, e9_161, e10_161, e11_161, g1e_161, b1_161, hlt182, hg183]
        refine hk214 _ _ ?_
        refine AWp.region [] (by decide +kernel) ?_
        obtain ⟨x215, hx216, hm217⟩ := bind1_some hb170
        clear hb170
        try dsimp only at hm217
        simp [e1_161, e3_161, e9_161, e10_161, e11_161, g1e_161, b1_161, hlt182, hg183]
        refine CallAt.fn (r_ref02_Count T hx216) ?_
        simp [e1_161, e3_161, e9_161, e10_161, e11_161, g1e_161, b1_161, hlt182, hg183]
        refine nn209 _ _ ?_
        try simp only [thenQ_normal]
        refine hk207 _ _ ?_
        refine AWp.region [] (by decide +kernel) ?_
        simp [e1_161, e3_161, e9_161, e10_161, e11_161, g1e_161, b1_161, hlt182, hg183]
        obtain rfl := Option.some.inj hm217
        rw [ctlK_next] at hk169
        refine hK177 _ _ n171 (Nat.lt_succ_self _) ⟨(i88 + 1), (iadd .i64 j87 1), (iadd .i64 v162 x215), g1_161, ?_, ?_, ?_, ?_, ?_, ?_, ?_, ?_, (iadd_idxJ hj179 (by omega) hok181), (by omega), hk169⟩ <;> first | rfl | simp [e1_161, e3_161, e9_161, e10_161, e11_161, g1e_161, b1_161, hlt182, hg183]
theorem r_ref07_Count (T : Tabs) {H : Heap} {a0 : Fm} {r0 : Int} {n : Nat} (hm : ref07_Count n a0 = some r0) : ACall Tryd.prog T 58 [Fm.av a0] H (AV.sc (.int .i64 r0)) H := (rg_ref07_Count T n) hm

theorem enters46 : entersB Tryd.prog 46 = true := by kernel_rfl
set_option maxRecDepth 20000 in
set_option maxHeartbeats 4000000 in
theorem r_ref07_Check (T : Tabs) {H : Heap} {a0 : Fm} {r0 : Int} (hm : ref07_Check a0 = some r0) : ACall Tryd.prog T 46 [Fm.av a0] H (AV.sc (.int .i64 r0)) H := by
  rw [ref07_Check] at hm
  refine ACallP.intro (fn := Tryd.f46) Tryd.func46 rfl enters46 (Nat.le_of_ble_eq_true rfl) ?_
  refine AWp.seqK fun K1 hk2 => ?_
  refine AWp.region [] (by decide +kernel) ?_
  simp
  refine hk2 _ _ ?_
  refine AWp.seqK fun K20 hk21 => ?_
  refine AWp.seqK fun K25 hk26 => ?_
  refine AWp.region [] (by decide +kernel) ?_
  obtain ⟨x27, hx28, hm29⟩ := bind1_some hm
  clear hm
  try dsimp only at hm29
  simp
  refine CallAt.fn (r_ref07_Shape T hx28) ?_
  simp
  refine hk26 _ _ ?_
  refine AWp.condK rfl fun A30 B31 ga32 gb33 => ?_
  rcases ite_some hm29 with ⟨hc34, hm35⟩ | ⟨hc34, hm36⟩
  · clear hm29
    simp [hc34]
    refine gb33 _ _ ?_
    refine AWp.skip ?_
    try simp only [thenQ_normal]
    refine hk21 _ _ ?_
    refine AWp.seqK fun K54 hk55 => ?_
    refine AWp.seqK fun K59 hk60 => ?_
    refine AWp.region [] (by decide +kernel) ?_
    obtain ⟨x61, hx62, hm63⟩ := bind1_some hm35
    clear hm35
    try dsimp only at hm63
    simp [hc34]
    refine CallAt.fn (r_ref07_Count T hx62) ?_
    simp [hc34]
    refine hk60 _ _ ?_
    refine AWp.condK rfl fun A64 B65 ga66 gb67 => ?_
    rcases ite_some hm63 with ⟨hc68, hm69⟩ | ⟨hc68, hm70⟩
    · clear hm63
      simp [hc34, hc68]
      refine ga66 _ _ ?_
      refine AWp.seqK fun K71 hk72 => ?_
      refine AWp.region [] (by decide +kernel) ?_
      simp [hc34, hc68]
      refine hk72 _ _ ?_
      refine AWp.ret ?_
      try simp only [thenQ_ret]
      obtain rfl := Option.some.inj hm69
      simp [retQ, hc34, hc68]
    · clear hm63
      simp [hc34, hc68]
      refine gb67 _ _ ?_
      refine AWp.skip ?_
      try simp only [thenQ_normal]
      refine hk55 _ _ ?_
      refine AWp.seqK fun K73 hk74 => ?_
      refine AWp.region [] (by decide +kernel) ?_
      simp [hc34, hc68]
      refine hk74 _ _ ?_
      refine AWp.ret ?_
      try simp only [thenQ_ret]
      obtain rfl := Option.some.inj hm70
      simp [retQ, hc34, hc68]
  · clear hm29
    simp [hc34]
    refine ga32 _ _ ?_
    refine AWp.seqK fun K75 hk76 => ?_
    refine AWp.region [] (by decide +kernel) ?_
    simp [hc34]
    refine hk76 _ _ ?_
    refine AWp.ret ?_
    try simp only [thenQ_ret]
    obtain rfl := Option.some.inj hm36
    simp [retQ, hc34]

theorem enters71 : entersB Tryd.prog 71 = true := by kernel_rfl
set_option maxRecDepth 20000 in
set_option maxHeartbeats 4000000 in
theorem rg_ref08_content (T : Tabs) : ∀ (n : Nat), (∀ {H : Heap} {a0 : Fm} {r0 : Bool} (hm : ref08_content n a0 = some r0), ACall Tryd.prog T 71 [Fm.av a0] H (AV.sc (.bool r0)) H) := by
  intro n
  induction n with
  | zero =>
    skip
    all_goals
      intros
      rename_i hm
      cases hm
  | succ n ih =>
    intro H a0 r0 hm
    rw [ref08_content] at hm
    refine ACallP.intro (fn := Tryd.f71) Tryd.func71 rfl enters71 (Nat.le_of_ble_eq_true rfl) ?_
    refine AWp.seqK fun K1 hk2 => ?_
    refine AWp.region [] (by decide +kernel) ?_
    simp
    refine hk2 _ _ ?_
    refine AWp.seqK fun K79 hk80 => ?_
    refine AWp.seqK fun K81 hk82 => ?_
    refine AWp.region [] (by decide +kernel) ?_
    simp
    refine hk82 _ _ ?_
    refine AWp.blockK fun Q83 nn84 ne85 nx86 nr87 => ?_
    refine AWp.seqK fun K88 hk89 => ?_
    refine AWp.region [] (by decide +kernel) ?_
    simp
    refine hk89 _ _ ?_
    refine AWp.condK rfl fun A90 B91 ga92 gb93 => ?_
    rcases ite_some hm with ⟨hc94, hm95⟩ | ⟨hc94, hm96⟩
    · clear hm
      simp [hc94]
      refine ga92 _ _ ?_
      refine AWp.seqK fun K97 hk98 => ?_
      refine AWp.region [] (by decide +kernel) ?_
      simp [hc94]
      refine hk98 _ _ ?_
      refine AWp.ret ?_
      try simp only [thenQ_ret]
      refine nr87 _ _ ?_
      try simp only [thenQ_ret]
      obtain rfl := Option.some.inj hm95
      simp [retQ, hc94]
    · clear hm
      simp [hc94]
      refine gb93 _ _ ?_
      refine AWp.seqK fun K99 hk100 => ?_
      refine AWp.region [] (by decide +kernel) ?_
      simp [hc94]
      refine hk100 _ _ ?_
      refine AWp.condK rfl fun A101 B102 ga103 gb104 => ?_
      rcases ite_some hm96 with ⟨hc105, hm106⟩ | ⟨hc105, hm107⟩
      · clear hm96
        simp [hc94, hc105]
        refine ga103 _ _ ?_
        obtain ⟨j127, hj128, hm129⟩ := joinB_some hm106
        clear hm106
        refine AWp.seqP (fun fr h => ∃ (v126 : Bool), H = h ∧ fr.env 2 = AV.sc (.bool v126) ∧ j127 v126 = some r0) (fun K123 hk124 => ?_) ?_
        · refine AWp.region [] (by decide +kernel) ?_
          obtain ⟨x131, hx132, hm133⟩ := bind1_some hm129
          clear hm129
          try dsimp only at hm133
          obtain ⟨x134, hx135, hm136⟩ := bind1_some hm133
          clear hm133
          try dsimp only at hm136
          simp [hx132, hc94, hc105]
          refine CallAt.fn (ih hx135) ?_
          rcases ite_some hm136 with ⟨hc137, hm138⟩ | ⟨hc137, hm139⟩
          · clear hm136
            simp [hx132, hc94, hc105, hc137]
            refine hk124 _ _ ⟨true, ?_, ?_, hm138⟩ <;> first | rfl | simp [hx132, hc94, hc105, hc137]
          · clear hm136
            obtain ⟨x140, hx141, hm142⟩ := bind1_some hm139
            clear hm139
            try dsimp only at hm142
            obtain ⟨x143, hx144, hm145⟩ := bind1_some hm142
            clear hm142
            try dsimp only at hm145
            simp [hx132, hx141, hc94, hc105, hc137]
            refine CallAt.fn (ih hx144) ?_
            simp [hx132, hx141, hc94, hc105, hc137]
            refine hk124 _ _ ⟨x143, ?_, ?_, hm145⟩ <;> first | rfl | simp [hx132, hx141, hc94, hc105, hc137]
        · clear hm129
          rintro fr125 h125 ⟨v126, rfl, e2_125, hm130⟩
          subst hj128
          refine AWp.ret ?_
          try simp only [thenQ_ret]
          refine nr87 _ _ ?_
          try simp only [thenQ_ret]
          obtain rfl := Option.some.inj hm130
          simp [retQ, e2_125, hc94, hc105]
      · clear hm96
        simp [hc94, hc105]
        refine gb104 _ _ ?_
        refine AWp.seqK fun K146 hk147 => ?_
        refine AWp.region [] (by decide +kernel) ?_
        simp [hc94, hc105]
        refine hk147 _ _ ?_
        refine AWp.condK rfl fun A148 B149 ga150 gb151 => ?_
        rcases ite_some hm107 with ⟨hc152, hm153⟩ | ⟨hc152, hm154⟩
        · clear hm107
          simp [hc94, hc105, hc152]
          refine ga150 _ _ ?_
          refine AWp.seqK fun K155 hk156 => ?_
          refine AWp.region [] (by decide +kernel) ?_
          simp [hc94, hc105, hc152]
          refine hk156 _ _ ?_
          refine AWp.ret ?_
          try simp only [thenQ_ret]
          refine nr87 _ _ ?_
          try simp only [thenQ_ret]
          obtain rfl := Option.some.inj hm153
          simp [retQ, hc94, hc105, hc152]
        · clear hm107
          simp [hc94, hc105, hc152]
          refine gb151 _ _ ?_
          refine AWp.skip ?_
          try simp only [thenQ_normal]
          refine nn84 _ _ ?_
          try simp only [thenQ_normal]
          refine hk80 _ _ ?_
          refine AWp.seqK fun K163 hk164 => ?_
          refine AWp.region [] (by decide +kernel) ?_
          obtain ⟨x165, hx166, hm167⟩ := bind1_some hm154
          clear hm154
          try dsimp only at hm167
          obtain ⟨x168, hx169, hm170⟩ := bind1_some hm167
          clear hm167
          try dsimp only at hm170
          simp [hx166, hc94, hc105, hc152]
          refine CallAt.fn (ih hx169) ?_
          simp [hx166, hc94, hc105, hc152]
          refine hk164 _ _ ?_
          refine AWp.ret ?_
          try simp only [thenQ_ret]
          obtain rfl := Option.some.inj hm170
          simp [retQ, hx166, hc94, hc105, hc152]
theorem r_ref08_content (T : Tabs) {H : Heap} {a0 : Fm} {r0 : Bool} {n : Nat} (hm : ref08_content n a0 = some r0) : ACall Tryd.prog T 71 [Fm.av a0] H (AV.sc (.bool r0)) H := (rg_ref08_content T n) hm

theorem enters31 : entersB Tryd.prog 31 = true := by kernel_rfl
set_option maxRecDepth 20000 in
set_option maxHeartbeats 4000000 in
theorem r_ref08_Content (T : Tabs) {H : Heap} {a0 : Fm} {r0 : Bool} {r1 : Int} (hm : ref08_Content a0 = some (r0, r1)) : ACall Tryd.prog T 31 [Fm.av a0] H (AV.tuple [AV.sc (.bool r0), AV.sc (.int .i64 r1)]) H := by
  rw [ref08_Content] at hm
  refine ACallP.intro (fn := Tryd.f31) Tryd.func31 rfl enters31 (Nat.le_of_ble_eq_true rfl) ?_
  refine AWp.seqK fun K1 hk2 => ?_
  refine AWp.region [] (by decide +kernel) ?_
  simp
  refine hk2 _ _ ?_
  refine AWp.seqK fun K22 hk23 => ?_
  refine AWp.seqK fun K27 hk28 => ?_
  refine AWp.region [] (by decide +kernel) ?_
  obtain ⟨x29, hx30, hm31⟩ := bind1_some hm
  clear hm
  try dsimp only at hm31
  simp
  refine CallAt.fn (r_ref07_Check T hx30) ?_
  simp
  refine hk28 _ _ ?_
  refine AWp.seqK fun K32 hk33 => ?_
  refine AWp.region [] (by decide +kernel) ?_
  simp
  refine hk33 _ _ ?_
  refine AWp.condK rfl fun A34 B35 ga36 gb37 => ?_
  rcases ite_some hm31 with ⟨hc38, hm39⟩ | ⟨hc38, hm40⟩
  · clear hm31
    simp [hc38]
    refine ga36 _ _ ?_
    refine AWp.seqK fun K41 hk42 => ?_
    refine AWp.region [] (by decide +kernel) ?_
    simp [hc38]
    refine hk42 _ _ ?_
    refine AWp.ret ?_
    try simp only [thenQ_ret]
    simp only [Option.some.injEq, Prod.mk.injEq] at hm39
    obtain ⟨rfl, rfl⟩ := hm39
    simp [retQ, hc38]
  · clear hm31
    simp [hc38]
    refine gb37 _ _ ?_
    refine AWp.skip ?_
    try simp only [thenQ_normal]
    refine hk23 _ _ ?_
    refine AWp.seqK fun K46 hk47 => ?_
    refine AWp.region [] (by decide +kernel) ?_
    obtain ⟨x48, hx49, hm50⟩ := bind1_some hm40
    clear hm40
    try dsimp only at hm50
    simp [hc38]
    refine CallAt.fn (r_ref08_content T hx49) ?_
    simp [hc38]
    refine hk47 _ _ ?_
    refine AWp.ret ?_
    try simp only [thenQ_ret]
    simp only [Option.some.injEq, Prod.mk.injEq] at hm50
    obtain ⟨rfl, rfl⟩ := hm50
    simp [retQ, hc38]

theorem enters50 : entersB Tryd.prog 50 = true := by kernel_rfl
set_option maxRecDepth 20000 in
set_option maxHeartbeats 4000000 in
theorem r_ref23_Has (T : Tabs) {H : Heap} {a0 : Fm} {r0 : Bool} (hm : ref23_Has a0 = some r0) : ACall Tryd.prog T 50 [Fm.av a0] H (AV.sc (.bool r0)) H := by
  rw [ref23_Has] at hm
  refine ACallP.intro (fn := Tryd.f50) Tryd.func50 rfl enters50 (Nat.le_of_ble_eq_true rfl) ?_
  refine AWp.seqK fun K1 hk2 => ?_
  refine AWp.region [] (by decide +kernel) ?_
  simp
  refine hk2 _ _ ?_
  refine AWp.seqK fun K7 hk8 => ?_
  refine AWp.region [] (by decide +kernel) ?_
  obtain ⟨x9, x10, hx11, hm12⟩ := bind2_some hm
  clear hm
  try dsimp only at hm12
  simp
  refine CallAt.fn (r_ref08_Content T hx11) ?_
  simp
  refine hk8 _ _ ?_
  refine AWp.seqK fun K13 hk14 => ?_
  refine AWp.region [] (by decide +kernel) ?_
  simp
  refine hk14 _ _ ?_
  refine AWp.ret ?_
  try simp only [thenQ_ret]
  obtain rfl := Option.some.inj hm12
  simp [retQ]

theorem enters82 : entersB Tryd.prog 82 = true := by kernel_rfl
set_option maxRecDepth 20000 in
set_option maxHeartbeats 4000000 in
theorem r_ref23_Unit (T : Tabs) {H : Heap}  {r0 : Ty} (hm : ref23_Unit = some r0) : ACall Tryd.prog T 82 [] H (Ty.av r0) H := by
  rw [ref23_Unit] at hm
  refine ACallP.intro (fn := Tryd.f82) Tryd.func82 rfl enters82 (Nat.le_of_ble_eq_true rfl) ?_
  refine AWp.seqK fun K1 hk2 => ?_
  refine AWp.region [] (by decide +kernel) ?_
  simp
  refine hk2 _ _ ?_
  refine AWp.seqK fun K3 hk4 => ?_
  refine AWp.region [] (by decide +kernel) ?_
  simp
  refine hk4 _ _ ?_
  refine AWp.ret ?_
  try simp only [thenQ_ret]
  obtain rfl := Option.some.inj hm
  simp [retQ]

theorem enters35 : entersB Tryd.prog 35 = true := by kernel_rfl
set_option maxRecDepth 20000 in
set_option maxHeartbeats 4000000 in
theorem r_ref23_Pair (T : Tabs) {H : Heap} {a0 : Ty} {a1 : Ty} {r0 : Ty} (hm : ref23_Pair a0 a1 = some r0) : ACall Tryd.prog T 35 [Ty.av a0, Ty.av a1] H (Ty.av r0) H := by
  rw [ref23_Pair] at hm
  refine ACallP.intro (fn := Tryd.f35) Tryd.func35 rfl enters35 (Nat.le_of_ble_eq_true rfl) ?_
  refine AWp.seqK fun K1 hk2 => ?_
  refine AWp.region [] (by decide +kernel) ?_
  simp
  refine hk2 _ _ ?_
  refine AWp.seqK fun K3 hk4 => ?_
  refine AWp.region [] (by decide +kernel) ?_
  simp
  refine hk4 _ _ ?_
  refine AWp.ret ?_
  try simp only [thenQ_ret]
  have hf5 : AV.agg [AV.sc (.int .i64 3), AV.slice .frz [Ty.av a0, Ty.av a1]] = Ty.av (Ty.mk 3 [a0, a1]) := by rw [Ty.av_mk]; rfl
  have hf6 : AV.agg [AV.sc (.int .i64 3), AV.slice .frz [Ty.av a0, Ty.av a1]] = Ty.av (Ty.mk 3 [a0, a1]) := by rw [Ty.av_mk]; rfl
  obtain rfl := Option.some.inj hm
  simp [retQ, hf5, hf6]

theorem enters99 : entersB Tryd.prog 99 = true := by kernel_rfl
set_option maxRecDepth 20000 in
set_option maxHeartbeats 4000000 in
theorem r_ref01_Size (T : Tabs) {H : Heap} {a0 : Ty} {r0 : Int} {r1 : Int} (hm : ref01_Size a0 = some (r0, r1)) : ACall Tryd.prog T 99 [Ty.av a0] H (AV.tuple [AV.sc (.int .i64 r0), AV.sc (.int .i64 r1)]) H := by
  rw [ref01_Size] at hm
  refine ACallP.intro (fn := Tryd.f99) Tryd.func99 rfl enters99 (Nat.le_of_ble_eq_true rfl) ?_
  refine AWp.seqK fun K1 hk2 => ?_
  refine AWp.region [] (by decide +kernel) ?_
  simp
  refine hk2 _ _ ?_
  refine AWp.seqK fun K22 hk23 => ?_
  refine AWp.seqK fun K27 hk28 => ?_
  refine AWp.region [] (by decide +kernel) ?_
  obtain ⟨x29, hx30, hm31⟩ := bind1_some hm
  clear hm
  try dsimp only at hm31
  simp
  refine CallAt.fn (r_ref01_Check T hx30) ?_
  simp
  refine hk28 _ _ ?_
  refine AWp.seqK fun K32 hk33 => ?_
  refine AWp.region [] (by decide +kernel) ?_
  simp
  refine hk33 _ _ ?_
  refine AWp.condK rfl fun A34 B35 ga36 gb37 => ?_
  rcases ite_some hm31 with ⟨hc38, hm39⟩ | ⟨hc38, hm40⟩
  · clear hm31
    simp [hc38]
    refine ga36 _ _ ?_
    refine AWp.seqK fun K41 hk42 => ?_
    refine AWp.region [] (by decide +kernel) ?_
    simp [hc38]
    refine hk42 _ _ ?_
    refine AWp.ret ?_
    try simp only [thenQ_ret]
    simp only [Option.some.injEq, Prod.mk.injEq] at hm39
    obtain ⟨rfl, rfl⟩ := hm39
    simp [retQ, hc38]
  · clear hm31
    simp [hc38]
    refine gb37 _ _ ?_
    refine AWp.skip ?_
    try simp only [thenQ_normal]
    refine hk23 _ _ ?_
    refine AWp.seqK fun K46 hk47 => ?_
    refine AWp.region [] (by decide +kernel) ?_
    obtain ⟨x48, hx49, hm50⟩ := bind1_some hm40
    clear hm40
    try dsimp only at hm50
    simp [hc38]
    refine CallAt.fn (r_ref01_size T hx49) ?_
    simp [hc38]
    refine hk47 _ _ ?_
    refine AWp.ret ?_
    try simp only [thenQ_ret]
    simp only [Option.some.injEq, Prod.mk.injEq] at hm50
    obtain ⟨rfl, rfl⟩ := hm50
    simp [retQ, hc38]

theorem enters83 : entersB Tryd.prog 83 = true := by kernel_rfl
set_option maxRecDepth 20000 in
set_option maxHeartbeats 4000000 in
theorem r_ref23_fits (T : Tabs) {H : Heap} {a0 : Ty} {a1 : Int} {r0 : Ty} {r1 : Int} (hm : ref23_fits a0 a1 = some (r0, r1)) : ACall Tryd.prog T 83 [Ty.av a0, AV.sc (.int .i64 a1)] H (AV.tuple [Ty.av r0, AV.sc (.int .i64 r1)]) H := by
  rw [ref23_fits] at hm
  refine ACallP.intro (fn := Tryd.f83) Tryd.func83 rfl enters83 (Nat.le_of_ble_eq_true rfl) ?_
  refine AWp.seqK fun K1 hk2 => ?_
  refine AWp.region [] (by decide +kernel) ?_
  simp
  refine hk2 _ _ ?_
  refine AWp.seqK fun K14 hk15 => ?_
  refine AWp.seqK fun K16 hk17 => ?_
  refine AWp.region [] (by decide +kernel) ?_
  simp
  refine hk17 _ _ ?_
  refine AWp.condK rfl fun A18 B19 ga20 gb21 => ?_
  rcases ite_some hm with ⟨hc22, hm23⟩ | ⟨hc22, hm24⟩
  · clear hm
    simp [hc22]
    refine ga20 _ _ ?_
    refine AWp.seqK fun K25 hk26 => ?_
    refine AWp.region [] (by decide +kernel) ?_
    simp [hc22]
    refine hk26 _ _ ?_
    refine AWp.ret ?_
    try simp only [thenQ_ret]
    simp only [Option.some.injEq, Prod.mk.injEq] at hm23
    obtain ⟨rfl, rfl⟩ := hm23
    simp [retQ, hc22]
  · clear hm
    simp [hc22]
    refine gb21 _ _ ?_
    refine AWp.skip ?_
    try simp only [thenQ_normal]
    refine hk15 _ _ ?_
    refine AWp.seqK fun K48 hk49 => ?_
    refine AWp.seqK fun K54 hk55 => ?_
    refine AWp.region [] (by decide +kernel) ?_
    obtain ⟨x56, x57, hx58, hm59⟩ := bind2_some hm24
    clear hm24
    try dsimp only at hm59
    simp [hc22]
    refine CallAt.fn (r_ref01_Size T hx58) ?_
    simp [hc22]
    refine hk55 _ _ ?_
    refine AWp.seqK fun K60 hk61 => ?_
    refine AWp.region [] (by decide +kernel) ?_
    simp [hc22]
    refine hk61 _ _ ?_
    refine AWp.condK rfl fun A62 B63 ga64 gb65 => ?_
    rcases ite_some hm59 with ⟨hc66, hm67⟩ | ⟨hc66, hm68⟩
    · clear hm59
      simp [hc22, hc66]
      refine ga64 _ _ ?_
      refine AWp.seqK fun K69 hk70 => ?_
      refine AWp.region [] (by decide +kernel) ?_
      simp [hc22, hc66]
      refine hk70 _ _ ?_
      refine AWp.ret ?_
      try simp only [thenQ_ret]
      simp only [Option.some.injEq, Prod.mk.injEq] at hm67
      obtain ⟨rfl, rfl⟩ := hm67
      simp [retQ, hc22, hc66]
    · clear hm59
      simp [hc22, hc66]
      refine gb65 _ _ ?_
      refine AWp.skip ?_
      try simp only [thenQ_normal]
      refine hk49 _ _ ?_
      refine AWp.seqK fun K71 hk72 => ?_
      refine AWp.region [] (by decide +kernel) ?_
      simp [hc22, hc66]
      refine hk72 _ _ ?_
      refine AWp.ret ?_
      try simp only [thenQ_ret]
      simp only [Option.some.injEq, Prod.mk.injEq] at hm68
      obtain ⟨rfl, rfl⟩ := hm68
      simp [retQ, hc22, hc66]

theorem enters47 : entersB Tryd.prog 47 = true := by kernel_rfl
set_option maxRecDepth 20000 in
set_option maxHeartbeats 4000000 in
theorem rg_ref23_of (T : Tabs) : ∀ (n : Nat), (∀ {H : Heap} {a0 : Fm} {r0 : Ty} {r1 : Int} (hm : ref23_of n a0 = some (r0, r1)), ACall Tryd.prog T 47 [Fm.av a0] H (AV.tuple [Ty.av r0, AV.sc (.int .i64 r1)]) H) := by
  intro n
  induction n with
  | zero =>
    skip
    all_goals
      intros
      rename_i hm
      cases hm
  | succ n ih =>
    intro H a0 r0 r1 hm
    rw [ref23_of] at hm
    refine ACallP.intro (fn := Tryd.f47) Tryd.func47 rfl enters47 (Nat.le_of_ble_eq_true rfl) ?_
    refine AWp.seqK fun K1 hk2 => ?_
    refine AWp.region [] (by decide +kernel) ?_
    simp
    refine hk2 _ _ ?_
    refine AWp.seqK fun K26 hk27 => ?_
    refine AWp.seqK fun K31 hk32 => ?_
    refine AWp.region [] (by decide +kernel) ?_
    obtain ⟨x33, hx34, hm35⟩ := bind1_some hm
    clear hm
    try dsimp only at hm35
    simp
    refine CallAt.fn (r_ref23_Has T hx34) ?_
    simp
    refine hk32 _ _ ?_
    refine AWp.condK rfl fun A36 B37 ga38 gb39 => ?_
    rcases ite_some hm35 with ⟨hc40, hm41⟩ | ⟨hc40, hm42⟩
    · clear hm35
      simp [hc40]
      refine gb39 _ _ ?_
      refine AWp.skip ?_
      try simp only [thenQ_normal]
      refine hk27 _ _ ?_
      refine AWp.seqK fun K534 hk535 => ?_
      refine AWp.seqK fun K536 hk537 => ?_
      refine AWp.region [] (by decide +kernel) ?_
      simp [hc40]
      refine hk537 _ _ ?_
      refine AWp.blockK fun Q538 nn539 ne540 nx541 nr542 => ?_
      refine AWp.seqK fun K543 hk544 => ?_
      refine AWp.region [] (by decide +kernel) ?_
      simp [hc40]
      refine hk544 _ _ ?_
      refine AWp.condK rfl fun A545 B546 ga547 gb548 => ?_
      rcases ite_some hm41 with ⟨hc549, hm550⟩ | ⟨hc549, hm551⟩
      · clear hm41
        simp [hc40, hc549]
        refine ga547 _ _ ?_
        refine AWp.seqK fun K589 hk590 => ?_
        refine AWp.seqK fun K597 hk598 => ?_
        refine AWp.region [] (by decide +kernel) ?_
        obtain ⟨x599, hx600, hm601⟩ := bind1_some hm550
        clear hm550
        try dsimp only at hm601
        obtain ⟨x602, hx603, hm604⟩ := bind1_some hm601
        clear hm601
        try dsimp only at hm604
        simp [hx600, hc40, hc549]
        refine CallAt.fn (r_ref23_Has T hx603) ?_
        simp [hx600, hc40, hc549]
        refine hk598 _ _ ?_
        refine AWp.condK rfl fun A605 B606 ga607 gb608 => ?_
        rcases ite_some hm604 with ⟨hc609, hm610⟩ | ⟨hc609, hm611⟩
        · clear hm604
          simp [hx600, hc40, hc549, hc609]
          refine gb608 _ _ ?_
          refine AWp.skip ?_
          try simp only [thenQ_normal]
          refine hk590 _ _ ?_
          refine AWp.seqK fun K643 hk644 => ?_
          refine AWp.seqK fun K651 hk652 => ?_
          refine AWp.region [] (by decide +kernel) ?_
          obtain ⟨x653, hx654, hm655⟩ := bind1_some hm610
          clear hm610
          try dsimp only at hm655
          obtain ⟨x656, hx657, hm658⟩ := bind1_some hm655
          clear hm655
          try dsimp only at hm658
          simp [hx600, hx654, hc40, hc549, hc609]
          refine CallAt.fn (r_ref23_Has T hx657) ?_
          simp [hx600, hx654, hc40, hc549, hc609]
          refine hk652 _ _ ?_
          refine AWp.condK rfl fun A659 B660 ga661 gb662 => ?_
          rcases ite_some hm658 with ⟨hc663, hm664⟩ | ⟨hc663, hm665⟩
          · clear hm658
            simp [hx600, hx654, hc40, hc549, hc609, hc663]
            refine gb662 _ _ ?_
            refine AWp.skip ?_
            try simp only [thenQ_normal]
            refine hk644 _ _ ?_
            refine AWp.seqK fun K670 hk671 => ?_
            refine AWp.region [] (by decide +kernel) ?_
            obtain ⟨x672, x673, hx674, hm675⟩ := bind2_some hm664
            clear hm664
            try dsimp only at hm675
            simp [hx600, hx654, hc40, hc549, hc609, hc663]
            refine CallAt.fn (ih hx674) ?_
            simp [hx600, hx654, hc40, hc549, hc609, hc663]
            refine hk671 _ _ ?_
            refine AWp.seqK fun K687 hk688 => ?_
            refine AWp.seqK fun K689 hk690 => ?_
            refine AWp.region [] (by decide +kernel) ?_
            simp [hx600, hx654, hc40, hc549, hc609, hc663]
            refine hk690 _ _ ?_
            refine AWp.condK rfl fun A691 B692 ga693 gb694 => ?_
            rcases ite_some hm675 with ⟨hc695, hm696⟩ | ⟨hc695, hm697⟩
            · clear hm675
              simp [hx600, hx654, hc40, hc549, hc609, hc663, hc695]
              refine ga693 _ _ ?_
              refine AWp.seqK fun K698 hk699 => ?_
              refine AWp.region [] (by decide +kernel) ?_
              simp [hx600, hx654, hc40, hc549, hc609, hc663, hc695]
              refine hk699 _ _ ?_
              refine AWp.ret ?_
              try simp only [thenQ_ret]
              refine nr542 _ _ ?_
              try simp only [thenQ_ret]
              simp only [Option.some.injEq, Prod.mk.injEq] at hm696
              obtain ⟨rfl, rfl⟩ := hm696
              simp [retQ, hx600, hx654, hc40, hc549, hc609, hc663, hc695]
            · clear hm675
              simp [hx600, hx654, hc40, hc549, hc609, hc663, hc695]
              refine gb694 _ _ ?_
              refine AWp.skip ?_
              try simp only [thenQ_normal]
              refine hk688 _ _ ?_
              refine AWp.seqK fun K704 hk705 => ?_
              refine AWp.region [] (by decide +kernel) ?_
              obtain ⟨x706, x707, hx708, hm709⟩ := bind2_some hm697
              clear hm697
              try dsimp only at hm709
              simp [hx600, hx654, hc40, hc549, hc609, hc663, hc695]
              refine CallAt.fn (ih hx708) ?_
              simp [hx600, hx654, hc40, hc549, hc609, hc663, hc695]
              refine hk705 _ _ ?_
              refine AWp.seqK fun K717 hk718 => ?_
              refine AWp.region [] (by decide +kernel) ?_
              obtain ⟨x719, hx720, hm721⟩ := bind1_some hm709
              clear hm709
              try dsimp only at hm721
              simp [hx600, hx654, hc40, hc549, hc609, hc663, hc695]
              refine CallAt.fn (r_ref23_Pair T hx720) ?_
              obtain ⟨x722, x723, hx724, hm725⟩ := bind2_some hm721
              clear hm721
              try dsimp only at hm725
              simp [hx600, hx654, hc40, hc549, hc609, hc663, hc695]
              refine CallAt.fn (r_ref23_fits T hx724) ?_
              simp [hx600, hx654, hc40, hc549, hc609, hc663, hc695]
              refine hk718 _ _ ?_
              refine AWp.ret ?_
              try simp only [thenQ_ret]
              refine nr542 _ _ ?_
              try simp only [thenQ_ret]
              simp only [Option.some.injEq, Prod.mk.injEq] at hm725
              obtain ⟨rfl, rfl⟩ := hm725
              simp [retQ, hx600, hx654, hc40, hc549, hc609, hc663, hc695]
          · clear hm658
            simp [hx600, hx654, hc40, hc549, hc609, hc663]
            refine ga661 _ _ ?_
            refine AWp.seqK fun K730 hk731 => ?_
            refine AWp.region [] (by decide +kernel) ?_
            obtain ⟨x732, x733, hx734, hm735⟩ := bind2_some hm665
            clear hm665
            try dsimp only at hm735
            simp [hx600, hx654, hc40, hc549, hc609, hc663]
            refine CallAt.fn (ih hx734) ?_
            simp [hx600, hx654, hc40, hc549, hc609, hc663]
            refine hk731 _ _ ?_
            refine AWp.ret ?_
            try simp only [thenQ_ret]
            refine nr542 _ _ ?_
            try simp only [thenQ_ret]
            simp only [Option.some.injEq, Prod.mk.injEq] at hm735
            obtain ⟨rfl, rfl⟩ := hm735
            simp [retQ, hx600, hx654, hc40, hc549, hc609, hc663]
        · clear hm604
          simp [hx600, hc40, hc549, hc609]
          refine ga607 _ _ ?_
          refine AWp.seqK fun K743 hk744 => ?_
          refine AWp.region [] (by decide +kernel) ?_
          obtain ⟨x745, hx746, hm747⟩ := bind1_some hm611
          clear hm611
          try dsimp only at hm747
          obtain ⟨x748, x749, hx750, hm751⟩ := bind2_some hm747
          clear hm747
          try dsimp only at hm751
          simp [hx600, hx746, hc40, hc549, hc609]
          refine CallAt.fn (ih hx750) ?_
          simp [hx600, hx746, hc40, hc549, hc609]
          refine hk744 _ _ ?_
          refine AWp.ret ?_
          try simp only [thenQ_ret]
          refine nr542 _ _ ?_
          try simp only [thenQ_ret]
          simp only [Option.some.injEq, Prod.mk.injEq] at hm751
          obtain ⟨rfl, rfl⟩ := hm751
          simp [retQ, hx600, hx746, hc40, hc549, hc609]
      · clear hm41
        simp [hc40, hc549]
        refine gb548 _ _ ?_
        refine AWp.seqK fun K752 hk753 => ?_
        refine AWp.region [] (by decide +kernel) ?_
        simp [hc40, hc549]
        refine hk753 _ _ ?_
        refine AWp.condK rfl fun A754 B755 ga756 gb757 => ?_
        rcases ite_some hm551 with ⟨hc758, hm759⟩ | ⟨hc758, hm760⟩
        · clear hm551
          simp [hc40, hc549, hc758]
          refine ga756 _ _ ?_
          refine AWp.seqK fun K798 hk799 => ?_
          refine AWp.seqK fun K806 hk807 => ?_
          refine AWp.region [] (by decide +kernel) ?_
          obtain ⟨x808, hx809, hm810⟩ := bind1_some hm759
          clear hm759
          try dsimp only at hm810
          obtain ⟨x811, hx812, hm813⟩ := bind1_some hm810
          clear hm810
          try dsimp only at hm813
          simp [hx809, hc40, hc549, hc758]
          refine CallAt.fn (r_ref23_Has T hx812) ?_
          simp [hx809, hc40, hc549, hc758]
          refine hk807 _ _ ?_
          refine AWp.condK rfl fun A814 B815 ga816 gb817 => ?_
          rcases ite_some hm813 with ⟨hc818, hm819⟩ | ⟨hc818, hm820⟩
          · clear hm813
            simp [hx809, hc40, hc549, hc758, hc818]
            refine gb817 _ _ ?_
            refine AWp.skip ?_
            try simp only [thenQ_normal]
            refine hk799 _ _ ?_
            refine AWp.seqK fun K825 hk826 => ?_
            refine AWp.region [] (by decide +kernel) ?_
            obtain ⟨x827, x828, hx829, hm830⟩ := bind2_some hm819
            clear hm819
            try dsimp only at hm830
            simp [hx809, hc40, hc549, hc758, hc818]
            refine CallAt.fn (ih hx829) ?_
            simp [hx809, hc40, hc549, hc758, hc818]
            refine hk826 _ _ ?_
            refine AWp.seqK fun K842 hk843 => ?_
            refine AWp.seqK fun K844 hk845 => ?_
            refine AWp.region [] (by decide +kernel) ?_
            simp [hx809, hc40, hc549, hc758, hc818]
            refine hk845 _ _ ?_
            refine AWp.condK rfl fun A846 B847 ga848 gb849 => ?_
            rcases ite_some hm830 with ⟨hc850, hm851⟩ | ⟨hc850, hm852⟩
            · clear hm830
              simp [hx809, hc40, hc549, hc758, hc818, hc850]
              refine ga848 _ _ ?_
              refine AWp.seqK fun K853 hk854 => ?_
              refine AWp.region [] (by decide +kernel) ?_
              simp [hx809, hc40, hc549, hc758, hc818, hc850]
              refine hk854 _ _ ?_
              refine AWp.ret ?_
              try simp only [thenQ_ret]
              refine nr542 _ _ ?_
              try simp only [thenQ_ret]
              simp only [Option.some.injEq, Prod.mk.injEq] at hm851
              obtain ⟨rfl, rfl⟩ := hm851
              simp [retQ, hx809, hc40, hc549, hc758, hc818, hc850]
            · clear hm830
              simp [hx809, hc40, hc549, hc758, hc818, hc850]
              refine gb849 _ _ ?_
              refine AWp.skip ?_
              try simp only [thenQ_normal]
              refine hk843 _ _ ?_
              refine AWp.seqK fun K862 hk863 => ?_
              refine AWp.region [] (by decide +kernel) ?_
              obtain ⟨x864, hx865, hm866⟩ := bind1_some hm852
              clear hm852
              try dsimp only at hm866
              obtain ⟨x867, x868, hx869, hm870⟩ := bind2_some hm866
              clear hm866
              try dsimp only at hm870
              simp [hx809, hx865, hc40, hc549, hc758, hc818, hc850]
              refine CallAt.fn (ih hx869) ?_
              simp [hx809, hx865, hc40, hc549, hc758, hc818, hc850]
              refine hk863 _ _ ?_
              refine AWp.seqK fun K878 hk879 => ?_
              refine AWp.region [] (by decide +kernel) ?_
              obtain ⟨x880, hx881, hm882⟩ := bind1_some hm870
              clear hm870
              try dsimp only at hm882
              simp [hx809, hx865, hc40, hc549, hc758, hc818, hc850]
              refine CallAt.fn (r_ref23_Fun T hx881) ?_
              obtain ⟨x883, x884, hx885, hm886⟩ := bind2_some hm882
              clear hm882
              try dsimp only at hm886
              simp [hx809, hx865, hc40, hc549, hc758, hc818, hc850]
              refine CallAt.fn (r_ref23_fits T hx885) ?_
              simp [hx809, hx865, hc40, hc549, hc758, hc818, hc850]
              refine hk879 _ _ ?_
              refine AWp.ret ?_
              try simp only [thenQ_ret]
              refine nr542 _ _ ?_
              try simp only [thenQ_ret]
              simp only [Option.some.injEq, Prod.mk.injEq] at hm886
              obtain ⟨rfl, rfl⟩ := hm886
              simp [retQ, hx809, hx865, hc40, hc549, hc758, hc818, hc850]
          · clear hm813
            simp [hx809, hc40, hc549, hc758, hc818]
            refine ga816 _ _ ?_
            refine AWp.seqK fun K894 hk895 => ?_
            refine AWp.region [] (by decide +kernel) ?_
            obtain ⟨x896, hx897, hm898⟩ := bind1_some hm820
            clear hm820
            try dsimp only at hm898
            obtain ⟨x899, x900, hx901, hm902⟩ := bind2_some hm898
            clear hm898
            try dsimp only at hm902
            simp [hx809, hx897, hc40, hc549, hc758, hc818]
            refine CallAt.fn (ih hx901) ?_
            simp [hx809, hx897, hc40, hc549, hc758, hc818]
            refine hk895 _ _ ?_
            refine AWp.ret ?_
            try simp only [thenQ_ret]
            refine nr542 _ _ ?_
            try simp only [thenQ_ret]
            simp only [Option.some.injEq, Prod.mk.injEq] at hm902
            obtain ⟨rfl, rfl⟩ := hm902
            simp [retQ, hx809, hx897, hc40, hc549, hc758, hc818]
        · clear hm551
          simp [hc40, hc549, hc758]
          refine gb757 _ _ ?_
          refine AWp.seqK fun K903 hk904 => ?_
          refine AWp.region [] (by decide +kernel) ?_
          simp [hc40, hc549, hc758]
          refine hk904 _ _ ?_
          refine AWp.condK rfl fun A905 B906 ga907 gb908 => ?_
          rcases ite_some hm760 with ⟨hc909, hm910⟩ | ⟨hc909, hm911⟩
          · clear hm760
            simp [hc40, hc549, hc758, hc909]
            refine ga907 _ _ ?_
            refine AWp.seqK fun K919 hk920 => ?_
            refine AWp.region [] (by decide +kernel) ?_
            obtain ⟨x921, hx922, hm923⟩ := bind1_some hm910
            clear hm910
            try dsimp only at hm923
            obtain ⟨x924, x925, hx926, hm927⟩ := bind2_some hm923
            clear hm923
            try dsimp only at hm927
            simp [hx922, hc40, hc549, hc758, hc909]
            refine CallAt.fn (ih hx926) ?_
            simp [hx922, hc40, hc549, hc758, hc909]
            refine hk920 _ _ ?_
            refine AWp.seqK fun K935 hk936 => ?_
            refine AWp.region [] (by decide +kernel) ?_
            obtain ⟨x937, hx938, hm939⟩ := bind1_some hm927
            clear hm927
            try dsimp only at hm939
            simp [hx922, hc40, hc549, hc758, hc909]
            refine CallAt.fn (r_ref23_Fun T hx938) ?_
            obtain ⟨x940, x941, hx942, hm943⟩ := bind2_some hm939
            clear hm939
            try dsimp only at hm943
            simp [hx922, hc40, hc549, hc758, hc909]
            refine CallAt.fn (r_ref23_fits T hx942) ?_
            simp [hx922, hc40, hc549, hc758, hc909]
            refine hk936 _ _ ?_
            refine AWp.ret ?_
            try simp only [thenQ_ret]
            refine nr542 _ _ ?_
            try simp only [thenQ_ret]
            simp only [Option.some.injEq, Prod.mk.injEq] at hm943
            obtain ⟨rfl, rfl⟩ := hm943
            simp [retQ, hx922, hc40, hc549, hc758, hc909]
          · clear hm760
            simp [hc40, hc549, hc758, hc909]
            refine gb908 _ _ ?_
            refine AWp.seqK fun K944 hk945 => ?_
            refine AWp.region [] (by decide +kernel) ?_
            simp [hc40, hc549, hc758, hc909]
            refine hk945 _ _ ?_
            refine AWp.condK rfl fun A946 B947 ga948 gb949 => ?_
            rcases ite_some hm911 with ⟨hc950, hm951⟩ | ⟨hc950, hm952⟩
            · clear hm911
              simp [hc40, hc549, hc758, hc909, hc950]
              refine ga948 _ _ ?_
              refine AWp.seqK fun K976 hk977 => ?_
              refine AWp.seqK fun K984 hk985 => ?_
              refine AWp.region [] (by decide +kernel) ?_
              obtain ⟨x986, hx987, hm988⟩ := bind1_some hm951
              clear hm951
              try dsimp only at hm988
              obtain ⟨x989, hx990, hm991⟩ := bind1_some hm988
              clear hm988
              try dsimp only at hm991
              simp [hx987, hc40, hc549, hc758, hc909, hc950]
              refine CallAt.fn (r_ref23_Has T hx990) ?_
              simp [hx987, hc40, hc549, hc758, hc909, hc950]
              refine hk985 _ _ ?_
              refine AWp.condK rfl fun A992 B993 ga994 gb995 => ?_
              rcases ite_some hm991 with ⟨hc996, hm997⟩ | ⟨hc996, hm998⟩
              · clear hm991
                simp [hx987, hc40, hc549, hc758, hc909, hc950, hc996]
                refine gb995 _ _ ?_
                refine AWp.skip ?_
                try simp only [thenQ_normal]
                refine hk977 _ _ ?_
                refine AWp.seqK fun K1003 hk1004 => ?_
                refine AWp.region [] (by decide +kernel) ?_
                obtain ⟨x1005, x1006, hx1007, hm1008⟩ := bind2_some hm997
                clear hm997
                try dsimp only at hm1008
                simp [hx987, hc40, hc549, hc758, hc909, hc950, hc996]
                refine CallAt.fn (ih hx1007) ?_
                simp [hx987, hc40, hc549, hc758, hc909, hc950, hc996]
                refine hk1004 _ _ ?_
                refine AWp.seqK fun K1016 hk1017 => ?_
                refine AWp.region [] (by decide +kernel) ?_
                obtain ⟨x1018, hx1019, hm1020⟩ := bind1_some hm1008
                clear hm1008
                try dsimp only at hm1020
                simp [hx987, hc40, hc549, hc758, hc909, hc950, hc996]
                refine CallAt.fn (r_ref23_Pair T hx1019) ?_
                obtain ⟨x1021, x1022, hx1023, hm1024⟩ := bind2_some hm1020
                clear hm1020
                try dsimp only at hm1024
                simp [hx987, hc40, hc549, hc758, hc909, hc950, hc996]
                refine CallAt.fn (r_ref23_fits T hx1023) ?_
                simp [hx987, hc40, hc549, hc758, hc909, hc950, hc996]
                refine hk1017 _ _ ?_
                refine AWp.ret ?_
                try simp only [thenQ_ret]
                refine nr542 _ _ ?_
                try simp only [thenQ_ret]
                simp only [Option.some.injEq, Prod.mk.injEq] at hm1024
                obtain ⟨rfl, rfl⟩ := hm1024
                simp [retQ, hx987, hc40, hc549, hc758, hc909, hc950, hc996]
              · clear hm991
                simp [hx987, hc40, hc549, hc758, hc909, hc950, hc996]
                refine ga994 _ _ ?_
                refine AWp.seqK fun K1025 hk1026 => ?_
                refine AWp.region [] (by decide +kernel) ?_
                simp [hx987, hc40, hc549, hc758, hc909, hc950, hc996]
                refine hk1026 _ _ ?_
                refine AWp.ret ?_
                try simp only [thenQ_ret]
                refine nr542 _ _ ?_
                try simp only [thenQ_ret]
                simp only [Option.some.injEq, Prod.mk.injEq] at hm998
                obtain ⟨rfl, rfl⟩ := hm998
                simp [retQ, hx987, hc40, hc549, hc758, hc909, hc950, hc996]
            · clear hm911
              simp [hc40, hc549, hc758, hc909, hc950]
              refine gb949 _ _ ?_
              refine AWp.skip ?_
              try simp only [thenQ_normal]
              refine nn539 _ _ ?_
              try simp only [thenQ_normal]
              refine hk535 _ _ ?_
              refine AWp.seqK fun K1034 hk1035 => ?_
              refine AWp.region [] (by decide +kernel) ?_
              obtain ⟨x1036, hx1037, hm1038⟩ := bind1_some hm952
              clear hm952
              try dsimp only at hm1038
              obtain ⟨x1039, x1040, hx1041, hm1042⟩ := bind2_some hm1038
              clear hm1038
              try dsimp only at hm1042
              simp [hx1037, hc40, hc549, hc758, hc909, hc950]
              refine CallAt.fn (ih hx1041) ?_
              simp [hx1037, hc40, hc549, hc758, hc909, hc950]
              refine hk1035 _ _ ?_
              refine AWp.ret ?_
              try simp only [thenQ_ret]
              simp only [Option.some.injEq, Prod.mk.injEq] at hm1042
              obtain ⟨rfl, rfl⟩ := hm1042
              simp [retQ, hx1037, hc40, hc549, hc758, hc909, hc950]
    · clear hm35
      simp [hc40]
      refine ga38 _ _ ?_
      refine AWp.seqK fun K1046 hk1047 => ?_
      refine AWp.region [] (by decide +kernel) ?_
      obtain ⟨x1048, hx1049, hm1050⟩ := bind1_some hm42
      clear hm42
      try dsimp only at hm1050
      simp [hc40]
      refine CallAt.fn (r_ref23_Unit T hx1049) ?_
      simp [hc40]
      refine hk1047 _ _ ?_
      refine AWp.ret ?_
      try simp only [thenQ_ret]
      simp only [Option.some.injEq, Prod.mk.injEq] at hm1050
      obtain ⟨rfl, rfl⟩ := hm1050
      simp [retQ, hc40]
theorem r_ref23_of (T : Tabs) {H : Heap} {a0 : Fm} {r0 : Ty} {r1 : Int} {n : Nat} (hm : ref23_of n a0 = some (r0, r1)) : ACall Tryd.prog T 47 [Fm.av a0] H (AV.tuple [Ty.av r0, AV.sc (.int .i64 r1)]) H := (rg_ref23_of T n) hm

theorem enters17 : entersB Tryd.prog 17 = true := by kernel_rfl
set_option maxRecDepth 20000 in
set_option maxHeartbeats 4000000 in
theorem r_ref23_Type (T : Tabs) {H : Heap} {a0 : Fm} {r0 : Ty} {r1 : Int} (hm : ref23_Type a0 = some (r0, r1)) : ACall Tryd.prog T 17 [Fm.av a0] H (AV.tuple [Ty.av r0, AV.sc (.int .i64 r1)]) H := by
  rw [ref23_Type] at hm
  refine ACallP.intro (fn := Tryd.f17) Tryd.func17 rfl enters17 (Nat.le_of_ble_eq_true rfl) ?_
  refine AWp.seqK fun K1 hk2 => ?_
  refine AWp.region [] (by decide +kernel) ?_
  simp
  refine hk2 _ _ ?_
  refine AWp.seqK fun K22 hk23 => ?_
  refine AWp.seqK fun K27 hk28 => ?_
  refine AWp.region [] (by decide +kernel) ?_
  obtain ⟨x29, hx30, hm31⟩ := bind1_some hm
  clear hm
  try dsimp only at hm31
  simp
  refine CallAt.fn (r_ref07_Check T hx30) ?_
  simp
  refine hk28 _ _ ?_
  refine AWp.seqK fun K32 hk33 => ?_
  refine AWp.region [] (by decide +kernel) ?_
  simp
  refine hk33 _ _ ?_
  refine AWp.condK rfl fun A34 B35 ga36 gb37 => ?_
  rcases ite_some hm31 with ⟨hc38, hm39⟩ | ⟨hc38, hm40⟩
  · clear hm31
    simp [hc38]
    refine ga36 _ _ ?_
    refine AWp.seqK fun K41 hk42 => ?_
    refine AWp.region [] (by decide +kernel) ?_
    simp [hc38]
    refine hk42 _ _ ?_
    refine AWp.ret ?_
    try simp only [thenQ_ret]
    simp only [Option.some.injEq, Prod.mk.injEq] at hm39
    obtain ⟨rfl, rfl⟩ := hm39
    simp [retQ, hc38]
  · clear hm31
    simp [hc38]
    refine gb37 _ _ ?_
    refine AWp.skip ?_
    try simp only [thenQ_normal]
    refine hk23 _ _ ?_
    refine AWp.seqK fun K47 hk48 => ?_
    refine AWp.region [] (by decide +kernel) ?_
    obtain ⟨x49, x50, hx51, hm52⟩ := bind2_some hm40
    clear hm40
    try dsimp only at hm52
    simp [hc38]
    refine CallAt.fn (r_ref23_of T hx51) ?_
    simp [hc38]
    refine hk48 _ _ ?_
    refine AWp.ret ?_
    try simp only [thenQ_ret]
    simp only [Option.some.injEq, Prod.mk.injEq] at hm52
    obtain ⟨rfl, rfl⟩ := hm52
    simp [retQ, hc38]

end Go.Proofs.YtdihelfnjememaaDoor
