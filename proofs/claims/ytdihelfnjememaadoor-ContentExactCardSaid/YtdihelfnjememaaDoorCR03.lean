/- The program's functions do what the models say. -/
import Derived.Test.YtdihelfnjememaaDoorCR02
import Derived.Test.YtdihelfnjememaaDoorCM
set_option linter.unusedSimpArgs false
set_option linter.unusedVariables false
namespace Go.Proofs.YtdihelfnjememaaDoor
open Go Go.Abs Go.Mdl

theorem enters18 : entersB Tryd.prog 18 = true := by kernel_rfl
set_option maxRecDepth 20000 in
set_option maxHeartbeats 4000000 in
theorem rg_ref01_Same (T : Tabs) : ∀ (n : Nat), (∀ {H : Heap} {a0 : Ty} {a1 : Ty} {r0 : Bool} (hm : ref01_Same n a0 a1 = some r0), ACall Tryd.prog T 18 [Ty.av a0, Ty.av a1] H (AV.sc (.bool r0)) H) := by
  intro n
  induction n with
  | zero =>
    skip
    all_goals
      intros
      rename_i hm
      cases hm
  | succ n ih =>
    intro H a0 a1 r0 hm
    rw [ref01_Same] at hm
    refine ACallP.intro (fn := Tryd.f18) Tryd.func18 rfl enters18 (Nat.le_of_ble_eq_true rfl) ?_
    refine AWp.seqK fun K1 hk2 => ?_
    refine AWp.region [] (by decide +kernel) ?_
    simp
    refine hk2 _ _ ?_
    refine AWp.seqK fun K21 hk22 => ?_
    refine AWp.seqP (fun fr h => ∃ (g2_28 : Nat) (g3_28 : Nat), H = h ∧ fr.env 2 = AV.lptr 2 g2_28 0 ∧ fr.env 3 = AV.lptr 3 g3_28 0 ∧ fr.env 19 = AV.sc (.bool (sel (ine a0.kind a1.kind) true (ine (llen a0.args) (llen a1.args)))) ∧ fr.gen 2 = g2_28 ∧ fr.box 2 = some [AV.sc (.int .i64 a0.kind), AV.slice .frz (List.map Ty.av a0.args)] ∧ fr.gen 3 = g3_28 ∧ fr.box 3 = some [AV.sc (.int .i64 a1.kind), AV.slice .frz (List.map Ty.av a1.args)]) (fun K26 hk27 => ?_) ?_
    · refine AWp.region [] (by decide +kernel) ?_
      rcases Bool.eq_false_or_eq_true (ine a0.kind a1.kind) with hc29 | hc29
      · simp [hc29]
        refine hk27 _ _ ⟨1, 1, ?_, ?_, ?_, ?_, ?_, ?_, ?_, ?_⟩ <;> first | rfl | simp [hc29]
      · simp [hc29]
        refine hk27 _ _ ⟨1, 1, ?_, ?_, ?_, ?_, ?_, ?_, ?_, ?_⟩ <;> first | rfl | simp [hc29]
    · rintro fr28 h28 ⟨g2_28, g3_28, rfl, e2_28, e3_28, e19_28, g2e_28, b2_28, g3e_28, b3_28⟩
      refine AWp.condK rfl fun A32 B33 ga34 gb35 => ?_
      rcases ite_some hm with ⟨hc36, hm37⟩ | ⟨hc36, hm38⟩
      · clear hm
        simp [e2_28, e3_28, e19_28, g2e_28, b2_28, g3e_28, b3_28, hc36]
        refine ga34 _ _ ?_
        refine AWp.seqK fun K39 hk40 => ?_
        refine AWp.region [] (by decide +kernel) ?_
        simp [e2_28, e3_28, e19_28, g2e_28, b2_28, g3e_28, b3_28, hc36]
        refine hk40 _ _ ?_
        refine AWp.ret ?_
        try simp only [thenQ_ret]
        obtain rfl := Option.some.inj hm37
        simp [retQ, e2_28, e3_28, e19_28, g2e_28, b2_28, g3e_28, b3_28, hc36]
      · clear hm
        simp [e2_28, e3_28, e19_28, g2e_28, b2_28, g3e_28, b3_28, hc36]
        refine gb35 _ _ ?_
        refine AWp.skip ?_
        try simp only [thenQ_normal]
        refine hk22 _ _ ?_
        refine AWp.seqK fun K122 hk123 => ?_
        refine AWp.seqK fun K124 hk125 => ?_
        refine AWp.region [] (by decide +kernel) ?_
        simp [e2_28, e3_28, e19_28, g2e_28, b2_28, g3e_28, b3_28, hc36]
        refine hk125 _ _ ?_
        obtain ⟨hok223, hm314⟩ := chk_some hm38
        clear hm38
        obtain ⟨F205, hF206, hm315⟩ := joinB_some hm314
        clear hm314
        try dsimp only at hm315
        obtain ⟨out207, hl208, hmB209⟩ := bind1_some hm315
        clear hm315
        refine AWp.blockK fun Q214 nn215 ne216 nx217 nr218 => ?_
        refine AWp.loopF (fun n213 fr h => ∃ (i127 : Nat) (j126 : Int) (g2_204 : Nat) (g3_204 : Nat), H = h ∧ fr.env 2 = AV.lptr 2 g2_204 0 ∧ fr.env 3 = AV.lptr 3 g3_204 0 ∧ fr.env 22 = AV.sc (.int .i64 (llen a0.args)) ∧ fr.env 23 = AV.sc (.int .i64 j126) ∧ fr.gen 2 = g2_204 ∧ fr.box 2 = some [AV.sc (.int .i64 a0.kind), AV.slice .frz (List.map Ty.av a0.args)] ∧ fr.gen 3 = g3_204 ∧ fr.box 3 = some [AV.sc (.int .i64 a1.kind), AV.slice .frz (List.map Ty.av a1.args)] ∧ j126 = (i127 : Int) ∧ i127 + n213 = List.length a0.args ∧ forR F205 (List.drop i127 a0.args) i127 () = some out207) (List.length a0.args) ?_ ?_
        · refine ⟨0, 0, g2_28, g3_28, ?_, ?_, ?_, ?_, ?_, ?_, ?_, ?_, ?_, rfl, (by simp), hl208⟩ <;> first | rfl | simp [e2_28, e3_28, e19_28, g2e_28, b2_28, g3e_28, b3_28, hc36]
        · rintro n213 fr204 h204 ⟨i127, j126, g2_204, g3_204, rfl, e2_204, e3_204, e22_204, e23_204, g2e_204, b2_204, g3e_204, b3_204, hj221, hi222, hl208⟩ K220 hK219
          rcases n213 with _ | n213
          · have hlt224 := ilt_notJ (l := a0.args) hj221 (by omega)
            refine AWp.seqK fun K300 hk301 => ?_
            refine AWp.region [] (by decide +kernel) ?_
            simp [e2_204, e3_204, e22_204, e23_204, g2e_204, b2_204, g3e_204, b3_204, hlt224, hc36]
            refine hk301 _ _ ?_
            refine AWp.seqK fun K306 hk307 => ?_
            refine AWp.condK rfl fun A308 B309 ga310 gb311 => ?_
            simp [e2_204, e3_204, e22_204, e23_204, g2e_204, b2_204, g3e_204, b3_204, hlt224, hc36]
            refine gb311 _ _ ?_
            refine AWp.exit ?_
            try simp only [thenQ_exit]
            refine ne216 _ _ ?_
            try simp only [thenQ_normal]
            rw [List.drop_eq_nil_of_le (by omega), forR_nil] at hl208
            obtain rfl := Option.some.inj hl208
            rw [sumK_inl] at hmB209
            try dsimp only at hmB209
            refine hk123 _ _ ?_
            refine AWp.seqK fun K312 hk313 => ?_
            refine AWp.region [] (by decide +kernel) ?_
            simp [e2_204, e3_204, e22_204, e23_204, g2e_204, b2_204, g3e_204, b3_204, hlt224, hc36]
            refine hk313 _ _ ?_
            refine AWp.ret ?_
            try simp only [thenQ_ret]
            obtain rfl := Option.some.inj hmB209
            simp [retQ, e2_204, e3_204, e22_204, e23_204, g2e_204, b2_204, g3e_204, b3_204, hlt224, hc36]
          · have hlt224 := ilt_ofJ (l := a0.args) hj221 (by omega)
            obtain ⟨x128, hdn213, hg225⟩ := drop_ltJ (l := a0.args) hj221 (by omega)
            rw [hdn213, forR_cons] at hl208
            obtain ⟨c210, hb212, hk211⟩ := bind1_some hl208
            clear hl208
            rw [hF206, ← hj221] at hb212
            try dsimp only at hb212
            refine AWp.seqK fun K226 hk227 => ?_
            refine AWp.region [] (by decide +kernel) ?_
            simp [e2_204, e3_204, e22_204, e23_204, g2e_204, b2_204, g3e_204, b3_204, hlt224, hg225, hc36]
            refine hk227 _ _ ?_
            refine AWp.seqK fun K232 hk233 => ?_
            refine AWp.condK rfl fun A234 B235 ga236 gb237 => ?_
            simp [e2_204, e3_204, e22_204, e23_204, g2e_204, b2_204, g3e_204, b3_204, hlt224, hg225, hc36]
            refine ga236 _ _ ?_
            refine AWp.skip ?_
            try simp only [thenQ_normal]
            refine hk233 _ _ ?_
            refine AWp.seqK fun K268 hk269 => ?_
            refine AWp.blockK fun Q270 nn271 ne272 nx273 nr274 => ?_
            refine AWp.seqK fun K275 hk276 => ?_
            refine AWp.region [] (by decide +kernel) ?_
            simp [e2_204, e3_204, e22_204, e23_204, g2e_204, b2_204, g3e_204, b3_204, hlt224, hg225, hc36]
            refine hk276 _ _ ?_
            refine AWp.seqK fun K283 hk284 => ?_
            refine AWp.regionD [] false mixed (by decide +kernel) (by decide +kernel) ?_
            obtain ⟨x285, hx286, hm287⟩ := bind1_some hb212
            clear hb212
            try dsimp only at hm287
            obtain ⟨x288, hx289, hm290⟩ := bind1_some hm287
            clear hm287
            try dsimp only at hm290
            simp [e2_204, e3_204, e22_204, e23_204, g2e_204, b2_204, g3e_204, b3_204, hlt224, hg225, hx286, hc36]
            refine CallAtD.fn (ih hx289) (by simp) ?_
            simp [e2_204, e3_204, e22_204, e23_204, g2e_204, b2_204, g3e_204, b3_204, hlt224, hg225, hx286, hc36]
            refine hk284 _ _ ?_
            refine AWp.condK rfl fun A291 B292 ga293 gb294 => ?_
            rcases ite_some hm290 with ⟨hc295, hm296⟩ | ⟨hc295, hm297⟩
            · clear hm290
              simp [e2_204, e3_204, e22_204, e23_204, g2e_204, b2_204, g3e_204, b3_204, hlt224, hg225, hx286, hc36, hc295]
              refine gb294 _ _ ?_
              refine AWp.skip ?_
              try simp only [thenQ_normal]
              refine nn271 _ _ ?_
              try simp only [thenQ_normal]
              refine hk269 _ _ ?_
              refine AWp.region [] (by decide +kernel) ?_
              simp [e2_204, e3_204, e22_204, e23_204, g2e_204, b2_204, g3e_204, b3_204, hlt224, hg225, hx286, hc36, hc295]
              obtain rfl := Option.some.inj hm296
              rw [ctlK_next] at hk211
              refine hK219 _ _ n213 (Nat.lt_succ_self _) ⟨(i127 + 1), (iadd .i64 j126 1), g2_204, g3_204, ?_, ?_, ?_, ?_, ?_, ?_, ?_, ?_, ?_, (iadd_idxJ hj221 (by omega) hok223), (by omega), hk211⟩ <;> first | rfl | simp [e2_204, e3_204, e22_204, e23_204, g2e_204, b2_204, g3e_204, b3_204, hlt224, hg225, hx286, hc36, hc295]
            · clear hm290
              simp [e2_204, e3_204, e22_204, e23_204, g2e_204, b2_204, g3e_204, b3_204, hlt224, hg225, hx286, hc36, hc295]
              refine ga293 _ _ ?_
              refine AWp.seqK fun K298 hk299 => ?_
              refine AWp.region [] (by decide +kernel) ?_
              simp [e2_204, e3_204, e22_204, e23_204, g2e_204, b2_204, g3e_204, b3_204, hlt224, hg225, hx286, hc36, hc295]
              refine hk299 _ _ ?_
              refine AWp.ret ?_
              try simp only [thenQ_ret]
              refine nr274 _ _ ?_
              try simp only [thenQ_ret]
              refine nr218 _ _ ?_
              try simp only [thenQ_ret]
              obtain rfl := Option.some.inj hm297
              rw [ctlK_ret] at hk211
              obtain rfl := Option.some.inj hk211
              rw [sumK_inr] at hmB209
              try dsimp only at hmB209
              obtain rfl := Option.some.inj hmB209
              simp [retQ, e2_204, e3_204, e22_204, e23_204, g2e_204, b2_204, g3e_204, b3_204, hlt224, hg225, hx286, hc36, hc295]
theorem r_ref01_Same (T : Tabs) {H : Heap} {a0 : Ty} {a1 : Ty} {r0 : Bool} {n : Nat} (hm : ref01_Same n a0 a1 = some r0) : ACall Tryd.prog T 18 [Ty.av a0, Ty.av a1] H (AV.sc (.bool r0)) H := (rg_ref01_Same T n) hm

theorem enters7 : entersB Tryd.prog 7 = true := by kernel_rfl
set_option maxRecDepth 20000 in
set_option maxHeartbeats 4000000 in
theorem r_law23_awake (T : Tabs) (hT : T 0 = some (AV.agg (List.map (fun n => AV.sc (Value.int .i64 n)) tree_arities))) {H : Heap}  {r0 : Bool} (hm : law23_awake = some r0) : ACall Tryd.prog T 7 [] H (AV.sc (.bool r0)) H := by
  rw [law23_awake] at hm
  refine ACallP.intro (fn := Tryd.f7) Tryd.func7 rfl enters7 (Nat.le_of_ble_eq_true rfl) ?_
  refine AWp.seqK fun K1 hk2 => ?_
  refine AWp.region [] (by decide +kernel) ?_
  simp [hT]
  refine hk2 _ _ ?_
  refine AWp.seqK fun K3 hk4 => ?_
  refine AWp.region [] (by decide +kernel) ?_
  simp [hT]
  refine hk4 _ _ ?_
  refine AWp.seqK fun K9 hk10 => ?_
  refine AWp.regionD [] false mixed (by decide +kernel) (by decide +kernel) ?_
  obtain ⟨x11, hx12, hm13⟩ := bind1_some hm
  clear hm
  try dsimp only at hm13
  simp [hT]
  refine CallAtD.fn (r_ref07_False T hx12) (by simp) ?_
  have hf14 : AV.agg [AV.sc (.int .i64 5), AV.sc (.int .i64 1), AV.slice .frz [], AV.slice .frz [], AV.slice .frz [Fm.av x11]] = Fm.av (Fm.mk 5 (Ty.mk 1 []) [] [x11]) := by rw [Fm.av_mk]; rfl
  simp [hT, hf14]
  refine hk10 _ _ ?_
  refine AWp.seqK fun K21 hk22 => ?_
  refine AWp.region [] (by decide +kernel) ?_
  have hf23 : AV.agg [AV.sc (.int .i64 4), AV.sc (.int .i64 1), AV.slice .frz [], AV.slice .frz [], AV.slice .frz [Fm.av (Fm.mk 5 (Ty.mk 1 []) [] [x11])]] = Fm.av (Fm.mk 4 (Ty.mk 1 []) [] [(Fm.mk 5 (Ty.mk 1 []) [] [x11])]) := by rw [Fm.av_mk]; rfl
  have hf24 : AV.agg [AV.sc (.int .i64 4), AV.sc (.int .i64 1), AV.slice .frz [], AV.slice .frz [], AV.slice .frz [Fm.av (Fm.mk 5 (Ty.mk 1 []) [] [x11])]] = Fm.av (Fm.mk 4 (Ty.mk 1 []) [] [(Fm.mk 5 (Ty.mk 1 []) [] [x11])]) := by rw [Fm.av_mk]; rfl
  obtain ⟨x25, x26, hx27, hm28⟩ := bind2_some hm13
  clear hm13
  try dsimp only at hm28
  simp [hT, hf14, hf23, hf24]
  refine CallAt.fn (r_content_Type T hT hx27) ?_
  simp [hT, hf14, hf23, hf24]
  refine hk22 _ _ ?_
  refine AWp.seqK fun K39 hk40 => ?_
  refine AWp.regionD [] false mixed (by decide +kernel) (by decide +kernel) ?_
  obtain ⟨x41, hx42, hm43⟩ := bind1_some hm28
  clear hm28
  try dsimp only at hm43
  simp [hT, hf14, hf23, hf24]
  refine CallAtD.fn (r_ref07_False T hx42) (by simp) ?_
  have hf44 : AV.agg [AV.sc (.int .i64 4), AV.sc (.int .i64 1), AV.slice .frz [], AV.slice .frz [], AV.slice .frz [Fm.av (Fm.mk 5 (Ty.mk 1 []) [] [x11])]] = Fm.av (Fm.mk 4 (Ty.mk 1 []) [] [(Fm.mk 5 (Ty.mk 1 []) [] [x11])]) := by rw [Fm.av_mk]; rfl
  have hf45 : AV.agg [AV.sc (.int .i64 4), AV.sc (.int .i64 1), AV.slice .frz [], AV.slice .frz [], AV.slice .frz [Fm.av (Fm.mk 5 (Ty.mk 1 []) [] [x11])]] = Fm.av (Fm.mk 4 (Ty.mk 1 []) [] [(Fm.mk 5 (Ty.mk 1 []) [] [x11])]) := by rw [Fm.av_mk]; rfl
  have hf46 : AV.agg [AV.slice .frz [Ty.av (Ty.mk 1 [])], AV.slice .frz [Fm.av x41, Fm.av (Fm.mk 4 (Ty.mk 1 []) [] [(Fm.mk 5 (Ty.mk 1 []) [] [x11])])]] = Sq.av (Sq.mk [(Ty.mk 1 [])] [x41, (Fm.mk 4 (Ty.mk 1 []) [] [(Fm.mk 5 (Ty.mk 1 []) [] [x11])])]) := by rw [Sq.av_mk]; rfl
  obtain ⟨x47, x48, hx49, hm50⟩ := bind2_some hm43
  clear hm43
  try dsimp only at hm50
  simp [hT, hf14, hf23, hf24, hf44, hf45, hf46]
  refine CallAtD.fn (r_content_Context T hT hx49) (by simp) ?_
  simp [hT, hf14, hf23, hf24, hf44, hf45, hf46]
  refine hk40 _ _ ?_
  refine AWp.seqK fun K61 hk62 => ?_
  refine AWp.regionD [] false mixed (by decide +kernel) (by decide +kernel) ?_
  obtain ⟨x63, hx64, hm65⟩ := bind1_some hm50
  clear hm50
  try dsimp only at hm65
  simp [hT, hf14, hf23, hf24, hf44, hf45, hf46]
  refine CallAtD.fn (r_ref07_False T hx64) (by simp) ?_
  have hf66 : AV.agg [AV.sc (.int .i64 4), AV.sc (.int .i64 1), AV.slice .frz [], AV.slice .frz [], AV.slice .frz [Fm.av (Fm.mk 5 (Ty.mk 1 []) [] [x11])]] = Fm.av (Fm.mk 4 (Ty.mk 1 []) [] [(Fm.mk 5 (Ty.mk 1 []) [] [x11])]) := by rw [Fm.av_mk]; rfl
  have hf67 : AV.agg [AV.sc (.int .i64 4), AV.sc (.int .i64 1), AV.slice .frz [], AV.slice .frz [], AV.slice .frz [Fm.av (Fm.mk 5 (Ty.mk 1 []) [] [x11])]] = Fm.av (Fm.mk 4 (Ty.mk 1 []) [] [(Fm.mk 5 (Ty.mk 1 []) [] [x11])]) := by rw [Fm.av_mk]; rfl
  have hf68 : AV.agg [AV.slice .frz [Ty.av (Ty.mk 1 [])], AV.slice .frz [Fm.av x63, Fm.av (Fm.mk 4 (Ty.mk 1 []) [] [(Fm.mk 5 (Ty.mk 1 []) [] [x11])])]] = Sq.av (Sq.mk [(Ty.mk 1 [])] [x63, (Fm.mk 4 (Ty.mk 1 []) [] [(Fm.mk 5 (Ty.mk 1 []) [] [x11])])]) := by rw [Sq.av_mk]; rfl
  obtain ⟨x69, x70, hx71, hm72⟩ := bind2_some hm65
  clear hm65
  try dsimp only at hm72
  simp [hT, hf14, hf23, hf24, hf44, hf45, hf46, hf66, hf67, hf68]
  refine CallAtD.fn (r_content_Places T hT hx71) (by simp) ?_
  simp [hT, hf14, hf23, hf24, hf44, hf45, hf46, hf66, hf67, hf68]
  refine hk62 _ _ ?_
  obtain ⟨j110, hj111, hm112⟩ := joinB_some hm72
  clear hm72
  refine AWp.seqP (fun fr h => ∃ (v109 : Bool), H = h ∧ fr.env 0 = AV.sc (.bool v109) ∧ j110 v109 = some r0) (fun K106 hk107 => ?_) ?_
  · refine AWp.regionD [] false mixed (by decide +kernel) (by decide +kernel) ?_
    rcases ite_some hm112 with ⟨hc114, hm115⟩ | ⟨hc114, hm116⟩
    · clear hm112
      rcases ite_some hm115 with ⟨hc117, hm118⟩ | ⟨hc117, hm119⟩
      · clear hm115
        rcases ite_some hm118 with ⟨hc120, hm121⟩ | ⟨hc120, hm122⟩
        · clear hm118
          obtain ⟨x123, hx124, hm125⟩ := bind1_some hm121
          clear hm121
          try dsimp only at hm125
          simp [hT, hf14, hf23, hf24, hf44, hf45, hf46, hf66, hf67, hf68, hc114, hc117, hc120]
          refine CallAtD.fn (r_ref23_Fun T hx124) (by simp) ?_
          obtain ⟨x126, hx127, hm128⟩ := bind1_some hm125
          clear hm125
          try dsimp only at hm128
          simp [hT, hf14, hf23, hf24, hf44, hf45, hf46, hf66, hf67, hf68, hc114, hc117, hc120]
          refine CallAtD.fn (r_ref01_Same T hx127) (by simp) ?_
          rcases ite_some hm128 with ⟨hc129, hm130⟩ | ⟨hc129, hm131⟩
          · clear hm128
            rcases ite_some hm130 with ⟨hc132, hm133⟩ | ⟨hc132, hm134⟩
            · clear hm130
              rcases ite_some hm133 with ⟨hc135, hm136⟩ | ⟨hc135, hm137⟩
              · clear hm133
                obtain ⟨x138, hx139, hm140⟩ := bind1_some hm136
                clear hm136
                try dsimp only at hm140
                rcases ite_some hm140 with ⟨hc141, hm142⟩ | ⟨hc141, hm143⟩
                · clear hm140
                  obtain ⟨x144, hx145, hm146⟩ := bind1_some hm142
                  clear hm142
                  try dsimp only at hm146
                  simp [hT, hf14, hf23, hf24, hf44, hf45, hf46, hf66, hf67, hf68, hx139, hx145, hc114, hc117, hc120, hc129, hc132, hc135, hc141]
                  refine hk107 _ _ ⟨(ieq x144 1), ?_, ?_, hm146⟩ <;> first | rfl | simp [hT, hf14, hf23, hf24, hf44, hf45, hf46, hf66, hf67, hf68, hx139, hx145, hc114, hc117, hc120, hc129, hc132, hc135, hc141]
                · clear hm140
                  simp [hT, hf14, hf23, hf24, hf44, hf45, hf46, hf66, hf67, hf68, hx139, hc114, hc117, hc120, hc129, hc132, hc135, hc141]
                  refine hk107 _ _ ⟨false, ?_, ?_, hm143⟩ <;> first | rfl | simp [hT, hf14, hf23, hf24, hf44, hf45, hf46, hf66, hf67, hf68, hx139, hc114, hc117, hc120, hc129, hc132, hc135, hc141]
              · clear hm133
                simp [hT, hf14, hf23, hf24, hf44, hf45, hf46, hf66, hf67, hf68, hc114, hc117, hc120, hc129, hc132, hc135]
                refine hk107 _ _ ⟨false, ?_, ?_, hm137⟩ <;> first | rfl | simp [hT, hf14, hf23, hf24, hf44, hf45, hf46, hf66, hf67, hf68, hc114, hc117, hc120, hc129, hc132, hc135]
            · clear hm130
              simp [hT, hf14, hf23, hf24, hf44, hf45, hf46, hf66, hf67, hf68, hc114, hc117, hc120, hc129, hc132]
              refine hk107 _ _ ⟨false, ?_, ?_, hm134⟩ <;> first | rfl | simp [hT, hf14, hf23, hf24, hf44, hf45, hf46, hf66, hf67, hf68, hc114, hc117, hc120, hc129, hc132]
          · clear hm128
            simp [hT, hf14, hf23, hf24, hf44, hf45, hf46, hf66, hf67, hf68, hc114, hc117, hc120, hc129]
            refine hk107 _ _ ⟨false, ?_, ?_, hm131⟩ <;> first | rfl | simp [hT, hf14, hf23, hf24, hf44, hf45, hf46, hf66, hf67, hf68, hc114, hc117, hc120, hc129]
        · clear hm118
          simp [hT, hf14, hf23, hf24, hf44, hf45, hf46, hf66, hf67, hf68, hc114, hc117, hc120]
          refine hk107 _ _ ⟨false, ?_, ?_, hm122⟩ <;> first | rfl | simp [hT, hf14, hf23, hf24, hf44, hf45, hf46, hf66, hf67, hf68, hc114, hc117, hc120]
      · clear hm115
        simp [hT, hf14, hf23, hf24, hf44, hf45, hf46, hf66, hf67, hf68, hc114, hc117]
        refine hk107 _ _ ⟨false, ?_, ?_, hm119⟩ <;> first | rfl | simp [hT, hf14, hf23, hf24, hf44, hf45, hf46, hf66, hf67, hf68, hc114, hc117]
    · clear hm112
      simp [hT, hf14, hf23, hf24, hf44, hf45, hf46, hf66, hf67, hf68, hc114]
      refine hk107 _ _ ⟨false, ?_, ?_, hm116⟩ <;> first | rfl | simp [hT, hf14, hf23, hf24, hf44, hf45, hf46, hf66, hf67, hf68, hc114]
  · clear hm112
    rintro fr108 h108 ⟨v109, rfl, e0_108, hm113⟩
    subst hj111
    refine AWp.ret ?_
    try simp only [thenQ_ret]
    obtain rfl := Option.some.inj hm113
    simp [retQ, e0_108, hT, hf14, hf23, hf24, hf44, hf45, hf46, hf66, hf67, hf68]

theorem enters8 : entersB Tryd.prog 8 = true := by kernel_rfl
set_option maxRecDepth 20000 in
set_option maxHeartbeats 4000000 in
theorem r_mk_Few (T : Tabs) {H : Heap} {a0 : (List Int)} {r0 : Bool} (hm : mk_Few a0 = some r0) : ACall Tryd.prog T 8 [AV.slice .frz (List.map (fun n => AV.sc (Value.int .i64 n)) a0)] H (AV.sc (.bool r0)) H := by
  rw [mk_Few] at hm
  refine ACallP.intro (fn := Tryd.f8) Tryd.func8 rfl enters8 (Nat.le_of_ble_eq_true rfl) ?_
  refine AWp.seqK fun K1 hk2 => ?_
  refine AWp.region [] (by decide +kernel) ?_
  simp
  refine hk2 _ _ ?_
  refine AWp.seqK fun K3 hk4 => ?_
  refine AWp.region [] (by decide +kernel) ?_
  simp
  refine hk4 _ _ ?_
  refine AWp.ret ?_
  try simp only [thenQ_ret]
  obtain rfl := Option.some.inj hm
  simp [retQ]

theorem enters9 : entersB Tryd.prog 9 = true := by kernel_rfl
set_option maxRecDepth 20000 in
set_option maxHeartbeats 4000000 in
theorem r_play_Count (T : Tabs) {H : Heap}  {r0 : Splay_Sum} (hm : play_Count = some r0) : ACall Tryd.prog T 9 [] H (Splay_Sum.av r0) H := by
  rw [play_Count] at hm
  refine ACallP.intro (fn := Tryd.f9) Tryd.func9 rfl enters9 (Nat.le_of_ble_eq_true rfl) ?_
  refine AWp.seqK fun K1 hk2 => ?_
  refine AWp.region [] (by decide +kernel) ?_
  simp
  refine hk2 _ _ ?_
  refine AWp.seqK fun K3 hk4 => ?_
  refine AWp.region [] (by decide +kernel) ?_
  simp
  refine hk4 _ _ ?_
  refine AWp.ret ?_
  try simp only [thenQ_ret]
  obtain rfl := Option.some.inj hm
  simp [retQ]

theorem enters12 : entersB Tryd.prog 12 = true := by kernel_rfl
set_option maxRecDepth 20000 in
set_option maxHeartbeats 4000000 in
theorem r_play_Sum_Few (T : Tabs) {H : Heap} {a0 : Splay_Sum} {r0 : Bool} (hm : play_Sum_Few a0 = some r0) : ACall Tryd.prog T 12 [Splay_Sum.av a0] H (AV.sc (.bool r0)) H := by
  rw [play_Sum_Few] at hm
  refine ACallP.intro (fn := Tryd.f12) Tryd.func12 rfl enters12 (Nat.le_of_ble_eq_true rfl) ?_
  refine AWp.seqK fun K1 hk2 => ?_
  refine AWp.region [] (by decide +kernel) ?_
  simp
  refine hk2 _ _ ?_
  refine AWp.seqK fun K3 hk4 => ?_
  refine AWp.region [] (by decide +kernel) ?_
  simp
  refine hk4 _ _ ?_
  refine AWp.ret ?_
  try simp only [thenQ_ret]
  obtain rfl := Option.some.inj hm
  simp [retQ]

theorem enters75 : entersB Tryd.prog 75 = true := by kernel_rfl
set_option maxRecDepth 20000 in
set_option maxHeartbeats 4000000 in
theorem rg_mk_CountType (T : Tabs) : ∀ (n : Nat), (∀ {H : Heap} {a0 : Ty} {a1 : Int} {r0 : Int} (hm : mk_CountType n a0 a1 = some r0), ACall Tryd.prog T 75 [Ty.av a0, AV.sc (.int .i64 a1)] H (AV.sc (.int .i64 r0)) H) := by
  intro n
  induction n with
  | zero =>
    skip
    all_goals
      intros
      rename_i hm
      cases hm
  | succ n ih =>
    intro H a0 a1 r0 hm
    rw [mk_CountType] at hm
    refine ACallP.intro (fn := Tryd.f75) Tryd.func75 rfl enters75 (Nat.le_of_ble_eq_true rfl) ?_
    refine AWp.seqK fun K1 hk2 => ?_
    refine AWp.region [] (by decide +kernel) ?_
    simp
    refine hk2 _ _ ?_
    refine AWp.seqK fun K3 hk4 => ?_
    refine AWp.region [] (by decide +kernel) ?_
    simp
    refine hk4 _ _ ?_
    refine AWp.seqK fun K130 hk131 => ?_
    refine AWp.seqK fun K132 hk133 => ?_
    refine AWp.region [] (by decide +kernel) ?_
    simp
    refine hk133 _ _ ?_
    obtain ⟨F257, hF258, hm335⟩ := joinB_some hm
    clear hm
    try dsimp only at hm335
    obtain ⟨out259, hl260, hmB261⟩ := bind1_some hm335
    clear hm335
    refine AWp.blockK fun Q266 nn267 ne268 nx269 nr270 => ?_
    refine AWp.loopF (fun n265 fr h => ∃ (v255 : Int) (v256 : Int) (g2_254 : Nat), H = h ∧ fr.env 1 = AV.sc (.int .i64 a1) ∧ fr.env 2 = AV.lptr 2 g2_254 0 ∧ fr.env 5 = AV.sc (.int .i64 v255) ∧ fr.env 6 = AV.sc (.int .i64 v256) ∧ fr.gen 2 = g2_254 ∧ fr.box 2 = some [AV.sc (.int .i64 a0.kind), AV.slice .frz (List.map Ty.av a0.args)] ∧ loopN F257 n265 (v255, v256) = some out259) FU ?_ ?_
    · refine ⟨1, 0, 1, ?_, ?_, ?_, ?_, ?_, ?_, ?_, hl260⟩ <;> first | rfl | simp
    · rintro n265 fr254 h254 ⟨v255, v256, g2_254, rfl, e1_254, e2_254, e5_254, e6_254, g2e_254, b2_254, hl260⟩ K272 hK271
      rcases n265 with _ | n265
      · rw [loopN_zero] at hl260
        cases hl260
      · rw [loopN_succ] at hl260
        obtain ⟨c262, hb264, hk263⟩ := bind1_some hl260
        clear hl260
        rw [hF258] at hb264
        try dsimp only at hb264
        rw [un2_mk] at hb264
        try dsimp only at hb264
        refine AWp.seqK fun K291 hk292 => ?_
        refine AWp.seqP (fun fr h => ∃ (g2_298 : Nat), H = h ∧ fr.env 1 = AV.sc (.int .i64 a1) ∧ fr.env 2 = AV.lptr 2 g2_298 0 ∧ fr.env 5 = AV.sc (.int .i64 v255) ∧ fr.env 6 = AV.sc (.int .i64 v256) ∧ fr.env 16 = AV.sc (.bool (sel (ilt v256 (llen a0.args)) (ile v255 a1) false)) ∧ fr.gen 2 = g2_298 ∧ fr.box 2 = some [AV.sc (.int .i64 a0.kind), AV.slice .frz (List.map Ty.av a0.args)]) (fun K296 hk297 => ?_) ?_
        · refine AWp.region [] (by decide +kernel) ?_
          rcases Bool.eq_false_or_eq_true (ilt v256 (llen a0.args)) with hc299 | hc299
          · simp [e1_254, e2_254, e5_254, e6_254, g2e_254, b2_254, hc299]
            refine hk297 _ _ ⟨g2_254, ?_, ?_, ?_, ?_, ?_, ?_, ?_, ?_⟩ <;> first | rfl | simp [e1_254, e2_254, e5_254, e6_254, g2e_254, b2_254, hc299]
          · simp [e1_254, e2_254, e5_254, e6_254, g2e_254, b2_254, hc299]
            refine hk297 _ _ ⟨g2_254, ?_, ?_, ?_, ?_, ?_, ?_, ?_, ?_⟩ <;> first | rfl | simp [e1_254, e2_254, e5_254, e6_254, g2e_254, b2_254, hc299]
        · rintro fr298 h298 ⟨g2_298, rfl, e1_298, e2_298, e5_298, e6_298, e16_298, g2e_298, b2_298⟩
          refine AWp.condK rfl fun A302 B303 ga304 gb305 => ?_
          rcases ite_some hb264 with ⟨hc306, hm307⟩ | ⟨hc306, hm308⟩
          · clear hb264
            simp [e1_298, e2_298, e5_298, e6_298, e16_298, g2e_298, b2_298, hc306]
            refine ga304 _ _ ?_
            refine AWp.skip ?_
            try simp only [thenQ_normal]
            refine hk292 _ _ ?_
            refine AWp.seqK fun K320 hk321 => ?_
            refine AWp.blockK fun Q322 nn323 ne324 nx325 nr326 => ?_
            refine AWp.region [] (by decide +kernel) ?_
            obtain ⟨x327, hx328, hm329⟩ := bind1_some hm307
            clear hm307
            try dsimp only at hm329
            obtain ⟨x330, hx331, hm332⟩ := bind1_some hm329
            clear hm329
            try dsimp only at hm332
            simp [e1_298, e2_298, e5_298, e6_298, e16_298, g2e_298, b2_298, hx328, hc306]
            refine CallAt.fn (ih hx331) ?_
            simp [e1_298, e2_298, e5_298, e6_298, e16_298, g2e_298, b2_298, hx328, hc306]
            refine nn323 _ _ ?_
            try simp only [thenQ_normal]
            refine hk321 _ _ ?_
            refine AWp.region [] (by decide +kernel) ?_
            simp [e1_298, e2_298, e5_298, e6_298, e16_298, g2e_298, b2_298, hx328, hc306]
            obtain rfl := Option.some.inj hm332
            rw [ctlK_next] at hk263
            refine hK271 _ _ n265 (Nat.lt_succ_self _) ⟨(iadd .i64 v255 x330), (iadd .i64 v256 1), g2_298, ?_, ?_, ?_, ?_, ?_, ?_, ?_, hk263⟩ <;> first | rfl | simp [e1_298, e2_298, e5_298, e6_298, e16_298, g2e_298, b2_298, hx328, hc306]
          · clear hb264
            simp [e1_298, e2_298, e5_298, e6_298, e16_298, g2e_298, b2_298, hc306]
            refine gb305 _ _ ?_
            refine AWp.exit ?_
            try simp only [thenQ_exit]
            refine ne268 _ _ ?_
            try simp only [thenQ_normal]
            obtain rfl := Option.some.inj hm308
            rw [ctlK_brk] at hk263
            obtain rfl := Option.some.inj hk263
            rw [sumK_inl, un2_mk] at hmB261
            try dsimp only at hmB261
            refine hk131 _ _ ?_
            refine AWp.seqK fun K333 hk334 => ?_
            refine AWp.region [] (by decide +kernel) ?_
            simp [e1_298, e2_298, e5_298, e6_298, e16_298, g2e_298, b2_298, hc306]
            refine hk334 _ _ ?_
            refine AWp.ret ?_
            try simp only [thenQ_ret]
            obtain rfl := Option.some.inj hmB261
            simp [retQ, e1_298, e2_298, e5_298, e6_298, e16_298, g2e_298, b2_298, hc306]
theorem r_mk_CountType (T : Tabs) {H : Heap} {a0 : Ty} {a1 : Int} {r0 : Int} {n : Nat} (hm : mk_CountType n a0 a1 = some r0) : ACall Tryd.prog T 75 [Ty.av a0, AV.sc (.int .i64 a1)] H (AV.sc (.int .i64 r0)) H := (rg_mk_CountType T n) hm

theorem enters76 : entersB Tryd.prog 76 = true := by kernel_rfl
set_option maxRecDepth 20000 in
set_option maxHeartbeats 4000000 in
theorem rg_mk_CountTerm (T : Tabs) : ∀ (n : Nat), (∀ {H : Heap} {a0 : Tm} {a1 : Int} {r0 : Int} (hm : mk_CountTerm n a0 a1 = some r0), ACall Tryd.prog T 76 [Tm.av a0, AV.sc (.int .i64 a1)] H (AV.sc (.int .i64 r0)) H) := by
  intro n
  induction n with
  | zero =>
    skip
    all_goals
      intros
      rename_i hm
      cases hm
  | succ n ih =>
    intro H a0 a1 r0 hm
    rw [mk_CountTerm] at hm
    refine ACallP.intro (fn := Tryd.f76) Tryd.func76 rfl enters76 (Nat.le_of_ble_eq_true rfl) ?_
    refine AWp.seqK fun K1 hk2 => ?_
    refine AWp.region [] (by decide +kernel) ?_
    simp
    refine hk2 _ _ ?_
    refine AWp.seqK fun K6 hk7 => ?_
    refine AWp.region [] (by decide +kernel) ?_
    obtain ⟨x8, hx9, hm10⟩ := bind1_some hm
    clear hm
    try dsimp only at hm10
    simp
    refine CallAt.fn (r_mk_CountType T hx9) ?_
    simp
    refine hk7 _ _ ?_
    refine AWp.seqK fun K136 hk137 => ?_
    refine AWp.seqK fun K138 hk139 => ?_
    refine AWp.region [] (by decide +kernel) ?_
    simp
    refine hk139 _ _ ?_
    obtain ⟨F263, hF264, hm341⟩ := joinB_some hm10
    clear hm10
    try dsimp only at hm341
    obtain ⟨out265, hl266, hmB267⟩ := bind1_some hm341
    clear hm341
    refine AWp.blockK fun Q272 nn273 ne274 nx275 nr276 => ?_
    refine AWp.loopF (fun n271 fr h => ∃ (v261 : Int) (v262 : Int) (g2_260 : Nat), H = h ∧ fr.env 1 = AV.sc (.int .i64 a1) ∧ fr.env 2 = AV.lptr 2 g2_260 0 ∧ fr.env 5 = AV.sc (.int .i64 v261) ∧ fr.env 6 = AV.sc (.int .i64 v262) ∧ fr.gen 2 = g2_260 ∧ fr.box 2 = some [AV.sc (.int .i64 a0.kind), AV.sc (.int .i64 a0.index), AV.sc (.int .i64 a0.typeF.kind), AV.slice .frz (List.map Ty.av a0.typeF.args), AV.slice .frz (List.map Tm.av a0.args)] ∧ loopN F263 n271 (v261, v262) = some out265) FU ?_ ?_
    · refine ⟨(iadd .i64 1 x8), 0, 1, ?_, ?_, ?_, ?_, ?_, ?_, ?_, hl266⟩ <;> first | rfl | simp
    · rintro n271 fr260 h260 ⟨v261, v262, g2_260, rfl, e1_260, e2_260, e5_260, e6_260, g2e_260, b2_260, hl266⟩ K278 hK277
      rcases n271 with _ | n271
      · rw [loopN_zero] at hl266
        cases hl266
      · rw [loopN_succ] at hl266
        obtain ⟨c268, hb270, hk269⟩ := bind1_some hl266
        clear hl266
        rw [hF264] at hb270
        try dsimp only at hb270
        rw [un2_mk] at hb270
        try dsimp only at hb270
        refine AWp.seqK fun K297 hk298 => ?_
        refine AWp.seqP (fun fr h => ∃ (g2_304 : Nat), H = h ∧ fr.env 1 = AV.sc (.int .i64 a1) ∧ fr.env 2 = AV.lptr 2 g2_304 0 ∧ fr.env 5 = AV.sc (.int .i64 v261) ∧ fr.env 6 = AV.sc (.int .i64 v262) ∧ fr.env 22 = AV.sc (.bool (sel (ilt v262 (llen a0.args)) (ile v261 a1) false)) ∧ fr.gen 2 = g2_304 ∧ fr.box 2 = some [AV.sc (.int .i64 a0.kind), AV.sc (.int .i64 a0.index), AV.sc (.int .i64 a0.typeF.kind), AV.slice .frz (List.map Ty.av a0.typeF.args), AV.slice .frz (List.map Tm.av a0.args)]) (fun K302 hk303 => ?_) ?_
        · refine AWp.region [] (by decide +kernel) ?_
          rcases Bool.eq_false_or_eq_true (ilt v262 (llen a0.args)) with hc305 | hc305
          · simp [e1_260, e2_260, e5_260, e6_260, g2e_260, b2_260, hc305]
            refine hk303 _ _ ⟨g2_260, ?_, ?_, ?_, ?_, ?_, ?_, ?_, ?_⟩ <;> first | rfl | simp [e1_260, e2_260, e5_260, e6_260, g2e_260, b2_260, hc305]
          · simp [e1_260, e2_260, e5_260, e6_260, g2e_260, b2_260, hc305]
            refine hk303 _ _ ⟨g2_260, ?_, ?_, ?_, ?_, ?_, ?_, ?_, ?_⟩ <;> first | rfl | simp [e1_260, e2_260, e5_260, e6_260, g2e_260, b2_260, hc305]
        · rintro fr304 h304 ⟨g2_304, rfl, e1_304, e2_304, e5_304, e6_304, e22_304, g2e_304, b2_304⟩
          refine AWp.condK rfl fun A308 B309 ga310 gb311 => ?_
          rcases ite_some hb270 with ⟨hc312, hm313⟩ | ⟨hc312, hm314⟩
          · clear hb270
            simp [e1_304, e2_304, e5_304, e6_304, e22_304, g2e_304, b2_304, hc312]
            refine ga310 _ _ ?_
            refine AWp.skip ?_
            try simp only [thenQ_normal]
            refine hk298 _ _ ?_
            refine AWp.seqK fun K326 hk327 => ?_
            refine AWp.blockK fun Q328 nn329 ne330 nx331 nr332 => ?_
            refine AWp.region [] (by decide +kernel) ?_
            obtain ⟨x333, hx334, hm335⟩ := bind1_some hm313
            clear hm313
            try dsimp only at hm335
            obtain ⟨x336, hx337, hm338⟩ := bind1_some hm335
            clear hm335
            try dsimp only at hm338
            simp [e1_304, e2_304, e5_304, e6_304, e22_304, g2e_304, b2_304, hx334, hc312]
            refine CallAt.fn (ih hx337) ?_
            simp [e1_304, e2_304, e5_304, e6_304, e22_304, g2e_304, b2_304, hx334, hc312]
            refine nn329 _ _ ?_
            try simp only [thenQ_normal]
            refine hk327 _ _ ?_
            refine AWp.region [] (by decide +kernel) ?_
            simp [e1_304, e2_304, e5_304, e6_304, e22_304, g2e_304, b2_304, hx334, hc312]
            obtain rfl := Option.some.inj hm338
            rw [ctlK_next] at hk269
            refine hK277 _ _ n271 (Nat.lt_succ_self _) ⟨(iadd .i64 v261 x336), (iadd .i64 v262 1), g2_304, ?_, ?_, ?_, ?_, ?_, ?_, ?_, hk269⟩ <;> first | rfl | simp [e1_304, e2_304, e5_304, e6_304, e22_304, g2e_304, b2_304, hx334, hc312]
          · clear hb270
            simp [e1_304, e2_304, e5_304, e6_304, e22_304, g2e_304, b2_304, hc312]
            refine gb311 _ _ ?_
            refine AWp.exit ?_
            try simp only [thenQ_exit]
            refine ne274 _ _ ?_
            try simp only [thenQ_normal]
            obtain rfl := Option.some.inj hm314
            rw [ctlK_brk] at hk269
            obtain rfl := Option.some.inj hk269
            rw [sumK_inl, un2_mk] at hmB267
            try dsimp only at hmB267
            refine hk137 _ _ ?_
            refine AWp.seqK fun K339 hk340 => ?_
            refine AWp.region [] (by decide +kernel) ?_
            simp [e1_304, e2_304, e5_304, e6_304, e22_304, g2e_304, b2_304, hc312]
            refine hk340 _ _ ?_
            refine AWp.ret ?_
            try simp only [thenQ_ret]
            obtain rfl := Option.some.inj hmB267
            simp [retQ, e1_304, e2_304, e5_304, e6_304, e22_304, g2e_304, b2_304, hc312]
theorem r_mk_CountTerm (T : Tabs) {H : Heap} {a0 : Tm} {a1 : Int} {r0 : Int} {n : Nat} (hm : mk_CountTerm n a0 a1 = some r0) : ACall Tryd.prog T 76 [Tm.av a0, AV.sc (.int .i64 a1)] H (AV.sc (.int .i64 r0)) H := (rg_mk_CountTerm T n) hm

theorem enters37 : entersB Tryd.prog 37 = true := by kernel_rfl
set_option maxRecDepth 20000 in
set_option maxHeartbeats 4000000 in
theorem rg_mk_CountFormula (T : Tabs) : ∀ (n : Nat), (∀ {H : Heap} {a0 : Fm} {a1 : Int} {r0 : Int} (hm : mk_CountFormula n a0 a1 = some r0), ACall Tryd.prog T 37 [Fm.av a0, AV.sc (.int .i64 a1)] H (AV.sc (.int .i64 r0)) H) := by
  intro n
  induction n with
  | zero =>
    skip
    all_goals
      intros
      rename_i hm
      cases hm
  | succ n ih =>
    intro H a0 a1 r0 hm
    rw [mk_CountFormula] at hm
    refine ACallP.intro (fn := Tryd.f37) Tryd.func37 rfl enters37 (Nat.le_of_ble_eq_true rfl) ?_
    refine AWp.seqK fun K1 hk2 => ?_
    refine AWp.region [] (by decide +kernel) ?_
    simp
    refine hk2 _ _ ?_
    refine AWp.seqK fun K6 hk7 => ?_
    refine AWp.region [] (by decide +kernel) ?_
    obtain ⟨x8, hx9, hm10⟩ := bind1_some hm
    clear hm
    try dsimp only at hm10
    simp
    refine CallAt.fn (r_mk_CountType T hx9) ?_
    simp
    refine hk7 _ _ ?_
    refine AWp.seqK fun K136 hk137 => ?_
    refine AWp.seqK fun K138 hk139 => ?_
    refine AWp.region [] (by decide +kernel) ?_
    simp
    refine hk139 _ _ ?_
    obtain ⟨F263, hF264, hm670⟩ := joinB_some hm10
    clear hm10
    try dsimp only at hm670
    obtain ⟨out265, hl266, hmB267⟩ := bind1_some hm670
    clear hm670
    refine AWp.blockK fun Q272 nn273 ne274 nx275 nr276 => ?_
    refine AWp.loopF (fun n271 fr h => ∃ (v261 : Int) (v262 : Int) (g2_260 : Nat), H = h ∧ fr.env 1 = AV.sc (.int .i64 a1) ∧ fr.env 2 = AV.lptr 2 g2_260 0 ∧ fr.env 5 = AV.sc (.int .i64 v261) ∧ fr.env 6 = AV.sc (.int .i64 v262) ∧ fr.gen 2 = g2_260 ∧ fr.box 2 = some [AV.sc (.int .i64 a0.kind), AV.sc (.int .i64 a0.typeF.kind), AV.slice .frz (List.map Ty.av a0.typeF.args), AV.slice .frz (List.map Tm.av a0.terms), AV.slice .frz (List.map Fm.av a0.args)] ∧ loopN F263 n271 (v261, v262) = some out265) FU ?_ ?_
    · refine ⟨(iadd .i64 1 x8), 0, 1, ?_, ?_, ?_, ?_, ?_, ?_, ?_, hl266⟩ <;> first | rfl | simp
    · rintro n271 fr260 h260 ⟨v261, v262, g2_260, rfl, e1_260, e2_260, e5_260, e6_260, g2e_260, b2_260, hl266⟩ K278 hK277
      rcases n271 with _ | n271
      · rw [loopN_zero] at hl266
        cases hl266
      · rw [loopN_succ] at hl266
        obtain ⟨c268, hb270, hk269⟩ := bind1_some hl266
        clear hl266
        rw [hF264] at hb270
        try dsimp only at hb270
        rw [un2_mk] at hb270
        try dsimp only at hb270
        refine AWp.seqK fun K297 hk298 => ?_
        refine AWp.seqP (fun fr h => ∃ (g2_304 : Nat), H = h ∧ fr.env 1 = AV.sc (.int .i64 a1) ∧ fr.env 2 = AV.lptr 2 g2_304 0 ∧ fr.env 5 = AV.sc (.int .i64 v261) ∧ fr.env 6 = AV.sc (.int .i64 v262) ∧ fr.env 23 = AV.sc (.bool (sel (ilt v262 (llen a0.terms)) (ile v261 a1) false)) ∧ fr.gen 2 = g2_304 ∧ fr.box 2 = some [AV.sc (.int .i64 a0.kind), AV.sc (.int .i64 a0.typeF.kind), AV.slice .frz (List.map Ty.av a0.typeF.args), AV.slice .frz (List.map Tm.av a0.terms), AV.slice .frz (List.map Fm.av a0.args)]) (fun K302 hk303 => ?_) ?_
        · refine AWp.region [] (by decide +kernel) ?_
          rcases Bool.eq_false_or_eq_true (ilt v262 (llen a0.terms)) with hc305 | hc305
          · simp [e1_260, e2_260, e5_260, e6_260, g2e_260, b2_260, hc305]
            refine hk303 _ _ ⟨g2_260, ?_, ?_, ?_, ?_, ?_, ?_, ?_, ?_⟩ <;> first | rfl | simp [e1_260, e2_260, e5_260, e6_260, g2e_260, b2_260, hc305]
          · simp [e1_260, e2_260, e5_260, e6_260, g2e_260, b2_260, hc305]
            refine hk303 _ _ ⟨g2_260, ?_, ?_, ?_, ?_, ?_, ?_, ?_, ?_⟩ <;> first | rfl | simp [e1_260, e2_260, e5_260, e6_260, g2e_260, b2_260, hc305]
        · rintro fr304 h304 ⟨g2_304, rfl, e1_304, e2_304, e5_304, e6_304, e23_304, g2e_304, b2_304⟩
          refine AWp.condK rfl fun A308 B309 ga310 gb311 => ?_
          rcases ite_some hb270 with ⟨hc312, hm313⟩ | ⟨hc312, hm314⟩
          · clear hb270
            simp [e1_304, e2_304, e5_304, e6_304, e23_304, g2e_304, b2_304, hc312]
            refine ga310 _ _ ?_
            refine AWp.skip ?_
            try simp only [thenQ_normal]
            refine hk298 _ _ ?_
            refine AWp.seqK fun K326 hk327 => ?_
            refine AWp.blockK fun Q328 nn329 ne330 nx331 nr332 => ?_
            refine AWp.region [] (by decide +kernel) ?_
            obtain ⟨x333, hx334, hm335⟩ := bind1_some hm313
            clear hm313
            try dsimp only at hm335
            obtain ⟨x336, hx337, hm338⟩ := bind1_some hm335
            clear hm335
            try dsimp only at hm338
            simp [e1_304, e2_304, e5_304, e6_304, e23_304, g2e_304, b2_304, hx334, hc312]
            refine CallAt.fn (r_mk_CountTerm T hx337) ?_
            simp [e1_304, e2_304, e5_304, e6_304, e23_304, g2e_304, b2_304, hx334, hc312]
            refine nn329 _ _ ?_
            try simp only [thenQ_normal]
            refine hk327 _ _ ?_
            refine AWp.region [] (by decide +kernel) ?_
            simp [e1_304, e2_304, e5_304, e6_304, e23_304, g2e_304, b2_304, hx334, hc312]
            obtain rfl := Option.some.inj hm338
            rw [ctlK_next] at hk269
            refine hK277 _ _ n271 (Nat.lt_succ_self _) ⟨(iadd .i64 v261 x336), (iadd .i64 v262 1), g2_304, ?_, ?_, ?_, ?_, ?_, ?_, ?_, hk269⟩ <;> first | rfl | simp [e1_304, e2_304, e5_304, e6_304, e23_304, g2e_304, b2_304, hx334, hc312]
          · clear hb270
            simp [e1_304, e2_304, e5_304, e6_304, e23_304, g2e_304, b2_304, hc312]
            refine gb311 _ _ ?_
            refine AWp.exit ?_
            try simp only [thenQ_exit]
            refine ne274 _ _ ?_
            try simp only [thenQ_normal]
            obtain rfl := Option.some.inj hm314
            rw [ctlK_brk] at hk269
            obtain rfl := Option.some.inj hk269
            rw [sumK_inl, un2_mk] at hmB267
            try dsimp only at hmB267
            refine hk137 _ _ ?_
            refine AWp.seqK fun K464 hk465 => ?_
            refine AWp.seqK fun K466 hk467 => ?_
            refine AWp.region [] (by decide +kernel) ?_
            simp [e1_304, e2_304, e5_304, e6_304, e23_304, g2e_304, b2_304, hc312]
            refine hk467 _ _ ?_
            obtain ⟨F591, hF592, hm669⟩ := joinB_some hmB267
            clear hmB267
            try dsimp only at hm669
            obtain ⟨out593, hl594, hmB595⟩ := bind1_some hm669
            clear hm669
            refine AWp.blockK fun Q600 nn601 ne602 nx603 nr604 => ?_
            refine AWp.loopF (fun n599 fr h => ∃ (v589 : Int) (v590 : Int) (g2_588 : Nat), H = h ∧ fr.env 1 = AV.sc (.int .i64 a1) ∧ fr.env 2 = AV.lptr 2 g2_588 0 ∧ fr.env 5 = AV.sc (.int .i64 v589) ∧ fr.env 7 = AV.sc (.int .i64 v590) ∧ fr.gen 2 = g2_588 ∧ fr.box 2 = some [AV.sc (.int .i64 a0.kind), AV.sc (.int .i64 a0.typeF.kind), AV.slice .frz (List.map Ty.av a0.typeF.args), AV.slice .frz (List.map Tm.av a0.terms), AV.slice .frz (List.map Fm.av a0.args)] ∧ loopN F591 n599 (v589, v590) = some out593) FU ?_ ?_
            · refine ⟨v261, 0, g2_304, ?_, ?_, ?_, ?_, ?_, ?_, ?_, hl594⟩ <;> first | rfl | simp [e1_304, e2_304, e5_304, e6_304, e23_304, g2e_304, b2_304, hc312]
            · rintro n599 fr588 h588 ⟨v589, v590, g2_588, rfl, e1_588, e2_588, e5_588, e7_588, g2e_588, b2_588, hl594⟩ K606 hK605
              rcases n599 with _ | n599
              · rw [loopN_zero] at hl594
                cases hl594
              · rw [loopN_succ] at hl594
                obtain ⟨c596, hb598, hk597⟩ := bind1_some hl594
                clear hl594
                rw [hF592] at hb598
                try dsimp only at hb598
                rw [un2_mk] at hb598
                try dsimp only at hb598
                refine AWp.seqK fun K625 hk626 => ?_
                refine AWp.seqP (fun fr h => ∃ (g2_632 : Nat), H = h ∧ fr.env 1 = AV.sc (.int .i64 a1) ∧ fr.env 2 = AV.lptr 2 g2_632 0 ∧ fr.env 5 = AV.sc (.int .i64 v589) ∧ fr.env 7 = AV.sc (.int .i64 v590) ∧ fr.env 46 = AV.sc (.bool (sel (ilt v590 (llen a0.args)) (ile v589 a1) false)) ∧ fr.gen 2 = g2_632 ∧ fr.box 2 = some [AV.sc (.int .i64 a0.kind), AV.sc (.int .i64 a0.typeF.kind), AV.slice .frz (List.map Ty.av a0.typeF.args), AV.slice .frz (List.map Tm.av a0.terms), AV.slice .frz (List.map Fm.av a0.args)]) (fun K630 hk631 => ?_) ?_
                · refine AWp.region [] (by decide +kernel) ?_
                  rcases Bool.eq_false_or_eq_true (ilt v590 (llen a0.args)) with hc633 | hc633
                  · simp [e1_588, e2_588, e5_588, e7_588, g2e_588, b2_588, hc312, hc633]
                    refine hk631 _ _ ⟨g2_588, ?_, ?_, ?_, ?_, ?_, ?_, ?_, ?_⟩ <;> first | rfl | simp [e1_588, e2_588, e5_588, e7_588, g2e_588, b2_588, hc312, hc633]
                  · simp [e1_588, e2_588, e5_588, e7_588, g2e_588, b2_588, hc312, hc633]
                    refine hk631 _ _ ⟨g2_588, ?_, ?_, ?_, ?_, ?_, ?_, ?_, ?_⟩ <;> first | rfl | simp [e1_588, e2_588, e5_588, e7_588, g2e_588, b2_588, hc312, hc633]
                · rintro fr632 h632 ⟨g2_632, rfl, e1_632, e2_632, e5_632, e7_632, e46_632, g2e_632, b2_632⟩
                  refine AWp.condK rfl fun A636 B637 ga638 gb639 => ?_
                  rcases ite_some hb598 with ⟨hc640, hm641⟩ | ⟨hc640, hm642⟩
                  · clear hb598
                    simp [e1_632, e2_632, e5_632, e7_632, e46_632, g2e_632, b2_632, hc312, hc640]
                    refine ga638 _ _ ?_
                    refine AWp.skip ?_
                    try simp only [thenQ_normal]
                    refine hk626 _ _ ?_
                    refine AWp.seqK fun K654 hk655 => ?_
                    refine AWp.blockK fun Q656 nn657 ne658 nx659 nr660 => ?_
                    refine AWp.region [] (by decide +kernel) ?_
                    obtain ⟨x661, hx662, hm663⟩ := bind1_some hm641
                    clear hm641
                    try dsimp only at hm663
                    obtain ⟨x664, hx665, hm666⟩ := bind1_some hm663
                    clear hm663
                    try dsimp only at hm666
                    simp [e1_632, e2_632, e5_632, e7_632, e46_632, g2e_632, b2_632, hx662, hc312, hc640]
                    refine CallAt.fn (ih hx665) ?_
                    simp [e1_632, e2_632, e5_632, e7_632, e46_632, g2e_632, b2_632, hx662, hc312, hc640]
                    refine nn657 _ _ ?_
                    try simp only [thenQ_normal]
                    refine hk655 _ _ ?_
                    refine AWp.region [] (by decide +kernel) ?_
                    simp [e1_632, e2_632, e5_632, e7_632, e46_632, g2e_632, b2_632, hx662, hc312, hc640]
                    obtain rfl := Option.some.inj hm666
                    rw [ctlK_next] at hk597
                    refine hK605 _ _ n599 (Nat.lt_succ_self _) ⟨(iadd .i64 v589 x664), (iadd .i64 v590 1), g2_632, ?_, ?_, ?_, ?_, ?_, ?_, ?_, hk597⟩ <;> first | rfl | simp [e1_632, e2_632, e5_632, e7_632, e46_632, g2e_632, b2_632, hx662, hc312, hc640]
                  · clear hb598
                    simp [e1_632, e2_632, e5_632, e7_632, e46_632, g2e_632, b2_632, hc312, hc640]
                    refine gb639 _ _ ?_
                    refine AWp.exit ?_
                    try simp only [thenQ_exit]
                    refine ne602 _ _ ?_
                    try simp only [thenQ_normal]
                    obtain rfl := Option.some.inj hm642
                    rw [ctlK_brk] at hk597
                    obtain rfl := Option.some.inj hk597
                    rw [sumK_inl, un2_mk] at hmB595
                    try dsimp only at hmB595
                    refine hk465 _ _ ?_
                    refine AWp.seqK fun K667 hk668 => ?_
                    refine AWp.region [] (by decide +kernel) ?_
                    simp [e1_632, e2_632, e5_632, e7_632, e46_632, g2e_632, b2_632, hc312, hc640]
                    refine hk668 _ _ ?_
                    refine AWp.ret ?_
                    try simp only [thenQ_ret]
                    obtain rfl := Option.some.inj hmB595
                    simp [retQ, e1_632, e2_632, e5_632, e7_632, e46_632, g2e_632, b2_632, hc312, hc640]
theorem r_mk_CountFormula (T : Tabs) {H : Heap} {a0 : Fm} {a1 : Int} {r0 : Int} {n : Nat} (hm : mk_CountFormula n a0 a1 = some r0) : ACall Tryd.prog T 37 [Fm.av a0, AV.sc (.int .i64 a1)] H (AV.sc (.int .i64 r0)) H := (rg_mk_CountFormula T n) hm

theorem enters10 : entersB Tryd.prog 10 = true := by kernel_rfl
set_option maxRecDepth 20000 in
set_option maxHeartbeats 4000000 in
theorem r_play_Sum_Formula (T : Tabs) {H : Heap} {a0 : Splay_Sum} {a1 : (List Fm)} {r0 : Splay_Sum} (hm : play_Sum_Formula a0 a1 = some r0) : ACall Tryd.prog T 10 [Splay_Sum.av a0, AV.slice .frz (List.map Fm.av a1)] H (Splay_Sum.av r0) H := by
  rw [play_Sum_Formula] at hm
  refine ACallP.intro (fn := Tryd.f10) Tryd.func10 rfl enters10 (Nat.le_of_ble_eq_true rfl) ?_
  refine AWp.seqK fun K1 hk2 => ?_
  refine AWp.region [] (by decide +kernel) ?_
  simp
  refine hk2 _ _ ?_
  refine AWp.seqK fun K172 hk173 => ?_
  refine AWp.seqK fun K174 hk175 => ?_
  refine AWp.region [] (by decide +kernel) ?_
  simp
  refine hk175 _ _ ?_
  obtain ⟨F343, hF344, hm443⟩ := joinB_some hm
  clear hm
  try dsimp only at hm443
  obtain ⟨out345, hl346, hmB347⟩ := bind1_some hm443
  clear hm443
  refine AWp.blockK fun Q352 nn353 ne354 nx355 nr356 => ?_
  refine AWp.loopF (fun n351 fr h => ∃ (v341 : Int) (v342 : Int) (g2_340 : Nat) (g4_340 : Nat), H = h ∧ fr.env 1 = AV.slice .frz (List.map Fm.av a1) ∧ fr.env 2 = AV.lptr 2 g2_340 0 ∧ fr.env 4 = AV.lptr 4 g4_340 0 ∧ fr.env 5 = AV.sc (.int .i64 v341) ∧ fr.gen 2 = g2_340 ∧ fr.box 2 = some [AV.sc (.int .i64 v342)] ∧ fr.gen 4 = g4_340 ∧ fr.box 4 = some [AV.sc (.int .i64 0)] ∧ loopN F343 n351 (v341, v342) = some out345) FU ?_ ?_
  · refine ⟨0, a0.n, 1, 1, ?_, ?_, ?_, ?_, ?_, ?_, ?_, ?_, ?_, hl346⟩ <;> first | rfl | simp
  · rintro n351 fr340 h340 ⟨v341, v342, g2_340, g4_340, rfl, e1_340, e2_340, e4_340, e5_340, g2e_340, b2_340, g4e_340, b4_340, hl346⟩ K358 hK357
    rcases n351 with _ | n351
    · rw [loopN_zero] at hl346
      cases hl346
    · rw [loopN_succ] at hl346
      obtain ⟨c348, hb350, hk349⟩ := bind1_some hl346
      clear hl346
      rw [hF344] at hb350
      try dsimp only at hb350
      rw [un2_mk] at hb350
      try dsimp only at hb350
      refine AWp.seqK fun K388 hk389 => ?_
      obtain ⟨j400, hj401, hm402⟩ := joinB_some hb350
      clear hb350
      refine AWp.seqP (fun fr h => ∃ (v399 : Bool) (g2_398 : Nat) (g4_398 : Nat), H = h ∧ fr.env 1 = AV.slice .frz (List.map Fm.av a1) ∧ fr.env 2 = AV.lptr 2 g2_398 0 ∧ fr.env 4 = AV.lptr 4 g4_398 0 ∧ fr.env 5 = AV.sc (.int .i64 v341) ∧ fr.env 13 = AV.sc (.bool v399) ∧ fr.gen 2 = g2_398 ∧ fr.box 2 = some [AV.sc (.int .i64 v342)] ∧ fr.gen 4 = g4_398 ∧ fr.box 4 = some [AV.sc (.int .i64 0)] ∧ j400 v399 = some c348) (fun K396 hk397 => ?_) ?_
      · refine AWp.region [] (by decide +kernel) ?_
        rcases ite_some hm402 with ⟨hc404, hm405⟩ | ⟨hc404, hm406⟩
        · clear hm402
          obtain ⟨x407, hx408, hm409⟩ := bind1_some hm405
          clear hm405
          try dsimp only at hm409
          simp [e1_340, e2_340, e4_340, e5_340, g2e_340, b2_340, g4e_340, b4_340, hc404]
          refine CallAt.fn (r_play_Sum_Few T hx408) ?_
          simp [e1_340, e2_340, e4_340, e5_340, g2e_340, b2_340, g4e_340, b4_340, hc404]
          refine hk397 _ _ ⟨x407, g2_340, g4_340, ?_, ?_, ?_, ?_, ?_, ?_, ?_, ?_, ?_, ?_, hm409⟩ <;> first | rfl | simp [e1_340, e2_340, e4_340, e5_340, g2e_340, b2_340, g4e_340, b4_340, hc404]
        · clear hm402
          simp [e1_340, e2_340, e4_340, e5_340, g2e_340, b2_340, g4e_340, b4_340, hc404]
          refine hk397 _ _ ⟨false, g2_340, g4_340, ?_, ?_, ?_, ?_, ?_, ?_, ?_, ?_, ?_, ?_, hm406⟩ <;> first | rfl | simp [e1_340, e2_340, e4_340, e5_340, g2e_340, b2_340, g4e_340, b4_340, hc404]
      · clear hm402
        rintro fr398 h398 ⟨v399, g2_398, g4_398, rfl, e1_398, e2_398, e4_398, e5_398, e13_398, g2e_398, b2_398, g4e_398, b4_398, hm403⟩
        subst hj401
        refine AWp.condK rfl fun A410 B411 ga412 gb413 => ?_
        rcases ite_some hm403 with ⟨hc414, hm415⟩ | ⟨hc414, hm416⟩
        · clear hm403
          simp [e1_398, e2_398, e4_398, e5_398, e13_398, g2e_398, b2_398, g4e_398, b4_398, hc414]
          refine ga412 _ _ ?_
          refine AWp.skip ?_
          try simp only [thenQ_normal]
          refine hk389 _ _ ?_
          refine AWp.seqK fun K428 hk429 => ?_
          refine AWp.blockK fun Q430 nn431 ne432 nx433 nr434 => ?_
          refine AWp.regionD [] false mixed (by decide +kernel) (by decide +kernel) ?_
          obtain ⟨x435, hx436, hm437⟩ := bind1_some hm415
          clear hm415
          try dsimp only at hm437
          obtain ⟨x438, hx439, hm440⟩ := bind1_some hm437
          clear hm437
          try dsimp only at hm440
          simp [e1_398, e2_398, e4_398, e5_398, e13_398, g2e_398, b2_398, g4e_398, b4_398, hx436, hc414]
          refine CallAtD.fn (r_mk_CountFormula T hx439) (by simp) ?_
          simp [e1_398, e2_398, e4_398, e5_398, e13_398, g2e_398, b2_398, g4e_398, b4_398, hx436, hc414]
          refine nn431 _ _ ?_
          try simp only [thenQ_normal]
          refine hk429 _ _ ?_
          refine AWp.region [] (by decide +kernel) ?_
          simp [e1_398, e2_398, e4_398, e5_398, e13_398, g2e_398, b2_398, g4e_398, b4_398, hx436, hc414]
          obtain rfl := Option.some.inj hm440
          rw [ctlK_next] at hk349
          refine hK357 _ _ n351 (Nat.lt_succ_self _) ⟨(iadd .i64 v341 1), (iadd .i64 v342 x438), g2_398, g4_398, ?_, ?_, ?_, ?_, ?_, ?_, ?_, ?_, ?_, hk349⟩ <;> first | rfl | simp [e1_398, e2_398, e4_398, e5_398, e13_398, g2e_398, b2_398, g4e_398, b4_398, hx436, hc414]
        · clear hm403
          simp [e1_398, e2_398, e4_398, e5_398, e13_398, g2e_398, b2_398, g4e_398, b4_398, hc414]
          refine gb413 _ _ ?_
          refine AWp.exit ?_
          try simp only [thenQ_exit]
          refine ne354 _ _ ?_
          try simp only [thenQ_normal]
          obtain rfl := Option.some.inj hm416
          rw [ctlK_brk] at hk349
          obtain rfl := Option.some.inj hk349
          rw [sumK_inl, un2_mk] at hmB347
          try dsimp only at hmB347
          refine hk173 _ _ ?_
          refine AWp.seqK fun K441 hk442 => ?_
          refine AWp.region [] (by decide +kernel) ?_
          simp [e1_398, e2_398, e4_398, e5_398, e13_398, g2e_398, b2_398, g4e_398, b4_398, hc414]
          refine hk442 _ _ ?_
          refine AWp.ret ?_
          try simp only [thenQ_ret]
          obtain rfl := Option.some.inj hmB347
          simp [retQ, e1_398, e2_398, e4_398, e5_398, e13_398, g2e_398, b2_398, g4e_398, b4_398, hc414]

theorem enters38 : entersB Tryd.prog 38 = true := by kernel_rfl
set_option maxRecDepth 20000 in
set_option maxHeartbeats 4000000 in
theorem r_play_Sum_Type (T : Tabs) {H : Heap} {a0 : Splay_Sum} {a1 : (List Ty)} {r0 : Splay_Sum} (hm : play_Sum_Type a0 a1 = some r0) : ACall Tryd.prog T 38 [Splay_Sum.av a0, AV.slice .frz (List.map Ty.av a1)] H (Splay_Sum.av r0) H := by
  rw [play_Sum_Type] at hm
  refine ACallP.intro (fn := Tryd.f38) Tryd.func38 rfl enters38 (Nat.le_of_ble_eq_true rfl) ?_
  refine AWp.seqK fun K1 hk2 => ?_
  refine AWp.region [] (by decide +kernel) ?_
  simp
  refine hk2 _ _ ?_
  refine AWp.seqK fun K172 hk173 => ?_
  refine AWp.seqK fun K174 hk175 => ?_
  refine AWp.region [] (by decide +kernel) ?_
  simp
  refine hk175 _ _ ?_
  obtain ⟨F343, hF344, hm443⟩ := joinB_some hm
  clear hm
  try dsimp only at hm443
  obtain ⟨out345, hl346, hmB347⟩ := bind1_some hm443
  clear hm443
  refine AWp.blockK fun Q352 nn353 ne354 nx355 nr356 => ?_
  refine AWp.loopF (fun n351 fr h => ∃ (v341 : Int) (v342 : Int) (g2_340 : Nat) (g4_340 : Nat), H = h ∧ fr.env 1 = AV.slice .frz (List.map Ty.av a1) ∧ fr.env 2 = AV.lptr 2 g2_340 0 ∧ fr.env 4 = AV.lptr 4 g4_340 0 ∧ fr.env 5 = AV.sc (.int .i64 v341) ∧ fr.gen 2 = g2_340 ∧ fr.box 2 = some [AV.sc (.int .i64 v342)] ∧ fr.gen 4 = g4_340 ∧ fr.box 4 = some [AV.sc (.int .i64 0)] ∧ loopN F343 n351 (v341, v342) = some out345) FU ?_ ?_
  · refine ⟨0, a0.n, 1, 1, ?_, ?_, ?_, ?_, ?_, ?_, ?_, ?_, ?_, hl346⟩ <;> first | rfl | simp
  · rintro n351 fr340 h340 ⟨v341, v342, g2_340, g4_340, rfl, e1_340, e2_340, e4_340, e5_340, g2e_340, b2_340, g4e_340, b4_340, hl346⟩ K358 hK357
    rcases n351 with _ | n351
    · rw [loopN_zero] at hl346
      cases hl346
    · rw [loopN_succ] at hl346
      obtain ⟨c348, hb350, hk349⟩ := bind1_some hl346
      clear hl346
      rw [hF344] at hb350
      try dsimp only at hb350
      rw [un2_mk] at hb350
      try dsimp only at hb350
      refine AWp.seqK fun K388 hk389 => ?_
      obtain ⟨j400, hj401, hm402⟩ := joinB_some hb350
      clear hb350
      refine AWp.seqP (fun fr h => ∃ (v399 : Bool) (g2_398 : Nat) (g4_398 : Nat), H = h ∧ fr.env 1 = AV.slice .frz (List.map Ty.av a1) ∧ fr.env 2 = AV.lptr 2 g2_398 0 ∧ fr.env 4 = AV.lptr 4 g4_398 0 ∧ fr.env 5 = AV.sc (.int .i64 v341) ∧ fr.env 13 = AV.sc (.bool v399) ∧ fr.gen 2 = g2_398 ∧ fr.box 2 = some [AV.sc (.int .i64 v342)] ∧ fr.gen 4 = g4_398 ∧ fr.box 4 = some [AV.sc (.int .i64 0)] ∧ j400 v399 = some c348) (fun K396 hk397 => ?_) ?_
      · refine AWp.region [] (by decide +kernel) ?_
        rcases ite_some hm402 with ⟨hc404, hm405⟩ | ⟨hc404, hm406⟩
        · clear hm402
          obtain ⟨x407, hx408, hm409⟩ := bind1_some hm405
          clear hm405
          try dsimp only at hm409
          simp [e1_340, e2_340, e4_340, e5_340, g2e_340, b2_340, g4e_340, b4_340, hc404]
          refine CallAt.fn (r_play_Sum_Few T hx408) ?_
          simp [e1_340, e2_340, e4_340, e5_340, g2e_340, b2_340, g4e_340, b4_340, hc404]
          refine hk397 _ _ ⟨x407, g2_340, g4_340, ?_, ?_, ?_, ?_, ?_, ?_, ?_, ?_, ?_, ?_, hm409⟩ <;> first | rfl | simp [e1_340, e2_340, e4_340, e5_340, g2e_340, b2_340, g4e_340, b4_340, hc404]
        · clear hm402
          simp [e1_340, e2_340, e4_340, e5_340, g2e_340, b2_340, g4e_340, b4_340, hc404]
          refine hk397 _ _ ⟨false, g2_340, g4_340, ?_, ?_, ?_, ?_, ?_, ?_, ?_, ?_, ?_, ?_, hm406⟩ <;> first | rfl | simp [e1_340, e2_340, e4_340, e5_340, g2e_340, b2_340, g4e_340, b4_340, hc404]
      · clear hm402
        rintro fr398 h398 ⟨v399, g2_398, g4_398, rfl, e1_398, e2_398, e4_398, e5_398, e13_398, g2e_398, b2_398, g4e_398, b4_398, hm403⟩
        subst hj401
        refine AWp.condK rfl fun A410 B411 ga412 gb413 => ?_
        rcases ite_some hm403 with ⟨hc414, hm415⟩ | ⟨hc414, hm416⟩
        · clear hm403
          simp [e1_398, e2_398, e4_398, e5_398, e13_398, g2e_398, b2_398, g4e_398, b4_398, hc414]
          refine ga412 _ _ ?_
          refine AWp.skip ?_
          try simp only [thenQ_normal]
          refine hk389 _ _ ?_
          refine AWp.seqK fun K428 hk429 => ?_
          refine AWp.blockK fun Q430 nn431 ne432 nx433 nr434 => ?_
          refine AWp.regionD [] false mixed (by decide +kernel) (by decide +kernel) ?_
          obtain ⟨x435, hx436, hm437⟩ := bind1_some hm415
          clear hm415
          try dsimp only at hm437
          obtain ⟨x438, hx439, hm440⟩ := bind1_some hm437
          clear hm437
          try dsimp only at hm440
          simp [e1_398, e2_398, e4_398, e5_398, e13_398, g2e_398, b2_398, g4e_398, b4_398, hx436, hc414]
          refine CallAtD.fn (r_mk_CountType T hx439) (by simp) ?_
          simp [e1_398, e2_398, e4_398, e5_398, e13_398, g2e_398, b2_398, g4e_398, b4_398, hx436, hc414]
          refine nn431 _ _ ?_
          try simp only [thenQ_normal]
          refine hk429 _ _ ?_
          refine AWp.region [] (by decide +kernel) ?_
          simp [e1_398, e2_398, e4_398, e5_398, e13_398, g2e_398, b2_398, g4e_398, b4_398, hx436, hc414]
          obtain rfl := Option.some.inj hm440
          rw [ctlK_next] at hk349
          refine hK357 _ _ n351 (Nat.lt_succ_self _) ⟨(iadd .i64 v341 1), (iadd .i64 v342 x438), g2_398, g4_398, ?_, ?_, ?_, ?_, ?_, ?_, ?_, ?_, ?_, hk349⟩ <;> first | rfl | simp [e1_398, e2_398, e4_398, e5_398, e13_398, g2e_398, b2_398, g4e_398, b4_398, hx436, hc414]
        · clear hm403
          simp [e1_398, e2_398, e4_398, e5_398, e13_398, g2e_398, b2_398, g4e_398, b4_398, hc414]
          refine gb413 _ _ ?_
          refine AWp.exit ?_
          try simp only [thenQ_exit]
          refine ne354 _ _ ?_
          try simp only [thenQ_normal]
          obtain rfl := Option.some.inj hm416
          rw [ctlK_brk] at hk349
          obtain rfl := Option.some.inj hk349
          rw [sumK_inl, un2_mk] at hmB347
          try dsimp only at hmB347
          refine hk173 _ _ ?_
          refine AWp.seqK fun K441 hk442 => ?_
          refine AWp.region [] (by decide +kernel) ?_
          simp [e1_398, e2_398, e4_398, e5_398, e13_398, g2e_398, b2_398, g4e_398, b4_398, hc414]
          refine hk442 _ _ ?_
          refine AWp.ret ?_
          try simp only [thenQ_ret]
          obtain rfl := Option.some.inj hmB347
          simp [retQ, e1_398, e2_398, e4_398, e5_398, e13_398, g2e_398, b2_398, g4e_398, b4_398, hc414]

theorem enters11 : entersB Tryd.prog 11 = true := by kernel_rfl
set_option maxRecDepth 20000 in
set_option maxHeartbeats 4000000 in
theorem r_play_Sum_Sequent (T : Tabs) {H : Heap} {a0 : Splay_Sum} {a1 : Sq} {r0 : Splay_Sum} (hm : play_Sum_Sequent a0 a1 = some r0) : ACall Tryd.prog T 11 [Splay_Sum.av a0, Sq.av a1] H (Splay_Sum.av r0) H := by
  rw [play_Sum_Sequent] at hm
  refine ACallP.intro (fn := Tryd.f11) Tryd.func11 rfl enters11 (Nat.le_of_ble_eq_true rfl) ?_
  refine AWp.seqK fun K1 hk2 => ?_
  refine AWp.region [] (by decide +kernel) ?_
  simp
  refine hk2 _ _ ?_
  refine AWp.seqK fun K9 hk10 => ?_
  refine AWp.regionD [] false mixed (by decide +kernel) (by decide +kernel) ?_
  obtain ⟨x11, hx12, hm13⟩ := bind1_some hm
  clear hm
  try dsimp only at hm13
  simp
  refine CallAtD.fn (r_play_Sum_Type T hx12) (by simp) ?_
  obtain ⟨x14, hx15, hm16⟩ := bind1_some hm13
  clear hm13
  try dsimp only at hm16
  simp
  refine CallAtD.fn (r_play_Sum_Formula T hx15) (by simp) ?_
  simp
  refine hk10 _ _ ?_
  refine AWp.ret ?_
  try simp only [thenQ_ret]
  obtain rfl := Option.some.inj hm16
  simp [retQ]

theorem enters13 : entersB Tryd.prog 13 = true := by kernel_rfl
theorem r_mk_New (T : Tabs) {a0 : List Int} {r0 : Smk_Deck} (hm : mk_New a0 = some r0) : ACall Tryd.prog T 13 [AV.slice .frz (List.map (fun n => AV.sc (Value.int .i64 n)) a0)] [] (AV.gptr 0 0) (hset [[]] 0 [AV.slice .frz (List.map (fun n => AV.sc (Value.int .i64 n)) r0.l), AV.sc (.int .i64 r0.atF)]) := by
  obtain rfl := Option.some.inj hm
  refine ACallP.intro (fn := Tryd.f13) Tryd.func13 rfl enters13 (Nat.le_of_ble_eq_true rfl) ?_
  refine AWp.seqK fun K1 hk1 => ?_
  refine AWp.region [] (by decide +kernel) ?_
  simp
  refine hk1 _ _ ?_
  refine AWp.seqK fun K1 hk1 => ?_
  refine AWp.region [5] (by decide +kernel) ?_
  simp
  refine hk1 _ _ ?_
  refine AWp.ret ?_
  simp [retQ, hset]

end Go.Proofs.YtdihelfnjememaaDoor
