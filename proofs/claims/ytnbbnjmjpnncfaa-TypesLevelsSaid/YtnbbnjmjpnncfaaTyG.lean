/- A part of the proof of TypesLevelsSaid: contracts of functions of the program, and what they need. -/
import Derived.Test.YtnbbnjmjpnncfaaTyF
namespace Go.Proofs.Ytnbbnjmjpnncfaa
set_option linter.unusedSimpArgs false
set_option linter.unusedVariables false
open Go Go.Abs

theorem Ty.lvl_leaf (k : Int) : (Ty.mk k []).lvl = 0 := by rw [Ty.lvl, Ty.lvls]
theorem Ty.levelR_good {t : Ty} (h : t.shape = true) (hn : t.nodes ≤ 64) : t.levelR = ((t.lvl : Int), 0) := by
  simp [Ty.levelR, Ty.chk, h, show ¬ 64 < t.nodes by omega]
theorem Ty.chk_good {t : Ty} (h : t.shape = true) (hn : t.nodes ≤ 64) : t.chk = ((t.nodes : Int), 0) := by
  simp [Ty.chk, h, show ¬ 64 < t.nodes by omega]
theorem funct_one {x y : Ty} (hx : x.shape = true) (hy : y.shape = true) (hn : x.nodes + y.nodes ≤ 63) : funct [x] y = (Ty.mk 4 [x, y], 0) := by
  have h1 := Ty.chk_good hx (by omega)
  have h2 := Ty.chk_good hy (by omega)
  simp [funct, firstErr, sumChk, h1, h2, Ty.funs, show ¬ (64 : Int) < x.nodes + y.nodes + 1 by omega]
def sane1 : Ty := .mk 4 [.mk 1 [], .mk 1 []]
def sane2 : Ty := .mk 4 [sane1, .mk 1 []]
theorem sane1_levelR : (Ty.mk 4 [.mk 1 [], .mk 1 []]).levelR = (1, 0) := by
  rw [Ty.levelR_good (by rw [Ty.shape_fun, Ty.shape_nat]; rfl) (by simp [Ty.nodes_two, Ty.nodes_none]), Ty.lvl_two]
  simp [Ty.lvl_leaf]
theorem sane2_levelR : (Ty.mk 4 [.mk 4 [.mk 1 [], .mk 1 []], .mk 1 []]).levelR = (2, 0) := by
  rw [Ty.levelR_good (by simp [Ty.shape_fun, Ty.shape_nat]) (by simp [Ty.nodes_two, Ty.nodes_none]), Ty.lvl_two, Ty.lvl_two]
  simp [Ty.lvl_leaf]


theorem enters6 : entersB Try.prog 6 = true := by kernel_rfl
set_option maxRecDepth 20000 in
theorem c6 (T : Tabs) (H : Heap) : ACall Try.prog T 6 [] H (.sc (.bool true)) H := by
  refine ACallP.intro (fn := Try.f6) Try.func6 rfl enters6 (Nat.le_of_ble_eq_true rfl) ?_
  refine AWp.seqK fun K1 hk2 => ?_
  refine AWp.region [] (by decide +kernel) ?_
  simp [sane1_levelR, sane2_levelR]
  refine hk2 _ _ ?_
  refine AWp.seqK fun K3 hk4 => ?_
  refine AWp.region [] (by decide +kernel) ?_
  simp [sane1_levelR, sane2_levelR]
  refine CallAt.fn (c30 _ _) ?_
  simp [sane1_levelR, sane2_levelR]
  refine CallAt.fn (c30 _ _) ?_
  simp [sane1_levelR, sane2_levelR]
  refine CallAt.fn (c29 T _ (.mk 1 []) (.mk 1 []) (by simp [Ty.nodes_two, Ty.nodes_none]) (by simp [Ty.nodes_two, Ty.nodes_none])) ?_
  simp [sane1_levelR, sane2_levelR]
  refine hk4 _ _ ?_
  refine AWp.seqK fun K5 hk6 => ?_
  refine AWp.region [] (by decide +kernel) ?_
  simp [sane1_levelR, sane2_levelR]
  refine CallAt.fn (c11 T _ (.mk 4 [.mk 1 [], .mk 1 []]) (by simp [Ty.nodes_two, Ty.nodes_none])) ?_
  simp [sane1_levelR, sane2_levelR]
  refine hk6 _ _ ?_
  refine AWp.seqK fun K7 hk8 => ?_
  refine AWp.regionD [] false mixed (by decide +kernel) (by decide +kernel) ?_
  simp [sane1_levelR, sane2_levelR]
  refine CallAtD.fn0 (c30 _ _) ?_
  simp [sane1_levelR, sane2_levelR]
  refine CallAtD.fn0 (c29 T _ (.mk 4 [.mk 1 [], .mk 1 []]) (.mk 1 []) (by simp [Ty.nodes_two, Ty.nodes_none]) (by simp [Ty.nodes_two, Ty.nodes_none])) ?_
  simp [sane1_levelR, sane2_levelR]
  refine CallAtD.fn0 (c11 T _ (.mk 4 [.mk 4 [.mk 1 [], .mk 1 []], .mk 1 []]) (by simp [Ty.nodes_two, Ty.nodes_none])) ?_
  simp [sane1_levelR, sane2_levelR]
  refine hk8 _ _ ?_
  refine AWp.seqK fun K9 hk10 => ?_
  refine AWp.region [] (by decide +kernel) ?_
  simp [sane1_levelR, sane2_levelR]
  refine hk10 _ _ ?_
  refine AWp.ret ?_
  try simp only [thenQ_ret]
  simp [retQ, sane1_levelR, sane2_levelR]
theorem wrap_lt {n : Nat} (h : n ≤ 1000000) : IntKind.i64.wrap ((n : Int) + 1) = (n : Int) + 1 := wrap_id (by omega) (by omega)
theorem wrap_add2 {n m : Nat} (h : n + m ≤ 1000000) : IntKind.i64.wrap ((n : Int) + m) = (n : Int) + m := wrap_id (by omega) (by omega)
theorem set_last (H : Heap) (a b : List AV) : (H ++ [a]).set H.length b = H ++ [b] := by simp
theorem get_last (H : Heap) (a : List AV) : (H ++ [a])[H.length]? = some a := by simp
theorem wrap_add3 {n m : Nat} (h : n + m ≤ 1000000) : IntKind.i64.wrap ((n : Int) + m + 1) = (n : Int) + m + 1 := wrap_id (by omega) (by omega)
theorem enters3 : entersB Try.prog 3 = true := by kernel_rfl
set_option maxRecDepth 20000 in
theorem c3x (T : Tabs) (H : Heap) (L : List Int) (X Y : Ty) (k1 k2 : Nat) (hL : (L.length : Int) ≤ 500) (hX : mkType L 2 0 = (X, k1)) (hY : mkType L 2 k1 = (Y, k2)) (gx : X.Good 2) (gy : Y.Good 2) : ACallP Try.prog T 3 [.slice .frz (ints L)] H fun r _ => r = .sc (.bool true) := by
  have nx : X.nodes < 8 := gx.nodes
  have ny : Y.nodes < 8 := gy.nodes
  have hf := funct_one gx.shape gy.shape (by omega)
  have hs : (Ty.mk 4 [X, Y]).shape = true := by rw [Ty.shape_fun, gx.shape, gy.shape]; rfl
  have nf : (Ty.mk 4 [X, Y]).nodes = 1 + X.nodes + Y.nodes := Ty.nodes_two _ _ _
  have lx := Ty.levelR_good gx.shape (by omega)
  have ly := Ty.levelR_good gy.shape (by omega)
  have lf := Ty.levelR_good hs (by omega)
  have cx := Ty.chk_good gx.shape (by omega)
  have cy := Ty.chk_good gy.shape (by omega)
  have cf := Ty.chk_good hs (by omega)
  have vx := X.lvl_nodes
  have w1 := wrap_lt (n := X.lvl) (by omega)
  have w2 := wrap_add2 (n := X.nodes) (m := Y.nodes) (by omega)
  have w3 := wrap_add3 (n := X.nodes) (m := Y.nodes) (by omega)
  have hmax : (if (X.lvl : Int) + 1 < Y.lvl then (Y.lvl : Int) else X.lvl + 1) = ((max (X.lvl + 1) Y.lvl : Nat) : Int) := by split <;> omega
  have hsum : (1 + (X.nodes : Int) + Y.nodes) = X.nodes + Y.nodes + 1 := by omega
  have hc1 := c9 T L (by omega) H.length 2 (by omega) (H ++ [deckC L 0]) 0 (get_last _ _)
  have hc2 := c9 T L (by omega) H.length 2 (by omega) (H ++ [deckC L k1]) k1 (get_last _ _)
  rw [hX, set_last] at hc1
  rw [hY, set_last] at hc2
  refine ACallP.intro (fn := Try.f3) Try.func3 rfl enters3 (Nat.le_of_ble_eq_true rfl) ?_
  refine AWp.seqK fun K1 hk2 => ?_
  refine AWp.region [] (by decide +kernel) ?_
  simp [hL, hf, lx, ly, lf, cx, cy, cf, nf, w1, w2, w3, Ty.lvl_two, hmax, hsum]
  refine hk2 _ _ ?_
  refine AWp.seqK fun K3 hk4 => ?_
  refine AWp.seqK fun K5 hk6 => ?_
  refine AWp.region [] (by decide +kernel) ?_
  simp [hL, hf, lx, ly, lf, cx, cy, cf, nf, w1, w2, w3, Ty.lvl_two, hmax, hsum]
  refine CallAt.fn (c6 _ _) ?_
  simp [hL, hf, lx, ly, lf, cx, cy, cf, nf, w1, w2, w3, Ty.lvl_two, hmax, hsum]
  refine hk6 _ _ ?_
  refine AWp.condK rfl fun A7 B8 ga_9 gb_10 => ?_
  simp [hL, hf, lx, ly, lf, cx, cy, cf, nf, w1, w2, w3, Ty.lvl_two, hmax, hsum]
  refine gb_10 _ _ ?_
  refine AWp.skip ?_
  try simp only [thenQ_normal]
  refine hk4 _ _ ?_
  refine AWp.seqK fun K11 hk12 => ?_
  refine AWp.seqK fun K13 hk14 => ?_
  refine AWp.region [] (by decide +kernel) ?_
  simp [hL, hf, lx, ly, lf, cx, cy, cf, nf, w1, w2, w3, Ty.lvl_two, hmax, hsum]
  refine CallAt.fn (c7 _ _ _) ?_
  simp [hL, hf, lx, ly, lf, cx, cy, cf, nf, w1, w2, w3, Ty.lvl_two, hmax, hsum]
  refine hk14 _ _ ?_
  refine AWp.condK rfl fun A15 B16 ga_17 gb_18 => ?_
  simp [hL, hf, lx, ly, lf, cx, cy, cf, nf, w1, w2, w3, Ty.lvl_two, hmax, hsum]
  refine gb_18 _ _ ?_
  refine AWp.skip ?_
  try simp only [thenQ_normal]
  refine hk12 _ _ ?_
  refine AWp.seqK fun K19 hk20 => ?_
  refine AWp.region [] (by decide +kernel) ?_
  simp [hL, hf, lx, ly, lf, cx, cy, cf, nf, w1, w2, w3, Ty.lvl_two, hmax, hsum]
  refine CallAt.fn (c8 T H (ints L)) ?_
  simp [hL, hf, lx, ly, lf, cx, cy, cf, nf, w1, w2, w3, Ty.lvl_two, hmax, hsum]
  refine hk20 _ _ ?_
  refine AWp.seqK fun K21 hk22 => ?_
  refine AWp.region [] (by decide +kernel) ?_
  simp [hL, hf, lx, ly, lf, cx, cy, cf, nf, w1, w2, w3, Ty.lvl_two, hmax, hsum]
  refine CallAt.fn (hc1) ?_
  simp [hL, hf, lx, ly, lf, cx, cy, cf, nf, w1, w2, w3, Ty.lvl_two, hmax, hsum]
  refine CallAt.fn (hc2) ?_
  simp [hL, hf, lx, ly, lf, cx, cy, cf, nf, w1, w2, w3, Ty.lvl_two, hmax, hsum]
  refine hk22 _ _ ?_
  refine AWp.seqK fun K23 hk24 => ?_
  refine AWp.region [] (by decide +kernel) ?_
  simp [hL, hf, lx, ly, lf, cx, cy, cf, nf, w1, w2, w3, Ty.lvl_two, hmax, hsum]
  refine CallAt.fn (c10 T _ [X] Y (by simp [Ty.nodesL]; omega)) ?_
  simp [hL, hf, lx, ly, lf, cx, cy, cf, nf, w1, w2, w3, Ty.lvl_two, hmax, hsum]
  refine hk24 _ _ ?_
  refine AWp.seqK fun K25 hk26 => ?_
  refine AWp.region [] (by decide +kernel) ?_
  simp [hL, hf, lx, ly, lf, cx, cy, cf, nf, w1, w2, w3, Ty.lvl_two, hmax, hsum]
  refine CallAt.fn (c11 T _ X (by omega)) ?_
  simp [hL, hf, lx, ly, lf, cx, cy, cf, nf, w1, w2, w3, Ty.lvl_two, hmax, hsum]
  refine hk26 _ _ ?_
  refine AWp.seqK fun K27 hk28 => ?_
  refine AWp.region [] (by decide +kernel) ?_
  simp [hL, hf, lx, ly, lf, cx, cy, cf, nf, w1, w2, w3, Ty.lvl_two, hmax, hsum]
  refine CallAt.fn (c11 T _ Y (by omega)) ?_
  simp [hL, hf, lx, ly, lf, cx, cy, cf, nf, w1, w2, w3, Ty.lvl_two, hmax, hsum]
  refine hk28 _ _ ?_
  refine AWp.seqK fun K29 hk30 => ?_
  refine AWp.region [] (by decide +kernel) ?_
  simp [hL, hf, lx, ly, lf, cx, cy, cf, nf, w1, w2, w3, Ty.lvl_two, hmax, hsum]
  refine CallAt.fn (c11 T _ (.mk 4 [X, Y]) (by omega)) ?_
  simp [hL, hf, lx, ly, lf, cx, cy, cf, nf, w1, w2, w3, Ty.lvl_two, hmax, hsum]
  refine hk30 _ _ ?_
  refine AWp.seqK fun K31 hk32 => ?_
  refine AWp.region [] (by decide +kernel) ?_
  simp [hL, hf, lx, ly, lf, cx, cy, cf, nf, w1, w2, w3, Ty.lvl_two, hmax, hsum]
  refine CallAt.fn (c12 T X (by omega) _) ?_
  simp [hL, hf, lx, ly, lf, cx, cy, cf, nf, w1, w2, w3, Ty.lvl_two, hmax, hsum]
  refine hk32 _ _ ?_
  refine AWp.seqK fun K33 hk34 => ?_
  refine AWp.region [] (by decide +kernel) ?_
  simp [hL, hf, lx, ly, lf, cx, cy, cf, nf, w1, w2, w3, Ty.lvl_two, hmax, hsum]
  refine CallAt.fn (c12 T Y (by omega) _) ?_
  simp [hL, hf, lx, ly, lf, cx, cy, cf, nf, w1, w2, w3, Ty.lvl_two, hmax, hsum]
  refine hk34 _ _ ?_
  refine AWp.seqK fun K35 hk36 => ?_
  refine AWp.region [] (by decide +kernel) ?_
  simp [hL, hf, lx, ly, lf, cx, cy, cf, nf, w1, w2, w3, Ty.lvl_two, hmax, hsum]
  refine CallAt.fn (c12 T (.mk 4 [X, Y]) (by omega) _) ?_
  simp [hL, hf, lx, ly, lf, cx, cy, cf, nf, w1, w2, w3, Ty.lvl_two, hmax, hsum]
  refine hk36 _ _ ?_
  refine AWp.seqK fun K37 hk38 => ?_
  refine AWp.region [] (by decide +kernel) ?_
  simp [hL, hf, lx, ly, lf, cx, cy, cf, nf, w1, w2, w3, Ty.lvl_two, hmax, hsum]
  refine hk38 _ _ ?_
  refine AWp.ret ?_
  try simp only [thenQ_ret]
  simp [retQ, hL, hf, lx, ly, lf, cx, cy, cf, nf, w1, w2, w3, Ty.lvl_two, hmax, hsum]
set_option maxRecDepth 20000 in
theorem c3y (T : Tabs) (H : Heap) (L : List Int) (hL : ¬ (L.length : Int) ≤ 500) : ACallP Try.prog T 3 [.slice .frz (ints L)] H fun r _ => r = .sc (.bool true) := by
  refine ACallP.intro (fn := Try.f3) Try.func3 rfl enters3 (Nat.le_of_ble_eq_true rfl) ?_
  refine AWp.seqK fun K1 hk2 => ?_
  refine AWp.region [] (by decide +kernel) ?_
  simp [hL]
  refine hk2 _ _ ?_
  refine AWp.seqK fun K3 hk4 => ?_
  refine AWp.seqK fun K5 hk6 => ?_
  refine AWp.region [] (by decide +kernel) ?_
  simp [hL]
  refine CallAt.fn (c6 _ _) ?_
  simp [hL]
  refine hk6 _ _ ?_
  refine AWp.condK rfl fun A7 B8 ga_9 gb_10 => ?_
  simp [hL]
  refine gb_10 _ _ ?_
  refine AWp.skip ?_
  try simp only [thenQ_normal]
  refine hk4 _ _ ?_
  refine AWp.seqK fun K11 hk12 => ?_
  refine AWp.seqK fun K13 hk14 => ?_
  refine AWp.region [] (by decide +kernel) ?_
  simp [hL]
  refine CallAt.fn (c7 _ _ _) ?_
  simp [hL]
  refine hk14 _ _ ?_
  refine AWp.condK rfl fun A15 B16 ga_17 gb_18 => ?_
  simp [hL]
  refine ga_17 _ _ ?_
  refine AWp.seqK fun K19 hk20 => ?_
  refine AWp.region [] (by decide +kernel) ?_
  simp [hL]
  refine hk20 _ _ ?_
  refine AWp.ret ?_
  try simp only [thenQ_ret]
  simp [retQ, hL]
theorem c3 (T : Tabs) (H : Heap) (L : List Int) : ACallP Try.prog T 3 [.slice .frz (ints L)] H fun r _ => r = .sc (.bool true) := by
  by_cases hL : (L.length : Int) ≤ 500
  · exact c3x T H L _ _ _ _ hL rfl rfl (mkType_good _ _ _) (mkType_good _ _ _)
  · exact c3y T H L hL
end Go.Proofs.Ytnbbnjmjpnncfaa
