/- A part of the proof of TypesLevelsSaid: contracts of functions of the program, and what they need. -/
import Derived.Test.YtnbbnjmjpnncfaaAbsQ
import Derived.Test.YtnbbnjmjpnncfaaChecked
namespace Go.Proofs.Ytnbbnjmjpnncfaa
set_option linter.unusedSimpArgs false
set_option linter.unusedVariables false
open Go Go.Abs

inductive Ty where
  | mk (kind : Int) (args : List Ty)

mutual
def Ty.av : Ty → AV
  | .mk k l => .agg [.sc (.int .i64 k), .slice .frz (Ty.avs l)]
def Ty.avs : List Ty → List AV
  | [] => []
  | t :: l => t.av :: Ty.avs l
end
mutual
def Ty.nodes : Ty → Nat
  | .mk _ l => 1 + Ty.nodesL l
def Ty.nodesL : List Ty → Nat
  | [] => 0
  | t :: l => t.nodes + Ty.nodesL l
end
theorem Ty.avs_eq (l : List Ty) : Ty.avs l = l.map Ty.av := by
  induction l with
  | nil => rfl
  | cons t l ih => simp [Ty.avs, ih]
theorem Ty.av_mk (k : Int) (l : List Ty) : (Ty.mk k l).av = .agg [.sc (.int .i64 k), .slice .frz (l.map Ty.av)] := by rw [Ty.av, Ty.avs_eq]
theorem Ty.nodes_mk (k : Int) (l : List Ty) : (Ty.mk k l).nodes = 1 + Ty.nodesL l := by rw [Ty.nodes]
theorem Ty.nodes_pos (t : Ty) : 1 ≤ t.nodes := by cases t with | mk k l => rw [Ty.nodes]; omega
theorem Ty.nodesL_len (l : List Ty) : l.length ≤ Ty.nodesL l := by
  induction l with
  | nil => simp [Ty.nodesL]
  | cons t l ih => have := t.nodes_pos; simp [Ty.nodesL]; omega
theorem Ty.nodesL_mem {l : List Ty} {t : Ty} (h : t ∈ l) : t.nodes ≤ Ty.nodesL l := by
  induction l with
  | nil => cases h
  | cons u l ih =>
    simp [Ty.nodesL]
    rcases List.mem_cons.1 h with rfl | h
    · omega
    · have := ih h; omega

theorem grow_ok {n : Nat} (h : n ≤ 2000000000) : n ≤ growLim := Nat.le_trans h (by decide)
theorem mixed : Try.prog.follows .mixedOrders = true := by kernel_rfl
@[simp] theorem lay3 : layOf Try.prog 3 = some (false, 1) := by kernel_rfl
@[simp] theorem zero3 : zeroA Try.prog 3 = some [.sc (.int .i64 0)] := by kernel_rfl
@[simp] theorem lay4 : layOf Try.prog 4 = some (false, 1) := by kernel_rfl
@[simp] theorem zero4 : zeroA Try.prog 4 = some [.sc (.bool false)] := by kernel_rfl
@[simp] theorem lay22 : layOf Try.prog 22 = some (false, 1) := by kernel_rfl
@[simp] theorem zero22 : zeroA Try.prog 22 = some [.slice .full []] := by kernel_rfl
@[simp] theorem ap22 : apOf Try.prog 22 = some (3, 1) := by kernel_rfl
@[simp] theorem und22 : Try.prog.underlying 22 = some (.slice 3) := by kernel_rfl
@[simp] theorem lay25 : layOf Try.prog 25 = some (false, 1) := by kernel_rfl
@[simp] theorem zero25 : zeroA Try.prog 25 = some [.sc (.pointer none)] := by kernel_rfl
@[simp] theorem lay27 : layOf Try.prog 27 = some (false, 1) := by kernel_rfl
@[simp] theorem zero27 : zeroA Try.prog 27 = some [.slice .full []] := by kernel_rfl
@[simp] theorem ap27 : apOf Try.prog 27 = some (29, 2) := by kernel_rfl
@[simp] theorem und27 : Try.prog.underlying 27 = some (.slice 29) := by kernel_rfl
@[simp] theorem lay29 : layOf Try.prog 29 = some (true, 2) := by kernel_rfl
@[simp] theorem zagg29 : zaggA Try.prog 29 = some [.sc (.int .i64 0), .slice .full []] := by kernel_rfl
@[simp] theorem zero29 : zeroA Try.prog 29 = some [.sc (.int .i64 0), .slice .full []] := by kernel_rfl
@[simp] theorem field29_0 : fieldOf Try.prog 29 0 = some (0, 3) := by kernel_rfl
@[simp] theorem place29_0 : placeA Try.prog 29 0 = some (0, 1) := by kernel_rfl
@[simp] theorem field29_1 : fieldOf Try.prog 29 1 = some (1, 27) := by kernel_rfl
@[simp] theorem place29_1 : placeA Try.prog 29 1 = some (1, 1) := by kernel_rfl
@[simp] theorem lay31 : layOf Try.prog 31 = some (false, 1) := by kernel_rfl
@[simp] theorem zero31 : zeroA Try.prog 31 = some [.sc (.int .i64 0)] := by kernel_rfl
@[simp] theorem lay51 : layOf Try.prog 51 = some (true, 2) := by kernel_rfl
@[simp] theorem zagg51 : zaggA Try.prog 51 = some [.slice .full [], .sc (.int .i64 0)] := by kernel_rfl
@[simp] theorem zero51 : zeroA Try.prog 51 = some [.slice .full [], .sc (.int .i64 0)] := by kernel_rfl
@[simp] theorem field51_0 : fieldOf Try.prog 51 0 = some (0, 22) := by kernel_rfl
@[simp] theorem place51_0 : placeA Try.prog 51 0 = some (0, 1) := by kernel_rfl
@[simp] theorem field51_1 : fieldOf Try.prog 51 1 = some (1, 3) := by kernel_rfl
@[simp] theorem place51_1 : placeA Try.prog 51 1 = some (1, 1) := by kernel_rfl
@[simp] theorem lay59 : layOf Try.prog 59 = some (false, 1) := by kernel_rfl
@[simp] theorem zero59 : zeroA Try.prog 59 = some [.sc (.pointer none)] := by kernel_rfl

def Ty.kind : Ty → Int | .mk k _ => k
def Ty.args : Ty → List Ty | .mk _ l => l
@[simp] theorem Ty.kind_mk (k : Int) (l : List Ty) : (Ty.mk k l).kind = k := rfl
@[simp] theorem Ty.args_mk (k : Int) (l : List Ty) : (Ty.mk k l).args = l := rfl
@[simp] theorem Ty.mk_eta (t : Ty) : Ty.mk t.kind t.args = t := by cases t; rfl
theorem Ty.eta (t : Ty) : t = .mk t.kind t.args := by cases t; rfl
@[simp] theorem Ty.cells_av (t : Ty) : t.av.cells = [.sc (.int .i64 t.kind), .slice .frz (t.args.map Ty.av)] := by cases t with | mk k l => rw [Ty.av_mk]; rfl
@[simp] theorem Ty.fits_av (t : Ty) : fitsB Try.prog 29 t.av = true := by
  cases t with | mk k l => rw [Ty.av_mk]; simp
@[simp] theorem Ty.nt_av (t : Ty) : notTuple t.av = true := by cases t with | mk k l => rw [Ty.av_mk]; rfl
@[simp] theorem Ty.norm_av (t : Ty) : t.av.norm = t.av := by cases t with | mk k l => rw [Ty.av_mk]; rfl
@[simp] theorem Ty.agg_av (t : Ty) : .agg [.sc (.int .i64 t.kind), .slice .frz (t.args.map Ty.av)] = t.av := by cases t with | mk k l => rw [Ty.av_mk]; rfl
@[simp] theorem Ty.agg_mk (k : Int) (l : List Ty) : .agg [.sc (.int .i64 k), .slice .frz (l.map Ty.av)] = (Ty.mk k l).av := by rw [Ty.av_mk]
@[simp] theorem Ty.agg_mk0 (k : Int) : .agg [.sc (.int .i64 k), .slice .frz []] = (Ty.mk k []).av := by rw [Ty.av_mk]; rfl
@[simp] theorem Ty.agg_mk2 (k : Int) (a b : Ty) : .agg [.sc (.int .i64 k), .slice .frz [a.av, b.av]] = (Ty.mk k [a, b]).av := by rw [Ty.av_mk]; rfl
@[simp] theorem Ty.ncell_eq (t : Ty) : t.av.ncell = t.av := by cases t with | mk k l => rw [Ty.av_mk]; rfl

@[simp] theorem Ty.headOk_map (l : List Ty) : headOk 2 (l.map Ty.av) = true := Go.Abs.headOk_map (fun t => by simp) l
@[simp] theorem Ty.headOk_take (i : Nat) (l : List Ty) : headOk 2 ((l.map Ty.av).take i) = true := by rw [← List.map_take]; exact Ty.headOk_map _

theorem enters30 : entersB Try.prog 30 = true := by kernel_rfl
set_option maxRecDepth 20000 in
theorem c30 (T : Tabs) (H : Heap) : ACall Try.prog T 30 [] H (Ty.mk 1 []).av H := by
  refine ACallP.intro (fn := Try.f30) Try.func30 rfl enters30 (Nat.le_of_ble_eq_true rfl) ?_
  refine AWp.seqK fun K1 hk2 => ?_
  refine AWp.region [] (by decide +kernel) ?_
  simp
  refine hk2 _ _ ?_
  refine AWp.seqK fun K3 hk4 => ?_
  refine AWp.region [] (by decide +kernel) ?_
  simp
  refine hk4 _ _ ?_
  refine AWp.ret ?_
  try simp only [thenQ_ret]
  simp [retQ]
theorem enters32 : entersB Try.prog 32 = true := by kernel_rfl
set_option maxRecDepth 20000 in
theorem c32 (T : Tabs) (H : Heap) : ACall Try.prog T 32 [] H (Ty.mk 2 []).av H := by
  refine ACallP.intro (fn := Try.f32) Try.func32 rfl enters32 (Nat.le_of_ble_eq_true rfl) ?_
  refine AWp.seqK fun K1 hk2 => ?_
  refine AWp.region [] (by decide +kernel) ?_
  simp
  refine hk2 _ _ ?_
  refine AWp.seqK fun K3 hk4 => ?_
  refine AWp.region [] (by decide +kernel) ?_
  simp
  refine hk4 _ _ ?_
  refine AWp.ret ?_
  try simp only [thenQ_ret]
  simp [retQ]
theorem enters33 : entersB Try.prog 33 = true := by kernel_rfl
set_option maxRecDepth 20000 in
theorem c33 (T : Tabs) (H : Heap) : ACall Try.prog T 33 [] H (Ty.mk 5 []).av H := by
  refine ACallP.intro (fn := Try.f33) Try.func33 rfl enters33 (Nat.le_of_ble_eq_true rfl) ?_
  refine AWp.seqK fun K1 hk2 => ?_
  refine AWp.region [] (by decide +kernel) ?_
  simp
  refine hk2 _ _ ?_
  refine AWp.seqK fun K3 hk4 => ?_
  refine AWp.region [] (by decide +kernel) ?_
  simp
  refine hk4 _ _ ?_
  refine AWp.ret ?_
  try simp only [thenQ_ret]
  simp [retQ]
theorem enters7 : entersB Try.prog 7 = true := by kernel_rfl
set_option maxRecDepth 20000 in
theorem c7 (T : Tabs) (H : Heap) (l : List AV) : ACall Try.prog T 7 [.slice .frz l] H (.sc (.bool (decide ((l.length : Int) ≤ 500)))) H := by
  refine ACallP.intro (fn := Try.f7) Try.func7 rfl enters7 (Nat.le_of_ble_eq_true rfl) ?_
  refine AWp.seqK fun K1 hk2 => ?_
  refine AWp.region [] (by decide +kernel) ?_
  simp
  refine hk2 _ _ ?_
  refine AWp.seqK fun K3 hk4 => ?_
  refine AWp.region [] (by decide +kernel) ?_
  simp
  refine hk4 _ _ ?_
  refine AWp.ret ?_
  try simp only [thenQ_ret]
  simp [retQ]
theorem enters8 : entersB Try.prog 8 = true := by kernel_rfl
set_option maxRecDepth 20000 in
theorem c8 (T : Tabs) (H : Heap) (l : List AV) : ACall Try.prog T 8 [.slice .frz l] H (.gptr H.length 0) (H ++ [[.slice .frz l, .sc (.int .i64 0)]]) := by
  refine ACallP.intro (fn := Try.f8) Try.func8 rfl enters8 (Nat.le_of_ble_eq_true rfl) ?_
  refine AWp.seqK fun K1 hk2 => ?_
  refine AWp.region [5] (by decide +kernel) ?_
  simp
  refine hk2 _ _ ?_
  refine AWp.seqK fun K3 hk4 => ?_
  refine AWp.region [5] (by decide +kernel) ?_
  simp
  refine hk4 _ _ ?_
  refine AWp.ret ?_
  try simp only [thenQ_ret]
  simp [retQ]
/-- The remainder as the program makes it. -/
def modG (x n : Int) : Int := (IntKind.i64.wrap (x.tmod n + n)).tmod n
def ints (L : List Int) : List AV := L.map fun x => .sc (.int .i64 x)
@[simp] theorem ints_length (L : List Int) : (ints L).length = L.length := by simp [ints]
theorem ints_get (L : List Int) (i : Nat) (h : i < L.length) : (ints L)[i]? = some (.sc (.int .i64 L[i])) := by simp [ints, h]
@[simp] theorem ints_getE (L : List Int) (i : Nat) (h2 : i < (ints L).length) : (ints L)[i] = .sc (.int .i64 (L[i]'(by simpa using h2))) := by simp [ints]
def deckC (L : List Int) (k : Nat) : List AV := [.slice .frz (ints L), .sc (.int .i64 k)]
@[simp] theorem headOk_ints (L : List Int) : headOk 1 (ints L) = true := Go.Abs.headOk_map (fun t => by simp) L
@[simp] theorem deckC_eq (L : List Int) (k : Nat) : [.slice .frz (ints L), .sc (.int .i64 k)] = deckC L k := rfl
theorem enters46 : entersB Try.prog 46 = true := by kernel_rfl
set_option maxRecDepth 20000 in
theorem c46 (T : Tabs) (H : Heap) (x n : Int) (hn : n ≠ 0) : ACall Try.prog T 46 [.sc (.int .i64 x), .sc (.int .i64 n)] H (.sc (.int .i64 (modG x n))) H := by
  refine ACallP.intro (fn := Try.f46) Try.func46 rfl enters46 (Nat.le_of_ble_eq_true rfl) ?_
  refine AWp.seqK fun K1 hk2 => ?_
  refine AWp.region [] (by decide +kernel) ?_
  simp [hn, modG]
  refine hk2 _ _ ?_
  refine AWp.seqK fun K3 hk4 => ?_
  refine AWp.region [] (by decide +kernel) ?_
  simp [hn, modG]
  refine hk4 _ _ ?_
  refine AWp.ret ?_
  try simp only [thenQ_ret]
  simp [retQ, hn, modG]
theorem enters31 : entersB Try.prog 31 = true := by kernel_rfl
set_option maxRecDepth 20000 in
theorem c31a (T : Tabs) (H : Heap) (L : List Int) (k o : Nat) (ho : H[o]? = some (deckC L k)) (n : Int) (hn : n < 1) : ACall Try.prog T 31 [.gptr o 0, .sc (.int .i64 n)] H (.sc (.int .i64 0)) H := by
  refine ACallP.intro (fn := Try.f31) Try.func31 rfl enters31 (Nat.le_of_ble_eq_true rfl) ?_
  refine AWp.seqK fun K1 hk2 => ?_
  refine AWp.region [] (by decide +kernel) ?_
  simp [hn, ho]
  refine hk2 _ _ ?_
  refine AWp.seqK fun K3 hk4 => ?_
  refine AWp.seqK fun K5 hk6 => ?_
  refine AWp.regionD [] true mixed (by decide +kernel) (by decide +kernel) ?_
  simp [hn, ho]
  refine hk6 _ _ ?_
  refine AWp.condK rfl fun A7 B8 ga_9 gb_10 => ?_
  simp [hn, ho]
  refine ga_9 _ _ ?_
  refine AWp.seqK fun K11 hk12 => ?_
  refine AWp.region [] (by decide +kernel) ?_
  simp [hn, ho]
  refine hk12 _ _ ?_
  refine AWp.ret ?_
  try simp only [thenQ_ret]
  simp [retQ, hn, ho]
set_option maxRecDepth 20000 in
theorem c31b (T : Tabs) (H : Heap) (L : List Int) (k o : Nat) (ho : H[o]? = some (deckC L k)) (n : Int) (hn : ¬ n < 1) (hk : L.length ≤ k) : ACall Try.prog T 31 [.gptr o 0, .sc (.int .i64 n)] H (.sc (.int .i64 0)) H := by
  refine ACallP.intro (fn := Try.f31) Try.func31 rfl enters31 (Nat.le_of_ble_eq_true rfl) ?_
  refine AWp.seqK fun K1 hk2 => ?_
  refine AWp.region [] (by decide +kernel) ?_
  simp [hn, ho, deckC, -deckC_eq, hk]
  refine hk2 _ _ ?_
  refine AWp.seqK fun K3 hk4 => ?_
  refine AWp.seqK fun K5 hk6 => ?_
  refine AWp.regionD [] true mixed (by decide +kernel) (by decide +kernel) ?_
  simp [hn, ho, deckC, -deckC_eq, hk]
  refine hk6 _ _ ?_
  refine AWp.condK rfl fun A7 B8 ga_9 gb_10 => ?_
  simp [hn, ho, deckC, -deckC_eq, hk]
  refine ga_9 _ _ ?_
  refine AWp.seqK fun K11 hk12 => ?_
  refine AWp.region [] (by decide +kernel) ?_
  simp [hn, ho, deckC, -deckC_eq, hk]
  refine hk12 _ _ ?_
  refine AWp.ret ?_
  try simp only [thenQ_ret]
  simp [retQ, hn, ho, deckC, -deckC_eq, hk]
set_option maxRecDepth 20000 in
theorem c31c (T : Tabs) (H : Heap) (L : List Int) (k o : Nat) (ho : H[o]? = some (deckC L k)) (n : Int) (hn : ¬ n < 1) (hk : k < L.length) (hL : L.length ≤ 1000) : ACall Try.prog T 31 [.gptr o 0, .sc (.int .i64 n)] H (.sc (.int .i64 (modG L[k] n))) (H.set o (deckC L (k + 1))) := by
  refine ACallP.intro (fn := Try.f31) Try.func31 rfl enters31 (Nat.le_of_ble_eq_true rfl) ?_
  refine AWp.seqK fun K1 hk2 => ?_
  refine AWp.region [] (by decide +kernel) ?_
  simp [hn, ho, deckC, -deckC_eq, hk, Nat.not_le.2 hk]
  refine hk2 _ _ ?_
  refine AWp.seqK fun K3 hk4 => ?_
  refine AWp.seqK fun K5 hk6 => ?_
  refine AWp.regionD [] true mixed (by decide +kernel) (by decide +kernel) ?_
  simp [hn, ho, deckC, -deckC_eq, hk, Nat.not_le.2 hk]
  refine hk6 _ _ ?_
  refine AWp.condK rfl fun A7 B8 ga_9 gb_10 => ?_
  simp [hn, ho, deckC, -deckC_eq, hk, Nat.not_le.2 hk]
  refine gb_10 _ _ ?_
  refine AWp.skip ?_
  try simp only [thenQ_normal]
  refine hk4 _ _ ?_
  refine AWp.seqK fun K11 hk12 => ?_
  refine AWp.regionD [] true mixed (by decide +kernel) (by decide +kernel) ?_
  simp [hn, ho, deckC, -deckC_eq, hk, Nat.not_le.2 hk]
  refine hk12 _ _ ?_
  refine AWp.seqK fun K13 hk14 => ?_
  refine AWp.region [] (by decide +kernel) ?_
  simp [hn, ho, deckC, -deckC_eq, hk, Nat.not_le.2 hk]
  refine hk14 _ _ ?_
  refine AWp.seqK fun K15 hk16 => ?_
  refine AWp.region [] (by decide +kernel) ?_
  simp [hn, ho, deckC, -deckC_eq, hk, Nat.not_le.2 hk]
  refine CallAt.fn (c46 _ _ _ _ (by omega)) ?_
  simp [hn, ho, deckC, -deckC_eq, hk, Nat.not_le.2 hk]
  refine hk16 _ _ ?_
  refine AWp.ret ?_
  try simp only [thenQ_ret]
  simp [retQ, wrap_succ (show k + 1 < 9223372036854775808 by omega), deckC, -deckC_eq]
/-- The next choice, and where the deck stands then. -/
def next (L : List Int) (k : Nat) (n : Int) : Int × Nat := if n < 1 then (0, k) else if h : k < L.length then (modG L[k] n, k + 1) else (0, k)
theorem set_same {H : Heap} {o : Nat} {x : List AV} (h : H[o]? = some x) : H.set o x = H := by
  apply List.ext_getElem?
  intro i
  rw [List.getElem?_set]
  split
  · subst_vars
    split
    · exact h.symm
    · rename_i hl; rw [List.getElem?_eq_none (by omega)] at h; cases h
  · rfl
theorem c31 (T : Tabs) (H : Heap) (L : List Int) (k o : Nat) (ho : H[o]? = some (deckC L k)) (n : Int) (hL : L.length ≤ 1000) : ACall Try.prog T 31 [.gptr o 0, .sc (.int .i64 n)] H (.sc (.int .i64 (next L k n).1)) (H.set o (deckC L (next L k n).2)) := by
  unfold next
  split
  · rw [set_same ho]; exact c31a T H L k o ho n ‹_›
  · split
    · exact c31c T H L k o ho n ‹_› ‹_› hL
    · rw [set_same ho]; exact c31b T H L k o ho n ‹_› (by omega)
@[simp] theorem set_get {H : Heap} {o : Nat} {x y : List AV} (h : H[o]? = some x) : (H.set o y)[o]? = some y := by
  rw [List.getElem?_set_self]
  exact (List.getElem?_eq_some_iff.1 h).1
theorem enters42 : entersB Try.prog 42 = true := by kernel_rfl
set_option maxRecDepth 20000 in
theorem c42x (T : Tabs) (H : Heap) (k : Int) (l : List Ty) (hn : l.length ≤ 1000000000) (ih : ∀ t ∈ l, ∀ (H : Heap), ACall Try.prog T 42 [t.av] H t.av H) : ACall Try.prog T 42 [(Ty.mk k l).av] H (Ty.mk k l).av H := by
  refine ACallP.intro (fn := Try.f42) Try.func42 rfl enters42 (Nat.le_of_ble_eq_true rfl) ?_
  refine AWp.seqK fun K1 hk2 => ?_
  refine AWp.region [] (by decide +kernel) ?_
  simp [Ty.av_mk, -Ty.agg_mk]
  refine hk2 _ _ ?_
  refine AWp.seqK fun K3 hk4 => ?_
  refine AWp.region [] (by decide +kernel) ?_
  simp [Ty.av_mk, -Ty.agg_mk]
  refine hk4 _ _ ?_
  refine AWp.seqK fun K5 hk6 => ?_
  refine AWp.seqK fun K7 hk8 => ?_
  refine AWp.region [] (by decide +kernel) ?_
  simp [Ty.av_mk, -Ty.agg_mk]
  refine hk8 _ _ ?_
  refine AWp.blockK fun Q9 nn10 ne11 nx12 nr13 => ?_
  refine AWp.loopI (fun fr h => ∃ i tag, H = h ∧ i ≤ l.length ∧ fr.env 9 = .sc (.int .i64 (i : Nat)) ∧ fr.env 8 = .sc (.int .i64 (l.length : Nat)) ∧ fr.env 7 = .slice .frz (l.map Ty.av) ∧ fr.env 3 = .slice tag ((l.map Ty.av).take i) ∧ fr.env 1 = .lptr 1 1 0 ∧ fr.gen 1 = 1 ∧ fr.box 1 = some [.sc (.int .i64 k), .slice .frz (l.map Ty.av)] ∧ fr.env 2 = .lptr 2 1 0 ∧ fr.gen 2 = 1 ∧ fr.box 2 = some [.sc (.int .i64 0), .slice .full []] ∧ canGrowT fr.tab fr.tgen tag ((l.map Ty.av).take i) = true) (fun fr h => match fr.env 9 with | .sc (.int _ n) => l.length - n.toNat | _ => 0) (⟨0, .full, by simp [Nat.zero_le, Ty.av_mk, -Ty.agg_mk]⟩) ?_
  rintro fr h ⟨i, tag, rfl, hi, e9_, e8_, e7_, e3_, e1_, g1_, b1_, e2_, g2_, b2_, hcg⟩
  refine AWp.seqK fun K14 hk15 => ?_
  refine AWp.region [] (by decide +kernel) ?_
  simp [Ty.av_mk, -Ty.agg_mk, e9_, e8_, e7_, e3_, e1_, g1_, b1_, e2_, g2_, b2_, hcg]
  refine hk15 _ _ ?_
  refine AWp.seqK fun K16 hk17 => ?_
  refine AWp.condK rfl fun A18 B19 ga_20 gb_21 => ?_
  simp [Ty.av_mk, -Ty.agg_mk, e9_, e8_, e7_, e3_, e1_, g1_, b1_, e2_, g2_, b2_, hcg]
  first | refine ite_intro (fun cc22 => ga_20 _ _ ?_) (fun cc22 => gb_21 _ _ ?_) | refine ite_introN (fun cc22 => ga_20 _ _ ?_) (fun cc22 => gb_21 _ _ ?_)
  · skip
    have hw := wrap_succ (n := i) (by omega)
    
    refine AWp.skip ?_
    try simp only [thenQ_normal]
    refine hk17 _ _ ?_
    refine AWp.seqK fun K23 hk24 => ?_
    refine AWp.blockK fun Q25 nn26 ne27 nx28 nr29 => ?_
    refine AWp.seqK fun K30 hk31 => ?_
    refine AWp.region [] (by decide +kernel) ?_
    simp [Ty.av_mk, -Ty.agg_mk, e9_, e8_, e7_, e3_, e1_, g1_, b1_, e2_, g2_, b2_, hcg, cc22, hw]
    refine hk31 _ _ ?_
    refine AWp.region [] (by decide +kernel) ?_
    simp [Ty.av_mk, -Ty.agg_mk, e9_, e8_, e7_, e3_, e1_, g1_, b1_, e2_, g2_, b2_, hcg, cc22, hw]
    refine CallAt.fn (ih _ (by simp) _) ?_
    simp [Ty.av_mk, -Ty.agg_mk, e9_, e8_, e7_, e3_, e1_, g1_, b1_, e2_, g2_, b2_, hcg, cc22, hw]
    refine ⟨grow_ok (by omega), ?_⟩
    refine nn26 _ _ ?_
    try simp only [thenQ_normal]
    refine hk24 _ _ ?_
    refine AWp.region [] (by decide +kernel) ?_
    simp [Ty.av_mk, -Ty.agg_mk, e9_, e8_, e7_, e3_, e1_, g1_, b1_, e2_, g2_, b2_, hcg, cc22, hw]
    refine ⟨⟨i + 1, by omega, by simp, _, ⟨rfl, take_succ_map Ty.av l i (by omega)⟩, by simp; omega⟩, by omega⟩
  · skip
    refine AWp.exit ?_
    try simp only [thenQ_exit]
    refine ne11 _ _ ?_
    try simp only [thenQ_normal]
    refine hk6 _ _ ?_
    refine AWp.seqK fun K32 hk33 => ?_
    refine AWp.region [] (by decide +kernel) ?_
    simp [Ty.av_mk, -Ty.agg_mk, e9_, e8_, e7_, e3_, e1_, g1_, b1_, e2_, g2_, b2_, hcg, cc22]
    refine hk33 _ _ ?_
    refine AWp.ret ?_
    try simp only [thenQ_ret]
    simp [retQ, take_all_map Ty.av l i (by omega), Ty.av_mk, -Ty.agg_mk, e9_, e8_, e7_, e3_, e1_, g1_, b1_, e2_, g2_, b2_, hcg, cc22]
theorem c42 (T : Tabs) : ∀ (n : Nat) (t : Ty), t.nodes ≤ n → n ≤ 1000000000 → ∀ H : Heap, ACall Try.prog T 42 [t.av] H t.av H := by
  intro n
  induction n with
  | zero => intro t h; have := t.nodes_pos; omega
  | succ n ih =>
    intro t h hn H
    cases t with
    | mk k l =>
      rw [Ty.nodes_mk] at h
      have := Ty.nodesL_len l
      refine c42x T H k l (by omega) fun u hu H => ih u ?_ (by omega) H
      have := Ty.nodesL_mem hu
      omega
end Go.Proofs.Ytnbbnjmjpnncfaa
