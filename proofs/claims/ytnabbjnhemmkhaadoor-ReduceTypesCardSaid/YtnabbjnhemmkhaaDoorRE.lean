/- How values of the models stand for the program's. -/
import Derived.Test.YtnabbjnhemmkhaaDoorProg
import Derived.Test.YtnabbjnhemmkhaaDoorChecked
import Derived.Test.YtnabbjnhemmkhaaDoorMapR
import Derived.Test.YtnabbjnhemmkhaaDoorDrop
import Derived.Test.YtnabbjnhemmkhaaDoorGr0
import Derived.Test.YtnabbjnhemmkhaaDoorRT
set_option linter.unusedSimpArgs false
set_option linter.unusedVariables false
namespace Go.Proofs.YtnabbjnhemmkhaaDoor
open Go Go.Abs Go.Mdl

theorem mixed : Tryd.prog.follows .mixedOrders = true := by kernel_rfl

end Go.Proofs.YtnabbjnhemmkhaaDoor
namespace Go.Mdl
open Go Go.Abs
mutual
def Ty.av : Ty → AV
  | .mk kind args => .agg [AV.sc (.int .i64 kind), AV.slice .frz (Ty.avs args)]
def Ty.avs : List Ty → List AV
  | [] => []
  | x :: l => x.av :: Ty.avs l
end
theorem Ty.avs_eq (l : List Ty) : Ty.avs l = l.map Ty.av := by
  induction l with
  | nil => rfl
  | cons x l ih => simp [Ty.avs, ih]
theorem Ty.av_mk (kind : Int) (args : (List Ty)) : (Ty.mk kind args).av = .agg [AV.sc (.int .i64 kind), AV.slice .frz (List.map Ty.av args)] := by rw [Ty.av]; simp only [Ty.avs_eq]
mutual
@[simp] theorem Ty.low_av (k : Nat) : ∀ x : Ty, x.av.low k = true
  | .mk kind args => by rw [Ty.av_mk]; simp [AV.low, AV.lowL, Ty.low_avs k args]
@[simp] theorem Ty.low_avs (k : Nat) : ∀ l : List Ty, AV.lowL k (l.map Ty.av) = true
  | [] => rfl
  | x :: l => by simp [AV.lowL, Ty.low_av k x, Ty.low_avs k l]
end
theorem Ty.av_eq (x : Ty) : x.av = .agg [AV.sc (.int .i64 x.kind), AV.slice .frz (List.map Ty.av x.args)] := by cases x; exact Ty.av_mk _ _
@[simp] theorem Ty.cells_av (x : Ty) : x.av.cells = [AV.sc (.int .i64 x.kind), AV.slice .frz (List.map Ty.av x.args)] := by rw [Ty.av_eq]; rfl
@[simp] theorem Ty.nt_av (x : Ty) : notTuple x.av = true := by rw [Ty.av_eq]; rfl
@[simp] theorem Ty.norm_av (x : Ty) : x.av.norm = x.av := by rw [Ty.av_eq]; rfl
@[simp] theorem Ty.ncell_av (x : Ty) : x.av.ncell = x.av := by rw [Ty.av_eq]; rfl
@[simp] theorem Ty.agg0 (c0 : Int) (c1 : (List Ty)) : AV.agg [AV.sc (.int .i64 c0), AV.slice .frz (List.map Ty.av c1)] = Ty.av (Ty.mk c0 c1) := by rw [Ty.av_mk] <;> rfl
@[simp] theorem Ty.agg1 (c0 : Int) : AV.agg [AV.sc (.int .i64 c0), AV.slice .frz []] = Ty.av (Ty.mk c0 []) := by rw [Ty.av_mk] <;> rfl
mutual
def Tm.av : Tm → AV
  | .mk kind index typeF args => .agg [AV.sc (.int .i64 kind), AV.sc (.int .i64 index), AV.sc (.int .i64 typeF.kind), AV.slice .frz (List.map Ty.av typeF.args), AV.slice .frz (Tm.avs args)]
def Tm.avs : List Tm → List AV
  | [] => []
  | x :: l => x.av :: Tm.avs l
end
theorem Tm.avs_eq (l : List Tm) : Tm.avs l = l.map Tm.av := by
  induction l with
  | nil => rfl
  | cons x l ih => simp [Tm.avs, ih]
theorem Tm.av_mk (kind : Int) (index : Int) (typeF : Ty) (args : (List Tm)) : (Tm.mk kind index typeF args).av = .agg [AV.sc (.int .i64 kind), AV.sc (.int .i64 index), AV.sc (.int .i64 typeF.kind), AV.slice .frz (List.map Ty.av typeF.args), AV.slice .frz (List.map Tm.av args)] := by rw [Tm.av]; simp only [Tm.avs_eq]
mutual
@[simp] theorem Tm.low_av (k : Nat) : ∀ x : Tm, x.av.low k = true
  | .mk kind index typeF args => by rw [Tm.av_mk]; simp [AV.low, AV.lowL, Tm.low_avs k args]
@[simp] theorem Tm.low_avs (k : Nat) : ∀ l : List Tm, AV.lowL k (l.map Tm.av) = true
  | [] => rfl
  | x :: l => by simp [AV.lowL, Tm.low_av k x, Tm.low_avs k l]
end
theorem Tm.av_eq (x : Tm) : x.av = .agg [AV.sc (.int .i64 x.kind), AV.sc (.int .i64 x.index), AV.sc (.int .i64 x.typeF.kind), AV.slice .frz (List.map Ty.av x.typeF.args), AV.slice .frz (List.map Tm.av x.args)] := by cases x; exact Tm.av_mk _ _ _ _
@[simp] theorem Tm.cells_av (x : Tm) : x.av.cells = [AV.sc (.int .i64 x.kind), AV.sc (.int .i64 x.index), AV.sc (.int .i64 x.typeF.kind), AV.slice .frz (List.map Ty.av x.typeF.args), AV.slice .frz (List.map Tm.av x.args)] := by rw [Tm.av_eq]; rfl
@[simp] theorem Tm.nt_av (x : Tm) : notTuple x.av = true := by rw [Tm.av_eq]; rfl
@[simp] theorem Tm.norm_av (x : Tm) : x.av.norm = x.av := by rw [Tm.av_eq]; rfl
@[simp] theorem Tm.ncell_av (x : Tm) : x.av.ncell = x.av := by rw [Tm.av_eq]; rfl
@[simp] theorem Tm.agg00 (c0 : Int) (c1 : Int) (c2 : Int) (c3 : (List Ty)) (c4 : (List Tm)) : AV.agg [AV.sc (.int .i64 c0), AV.sc (.int .i64 c1), AV.sc (.int .i64 c2), AV.slice .frz (List.map Ty.av c3), AV.slice .frz (List.map Tm.av c4)] = Tm.av (Tm.mk c0 c1 (Ty.mk c2 c3) c4) := by rw [Tm.av_mk] <;> rfl
@[simp] theorem Tm.agg01 (c0 : Int) (c1 : Int) (c2 : Int) (c3 : (List Ty)) : AV.agg [AV.sc (.int .i64 c0), AV.sc (.int .i64 c1), AV.sc (.int .i64 c2), AV.slice .frz (List.map Ty.av c3), AV.slice .frz []] = Tm.av (Tm.mk c0 c1 (Ty.mk c2 c3) []) := by rw [Tm.av_mk] <;> rfl
@[simp] theorem Tm.agg10 (c0 : Int) (c1 : Int) (c2 : Int) (c4 : (List Tm)) : AV.agg [AV.sc (.int .i64 c0), AV.sc (.int .i64 c1), AV.sc (.int .i64 c2), AV.slice .frz [], AV.slice .frz (List.map Tm.av c4)] = Tm.av (Tm.mk c0 c1 (Ty.mk c2 []) c4) := by rw [Tm.av_mk] <;> rfl
@[simp] theorem Tm.agg11 (c0 : Int) (c1 : Int) (c2 : Int) : AV.agg [AV.sc (.int .i64 c0), AV.sc (.int .i64 c1), AV.sc (.int .i64 c2), AV.slice .frz [], AV.slice .frz []] = Tm.av (Tm.mk c0 c1 (Ty.mk c2 []) []) := by rw [Tm.av_mk] <;> rfl
def Smk_Deck.av (x : Smk_Deck) : AV := .agg [AV.slice .frz (List.map (fun n => AV.sc (Value.int .i64 n)) x.l), AV.sc (.int .i64 x.atF)]
theorem Smk_Deck.av_mk (l : (List Int)) (atF : Int) : (Smk_Deck.mk l atF).av = .agg [AV.slice .frz (List.map (fun n => AV.sc (Value.int .i64 n)) l), AV.sc (.int .i64 atF)] := rfl
@[simp] theorem Smk_Deck.low_av (k : Nat) (x : Smk_Deck) : x.av.low k = true := by
  cases x
  rw [Smk_Deck.av_mk]
  simp [AV.low, AV.lowL]
@[simp] theorem Smk_Deck.low_avs (k : Nat) (l : List Smk_Deck) : AV.lowL k (l.map Smk_Deck.av) = true := by
  rw [AV.lowL_iff]
  intro x hx
  obtain ⟨y, _, rfl⟩ := List.mem_map.1 hx
  exact Smk_Deck.low_av k y
theorem Smk_Deck.av_eq (x : Smk_Deck) : x.av = .agg [AV.slice .frz (List.map (fun n => AV.sc (Value.int .i64 n)) x.l), AV.sc (.int .i64 x.atF)] := by cases x; exact Smk_Deck.av_mk _ _
@[simp] theorem Smk_Deck.cells_av (x : Smk_Deck) : x.av.cells = [AV.slice .frz (List.map (fun n => AV.sc (Value.int .i64 n)) x.l), AV.sc (.int .i64 x.atF)] := by rw [Smk_Deck.av_eq]; rfl
@[simp] theorem Smk_Deck.nt_av (x : Smk_Deck) : notTuple x.av = true := by rw [Smk_Deck.av_eq]; rfl
@[simp] theorem Smk_Deck.norm_av (x : Smk_Deck) : x.av.norm = x.av := by rw [Smk_Deck.av_eq]; rfl
@[simp] theorem Smk_Deck.ncell_av (x : Smk_Deck) : x.av.ncell = x.av := by rw [Smk_Deck.av_eq]; rfl
@[simp] theorem Smk_Deck.agg0 (c0 : (List Int)) (c1 : Int) : AV.agg [AV.slice .frz (List.map (fun n => AV.sc (Value.int .i64 n)) c0), AV.sc (.int .i64 c1)] = Smk_Deck.av (Smk_Deck.mk c0 c1) := by rw [Smk_Deck.av_mk] <;> rfl
@[simp] theorem Smk_Deck.agg1 (c1 : Int) : AV.agg [AV.slice .frz [], AV.sc (.int .i64 c1)] = Smk_Deck.av (Smk_Deck.mk [] c1) := by rw [Smk_Deck.av_mk] <;> rfl
def HC.cells (k : Nat) : HC → List AV
  | .creduce_state x => [pav k x.term, AV.sc (.int .i64 x.steps)]
  | .cgraph_Node x => [AV.sc (.int .i64 x.kind), AV.sc (.int .i64 x.index), AV.sc (.int .i64 x.typ.kind), AV.slice .frz (List.map Ty.av x.typ.args), AV.slice .frz (List.map (pav k) x.args), AV.sc (.int .i64 x.size), AV.sc (.int .i64 x.free), AV.sc (.bool x.normal)]
@[simp] theorem HC.cells_creduce_state (k : Nat) (x : Sreduce_state) : HC.cells k (.creduce_state x) = [pav k x.term, AV.sc (.int .i64 x.steps)] := rfl
@[simp] theorem HC.cells_cgraph_Node (k : Nat) (x : Sgraph_Node) : HC.cells k (.cgraph_Node x) = [AV.sc (.int .i64 x.kind), AV.sc (.int .i64 x.index), AV.sc (.int .i64 x.typ.kind), AV.slice .frz (List.map Ty.av x.typ.args), AV.slice .frz (List.map (pav k) x.args), AV.sc (.int .i64 x.size), AV.sc (.int .i64 x.free), AV.sc (.bool x.normal)] := rfl
abbrev hmap (k : Nat) (l : List HC) : Heap := hmapG HC.cells k l
end Go.Mdl
namespace Go.Proofs.YtnabbjnhemmkhaaDoor
open Go Go.Abs Go.Mdl
@[simp] theorem lay3 : layOf Tryd.prog 3 = some (false, 1) := by kernel_rfl
@[simp] theorem zero3 : zeroA Tryd.prog 3 = some [.sc (.int .i64 0)] := by kernel_rfl
@[simp] theorem und3 : Tryd.prog.underlying 3 = some (.int .i64) := by kernel_rfl
@[simp] theorem lay4 : layOf Tryd.prog 4 = some (false, 1) := by kernel_rfl
@[simp] theorem zero4 : zeroA Tryd.prog 4 = some [.sc (.bool false)] := by kernel_rfl
@[simp] theorem und4 : Tryd.prog.underlying 4 = some .bool := by kernel_rfl
theorem zval4 : zvalA Tryd.prog 4 = some (AV.sc (.bool false)) := by kernel_rfl
@[simp] theorem lay5 : layOf Tryd.prog 5 = some (false, 1) := by kernel_rfl
@[simp] theorem zero5 : zeroA Tryd.prog 5 = some [.sc (.int .u8 0)] := by kernel_rfl
@[simp] theorem und5 : Tryd.prog.underlying 5 = some (.int .u8) := by kernel_rfl
@[simp] theorem lay22 : layOf Tryd.prog 22 = some (false, 1) := by kernel_rfl
@[simp] theorem zero22 : zeroA Tryd.prog 22 = some [.slice .full []] := by kernel_rfl
@[simp] theorem ap22 : apOf Tryd.prog 22 = some (3, 1) := by kernel_rfl
@[simp] theorem und22 : Tryd.prog.underlying 22 = some (.slice 3) := by kernel_rfl
@[simp] theorem lay27 : layOf Tryd.prog 27 = some (false, 1) := by kernel_rfl
@[simp] theorem zero27 : zeroA Tryd.prog 27 = some [.slice .full []] := by kernel_rfl
@[simp] theorem ap27 : apOf Tryd.prog 27 = some (30, 2) := by kernel_rfl
@[simp] theorem und27 : Tryd.prog.underlying 27 = some (.slice 30) := by kernel_rfl
@[simp] theorem lay30 : layOf Tryd.prog 30 = some (true, 2) := by kernel_rfl
@[simp] theorem zagg30 : zaggA Tryd.prog 30 = some [.sc (.int .i64 0), .slice .full []] := by kernel_rfl
@[simp] theorem zero30 : zeroA Tryd.prog 30 = some [.sc (.int .i64 0), .slice .full []] := by kernel_rfl
@[simp] theorem field30_0 : fieldOf Tryd.prog 30 0 = some (0, 3) := by kernel_rfl
@[simp] theorem place30_0 : placeA Tryd.prog 30 0 = some (0, 1) := by kernel_rfl
@[simp] theorem field30_1 : fieldOf Tryd.prog 30 1 = some (1, 27) := by kernel_rfl
@[simp] theorem place30_1 : placeA Tryd.prog 30 1 = some (1, 1) := by kernel_rfl
@[simp] theorem Ty.fits_av30 (x : Ty) : fitsB Tryd.prog 30 x.av = true := by rw [Ty.av_eq, fits_agg, lay30]; rfl
@[simp] theorem lay32 : layOf Tryd.prog 32 = some (false, 1) := by kernel_rfl
@[simp] theorem zero32 : zeroA Tryd.prog 32 = some [.slice .full []] := by kernel_rfl
@[simp] theorem ap32 : apOf Tryd.prog 32 = some (34, 5) := by kernel_rfl
@[simp] theorem und32 : Tryd.prog.underlying 32 = some (.slice 34) := by kernel_rfl
@[simp] theorem lay34 : layOf Tryd.prog 34 = some (true, 5) := by kernel_rfl
@[simp] theorem zagg34 : zaggA Tryd.prog 34 = some [.sc (.int .i64 0), .sc (.int .i64 0), .sc (.int .i64 0), .slice .full [], .slice .full []] := by kernel_rfl
@[simp] theorem zero34 : zeroA Tryd.prog 34 = some [.sc (.int .i64 0), .sc (.int .i64 0), .sc (.int .i64 0), .slice .full [], .slice .full []] := by kernel_rfl
@[simp] theorem field34_0 : fieldOf Tryd.prog 34 0 = some (0, 3) := by kernel_rfl
@[simp] theorem place34_0 : placeA Tryd.prog 34 0 = some (0, 1) := by kernel_rfl
@[simp] theorem field34_1 : fieldOf Tryd.prog 34 1 = some (1, 3) := by kernel_rfl
@[simp] theorem place34_1 : placeA Tryd.prog 34 1 = some (1, 1) := by kernel_rfl
@[simp] theorem field34_2 : fieldOf Tryd.prog 34 2 = some (2, 30) := by kernel_rfl
@[simp] theorem place34_2 : placeA Tryd.prog 34 2 = some (2, 2) := by kernel_rfl
@[simp] theorem field34_3 : fieldOf Tryd.prog 34 3 = some (4, 32) := by kernel_rfl
@[simp] theorem place34_3 : placeA Tryd.prog 34 3 = some (4, 1) := by kernel_rfl
@[simp] theorem Tm.fits_av34 (x : Tm) : fitsB Tryd.prog 34 x.av = true := by rw [Tm.av_eq, fits_agg, lay34]; rfl
@[simp] theorem lay36 : layOf Tryd.prog 36 = some (false, 1) := by kernel_rfl
@[simp] theorem zero36 : zeroA Tryd.prog 36 = some [.sc (.int .i64 0)] := by kernel_rfl
@[simp] theorem und36 : Tryd.prog.underlying 36 = some (.int .i64) := by kernel_rfl
@[simp] theorem lay66 : layOf Tryd.prog 66 = some (true, 2) := by kernel_rfl
@[simp] theorem zagg66 : zaggA Tryd.prog 66 = some [.slice .full [], .sc (.int .i64 0)] := by kernel_rfl
@[simp] theorem zero66 : zeroA Tryd.prog 66 = some [.slice .full [], .sc (.int .i64 0)] := by kernel_rfl
@[simp] theorem field66_0 : fieldOf Tryd.prog 66 0 = some (0, 22) := by kernel_rfl
@[simp] theorem place66_0 : placeA Tryd.prog 66 0 = some (0, 1) := by kernel_rfl
@[simp] theorem field66_1 : fieldOf Tryd.prog 66 1 = some (1, 3) := by kernel_rfl
@[simp] theorem place66_1 : placeA Tryd.prog 66 1 = some (1, 1) := by kernel_rfl
@[simp] theorem Smk_Deck.fits_av66 (x : Smk_Deck) : fitsB Tryd.prog 66 x.av = true := by rw [Smk_Deck.av_eq, fits_agg, lay66]; rfl
@[simp] theorem lay76 : layOf Tryd.prog 76 = some (false, 1) := by kernel_rfl
@[simp] theorem zero76 : zeroA Tryd.prog 76 = some [.sc (.pointer none)] := by kernel_rfl
@[simp] theorem und76 : Tryd.prog.underlying 76 = some (.pointer 105) := by kernel_rfl
@[simp] theorem peq76 (k : Nat) (x : Option Nat) : binA Tryd.prog .eql 76 (pav k x) (.sc (.pointer none)) = some (.sc (.bool x.isNone)) := binA_peq und76
@[simp] theorem pne76 (k : Nat) (x : Option Nat) : binA Tryd.prog .neq 76 (pav k x) (.sc (.pointer none)) = some (.sc (.bool x.isSome)) := binA_pne und76
@[simp] theorem lay79 : layOf Tryd.prog 79 = some (true, 2) := by kernel_rfl
@[simp] theorem zagg79 : zaggA Tryd.prog 79 = some [.sc (.pointer none), .sc (.int .i64 0)] := by kernel_rfl
@[simp] theorem zero79 : zeroA Tryd.prog 79 = some [.sc (.pointer none), .sc (.int .i64 0)] := by kernel_rfl
@[simp] theorem field79_0 : fieldOf Tryd.prog 79 0 = some (0, 76) := by kernel_rfl
@[simp] theorem place79_0 : placeA Tryd.prog 79 0 = some (0, 1) := by kernel_rfl
@[simp] theorem field79_1 : fieldOf Tryd.prog 79 1 = some (1, 3) := by kernel_rfl
@[simp] theorem place79_1 : placeA Tryd.prog 79 1 = some (1, 1) := by kernel_rfl
@[simp] theorem lay82 : layOf Tryd.prog 82 = some (false, 1) := by kernel_rfl
@[simp] theorem zero82 : zeroA Tryd.prog 82 = some [.sc (.map none)] := by kernel_rfl
@[simp] theorem und82 : Tryd.prog.underlying 82 = some (.map 3 4) := by kernel_rfl
@[simp] theorem lay98 : layOf Tryd.prog 98 = some (false, 1) := by kernel_rfl
@[simp] theorem zero98 : zeroA Tryd.prog 98 = some [.sc .nilFunc] := by kernel_rfl
@[simp] theorem lay99 : layOf Tryd.prog 99 = some (false, 1) := by kernel_rfl
@[simp] theorem zero99 : zeroA Tryd.prog 99 = some [.slice .full []] := by kernel_rfl
@[simp] theorem ap99 : apOf Tryd.prog 99 = some (76, 1) := by kernel_rfl
@[simp] theorem und99 : Tryd.prog.underlying 99 = some (.slice 76) := by kernel_rfl
@[simp] theorem lay105 : layOf Tryd.prog 105 = some (true, 8) := by kernel_rfl
@[simp] theorem zagg105 : zaggA Tryd.prog 105 = some [.sc (.int .i64 0), .sc (.int .i64 0), .sc (.int .i64 0), .slice .full [], .slice .full [], .sc (.int .i64 0), .sc (.int .i64 0), .sc (.bool false)] := by kernel_rfl
@[simp] theorem zero105 : zeroA Tryd.prog 105 = some [.sc (.int .i64 0), .sc (.int .i64 0), .sc (.int .i64 0), .slice .full [], .slice .full [], .sc (.int .i64 0), .sc (.int .i64 0), .sc (.bool false)] := by kernel_rfl
@[simp] theorem field105_0 : fieldOf Tryd.prog 105 0 = some (0, 3) := by kernel_rfl
@[simp] theorem place105_0 : placeA Tryd.prog 105 0 = some (0, 1) := by kernel_rfl
@[simp] theorem field105_1 : fieldOf Tryd.prog 105 1 = some (1, 3) := by kernel_rfl
@[simp] theorem place105_1 : placeA Tryd.prog 105 1 = some (1, 1) := by kernel_rfl
@[simp] theorem field105_2 : fieldOf Tryd.prog 105 2 = some (2, 30) := by kernel_rfl
@[simp] theorem place105_2 : placeA Tryd.prog 105 2 = some (2, 2) := by kernel_rfl
@[simp] theorem field105_3 : fieldOf Tryd.prog 105 3 = some (4, 99) := by kernel_rfl
@[simp] theorem place105_3 : placeA Tryd.prog 105 3 = some (4, 1) := by kernel_rfl
@[simp] theorem field105_4 : fieldOf Tryd.prog 105 4 = some (5, 3) := by kernel_rfl
@[simp] theorem place105_4 : placeA Tryd.prog 105 4 = some (5, 1) := by kernel_rfl
@[simp] theorem field105_5 : fieldOf Tryd.prog 105 5 = some (6, 3) := by kernel_rfl
@[simp] theorem place105_5 : placeA Tryd.prog 105 5 = some (6, 1) := by kernel_rfl
@[simp] theorem field105_6 : fieldOf Tryd.prog 105 6 = some (7, 4) := by kernel_rfl
@[simp] theorem place105_6 : placeA Tryd.prog 105 6 = some (7, 1) := by kernel_rfl
@[simp] theorem lay112 : layOf Tryd.prog 112 = some (false, 1) := by kernel_rfl
@[simp] theorem zero112 : zeroA Tryd.prog 112 = some [.sc .nilFunc] := by kernel_rfl
@[simp] theorem lay125 : layOf Tryd.prog 125 = some (true, 14) := by kernel_rfl
@[simp] theorem zagg125 : zaggA Tryd.prog 125 = some [.sc (.int .i64 0), .sc (.int .i64 0), .sc (.int .i64 0), .sc (.int .i64 0), .sc (.int .i64 0), .sc (.int .i64 0), .sc (.int .i64 0), .sc (.int .i64 0), .sc (.int .i64 0), .sc (.int .i64 0), .sc (.int .i64 0), .sc (.int .i64 0), .sc (.int .i64 0), .sc (.int .i64 0)] := by kernel_rfl
@[simp] theorem zero125 : zeroA Tryd.prog 125 = some [.sc (.int .i64 0), .sc (.int .i64 0), .sc (.int .i64 0), .sc (.int .i64 0), .sc (.int .i64 0), .sc (.int .i64 0), .sc (.int .i64 0), .sc (.int .i64 0), .sc (.int .i64 0), .sc (.int .i64 0), .sc (.int .i64 0), .sc (.int .i64 0), .sc (.int .i64 0), .sc (.int .i64 0)] := by kernel_rfl
@[simp] theorem und125 : Tryd.prog.underlying 125 = some (.array 14 3) := by kernel_rfl
@[simp] theorem slall22 (tag : Tag) (l : List Int) : sliceA Tryd.prog 22 (.slice tag (List.map (fun n => AV.sc (Value.int .i64 n)) l)) none (some (.sc (.int .i64 (llen l)))) (some (.sc (.int .i64 (llen l)))) = some (.slice .full (List.map (fun n => AV.sc (Value.int .i64 n)) l)) := sliceA_all _ l und22 lay3 (fun x => by simp)
@[simp] theorem slall27 (tag : Tag) (l : List Ty) : sliceA Tryd.prog 27 (.slice tag (List.map Ty.av l)) none (some (.sc (.int .i64 (llen l)))) (some (.sc (.int .i64 (llen l)))) = some (.slice .full (List.map Ty.av l)) := sliceA_all _ l und27 lay30 (fun x => by simp)
@[simp] theorem slall32 (tag : Tag) (l : List Tm) : sliceA Tryd.prog 32 (.slice tag (List.map Tm.av l)) none (some (.sc (.int .i64 (llen l)))) (some (.sc (.int .i64 (llen l)))) = some (.slice .full (List.map Tm.av l)) := sliceA_all _ l und32 lay34 (fun x => by simp)
@[simp] theorem tab0 (a : Int) : indexAddrA Tryd.prog 125 (.rptr (.agg (List.map (fun n => AV.sc (Value.int .i64 n)) tree_arities))) (.sc (.int .i64 a)) = (lget tree_arities a).map fun x => .rptr (.sc (.int .i64 x)) := indexAddrA_tab und125 lay3 rfl
def Does98 {S : Type} (T : Tabs) (g : Nat) (cap : List AV) (st : S → Heap) (w : (S → Int → Int → Option (S))) : Prop :=
  ∀ (X : Heap) (s : S) (x0 : Int) (x1 : Int) (s' : S), w s x0 x1 = some s' → ACall Tryd.prog T g ([AV.sc (.int .i64 x0), AV.sc (.int .i64 x1)] ++ cap) (st s ++ X) (AV.tuple []) (st s' ++ X)
theorem Does98.ext {S : Type} {T : Tabs} {g : Nat} {cap : List AV} {st : S → Heap} {w : (S → Int → Int → Option (S))} (h : Does98 T g cap st w) {Y : Heap} : Does98 T g cap (fun s => st s ++ Y) w := fun X s x0 x1 s' hw => by
  have := h (Y ++ X) s x0 x1 s' hw
  rwa [← List.append_assoc, ← List.append_assoc] at this
theorem Does98.at0 {S : Type} {T : Tabs} {g : Nat} {cap : List AV} {st : S → Heap} {w : (S → Int → Int → Option (S))} (h : Does98 T g cap st w) {s : S} {x0 : Int} {x1 : Int} {s' : S} (hw : w s x0 x1 = some s') : ACall Tryd.prog T g ([AV.sc (.int .i64 x0), AV.sc (.int .i64 x1)] ++ cap) (st s) (AV.tuple []) (st s') := by
  have := h [] s x0 x1 s' hw
  rwa [List.append_nil, List.append_nil] at this
def Does112 {S : Type} (T : Tabs) (g : Nat) (cap : List AV) (st : S → Heap) (w : (S → Tm → Int → Option (S))) : Prop :=
  ∀ (X : Heap) (s : S) (x0 : Tm) (x1 : Int) (s' : S), w s x0 x1 = some s' → ACall Tryd.prog T g ([Tm.av x0, AV.sc (.int .i64 x1)] ++ cap) (st s ++ X) (AV.tuple []) (st s' ++ X)
theorem Does112.ext {S : Type} {T : Tabs} {g : Nat} {cap : List AV} {st : S → Heap} {w : (S → Tm → Int → Option (S))} (h : Does112 T g cap st w) {Y : Heap} : Does112 T g cap (fun s => st s ++ Y) w := fun X s x0 x1 s' hw => by
  have := h (Y ++ X) s x0 x1 s' hw
  rwa [← List.append_assoc, ← List.append_assoc] at this
theorem Does112.at0 {S : Type} {T : Tabs} {g : Nat} {cap : List AV} {st : S → Heap} {w : (S → Tm → Int → Option (S))} (h : Does112 T g cap st w) {s : S} {x0 : Tm} {x1 : Int} {s' : S} (hw : w s x0 x1 = some s') : ACall Tryd.prog T g ([Tm.av x0, AV.sc (.int .i64 x1)] ++ cap) (st s) (AV.tuple []) (st s') := by
  have := h [] s x0 x1 s' hw
  rwa [List.append_nil, List.append_nil] at this
end Go.Proofs.YtnabbjnhemmkhaaDoor
