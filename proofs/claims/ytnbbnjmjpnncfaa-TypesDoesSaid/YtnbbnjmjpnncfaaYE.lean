/- How values of the models stand for the program's. -/
import Derived.Test.YtnbbnjmjpnncfaaProg
import Derived.Test.YtnbbnjmjpnncfaaChecked
import Derived.Test.YtnbbnjmjpnncfaaW
import Derived.Test.YtnbbnjmjpnncfaaYT
set_option linter.unusedSimpArgs false
set_option linter.unusedVariables false
namespace Go.Proofs.Ytnbbnjmjpnncfaa
open Go Go.Abs Go.Mdl

theorem mixed : Try.prog.follows .mixedOrders = true := by kernel_rfl

end Go.Proofs.Ytnbbnjmjpnncfaa
namespace Go.Mdl
open Go Go.Abs
mutual
def Ty.av : Ty → AV
  | .mk kind args => .agg [AV.sc (.int .i64 kind), AV.slice .frz (Ty.avs args)]
def Ty.avs : List Ty → List AV
  | [] => []
  | x :: l => x.av :: Ty.avs l
end
theorem Ty.avs_eq (l : List Ty) : Ty.avs l = l.map Ty.av := by
  induction l with
  | nil => rfl
  | cons x l ih => simp [Ty.avs, ih]
theorem Ty.av_mk (kind : Int) (args : (List Ty)) : (Ty.mk kind args).av = .agg [AV.sc (.int .i64 kind), AV.slice .frz (List.map Ty.av args)] := by rw [Ty.av]; simp only [Ty.avs_eq]
mutual
@[simp] theorem Ty.low_av (k : Nat) : ∀ x : Ty, x.av.low k = true
  | .mk kind args => by rw [Ty.av_mk]; simp [AV.low, AV.lowL, Ty.low_avs k args]
@[simp] theorem Ty.low_avs (k : Nat) : ∀ l : List Ty, AV.lowL k (l.map Ty.av) = true
  | [] => rfl
  | x :: l => by simp [AV.lowL, Ty.low_av k x, Ty.low_avs k l]
end
theorem Ty.av_eq (x : Ty) : x.av = .agg [AV.sc (.int .i64 x.kind), AV.slice .frz (List.map Ty.av x.args)] := by cases x; exact Ty.av_mk _ _
@[simp] theorem Ty.cells_av (x : Ty) : x.av.cells = [AV.sc (.int .i64 x.kind), AV.slice .frz (List.map Ty.av x.args)] := by rw [Ty.av_eq]; rfl
@[simp] theorem Ty.nt_av (x : Ty) : notTuple x.av = true := by rw [Ty.av_eq]; rfl
@[simp] theorem Ty.norm_av (x : Ty) : x.av.norm = x.av := by rw [Ty.av_eq]; rfl
@[simp] theorem Ty.ncell_av (x : Ty) : x.av.ncell = x.av := by rw [Ty.av_eq]; rfl
@[simp] theorem Ty.agg0 (c0 : Int) (c1 : (List Ty)) : AV.agg [AV.sc (.int .i64 c0), AV.slice .frz (List.map Ty.av c1)] = Ty.av (Ty.mk c0 c1) := by rw [Ty.av_mk] <;> rfl
@[simp] theorem Ty.agg1 (c0 : Int) : AV.agg [AV.sc (.int .i64 c0), AV.slice .frz []] = Ty.av (Ty.mk c0 []) := by rw [Ty.av_mk] <;> rfl
def Smk_Deck.av (x : Smk_Deck) : AV := .agg [AV.slice .frz (List.map (fun n => AV.sc (Value.int .i64 n)) x.l), AV.sc (.int .i64 x.atF)]
theorem Smk_Deck.av_mk (l : (List Int)) (atF : Int) : (Smk_Deck.mk l atF).av = .agg [AV.slice .frz (List.map (fun n => AV.sc (Value.int .i64 n)) l), AV.sc (.int .i64 atF)] := rfl
@[simp] theorem Smk_Deck.low_av (k : Nat) (x : Smk_Deck) : x.av.low k = true := by
  cases x
  rw [Smk_Deck.av_mk]
  simp [AV.low, AV.lowL]
@[simp] theorem Smk_Deck.low_avs (k : Nat) (l : List Smk_Deck) : AV.lowL k (l.map Smk_Deck.av) = true := by
  rw [AV.lowL_iff]
  intro x hx
  obtain ⟨y, _, rfl⟩ := List.mem_map.1 hx
  exact Smk_Deck.low_av k y
theorem Smk_Deck.av_eq (x : Smk_Deck) : x.av = .agg [AV.slice .frz (List.map (fun n => AV.sc (Value.int .i64 n)) x.l), AV.sc (.int .i64 x.atF)] := by cases x; exact Smk_Deck.av_mk _ _
@[simp] theorem Smk_Deck.cells_av (x : Smk_Deck) : x.av.cells = [AV.slice .frz (List.map (fun n => AV.sc (Value.int .i64 n)) x.l), AV.sc (.int .i64 x.atF)] := by rw [Smk_Deck.av_eq]; rfl
@[simp] theorem Smk_Deck.nt_av (x : Smk_Deck) : notTuple x.av = true := by rw [Smk_Deck.av_eq]; rfl
@[simp] theorem Smk_Deck.norm_av (x : Smk_Deck) : x.av.norm = x.av := by rw [Smk_Deck.av_eq]; rfl
@[simp] theorem Smk_Deck.ncell_av (x : Smk_Deck) : x.av.ncell = x.av := by rw [Smk_Deck.av_eq]; rfl
@[simp] theorem Smk_Deck.agg0 (c0 : (List Int)) (c1 : Int) : AV.agg [AV.slice .frz (List.map (fun n => AV.sc (Value.int .i64 n)) c0), AV.sc (.int .i64 c1)] = Smk_Deck.av (Smk_Deck.mk c0 c1) := by rw [Smk_Deck.av_mk] <;> rfl
@[simp] theorem Smk_Deck.agg1 (c1 : Int) : AV.agg [AV.slice .frz [], AV.sc (.int .i64 c1)] = Smk_Deck.av (Smk_Deck.mk [] c1) := by rw [Smk_Deck.av_mk] <;> rfl
end Go.Mdl
namespace Go.Proofs.Ytnbbnjmjpnncfaa
open Go Go.Abs Go.Mdl
@[simp] theorem lay3 : layOf Try.prog 3 = some (false, 1) := by kernel_rfl
@[simp] theorem zero3 : zeroA Try.prog 3 = some [.sc (.int .i64 0)] := by kernel_rfl
@[simp] theorem und3 : Try.prog.underlying 3 = some (.int .i64) := by kernel_rfl
@[simp] theorem lay4 : layOf Try.prog 4 = some (false, 1) := by kernel_rfl
@[simp] theorem zero4 : zeroA Try.prog 4 = some [.sc (.bool false)] := by kernel_rfl
@[simp] theorem und4 : Try.prog.underlying 4 = some .bool := by kernel_rfl
@[simp] theorem lay22 : layOf Try.prog 22 = some (false, 1) := by kernel_rfl
@[simp] theorem zero22 : zeroA Try.prog 22 = some [.slice .full []] := by kernel_rfl
@[simp] theorem ap22 : apOf Try.prog 22 = some (3, 1) := by kernel_rfl
@[simp] theorem und22 : Try.prog.underlying 22 = some (.slice 3) := by kernel_rfl
@[simp] theorem lay27 : layOf Try.prog 27 = some (false, 1) := by kernel_rfl
@[simp] theorem zero27 : zeroA Try.prog 27 = some [.slice .full []] := by kernel_rfl
@[simp] theorem ap27 : apOf Try.prog 27 = some (29, 2) := by kernel_rfl
@[simp] theorem und27 : Try.prog.underlying 27 = some (.slice 29) := by kernel_rfl
@[simp] theorem lay29 : layOf Try.prog 29 = some (true, 2) := by kernel_rfl
@[simp] theorem zagg29 : zaggA Try.prog 29 = some [.sc (.int .i64 0), .slice .full []] := by kernel_rfl
@[simp] theorem zero29 : zeroA Try.prog 29 = some [.sc (.int .i64 0), .slice .full []] := by kernel_rfl
@[simp] theorem field29_0 : fieldOf Try.prog 29 0 = some (0, 3) := by kernel_rfl
@[simp] theorem place29_0 : placeA Try.prog 29 0 = some (0, 1) := by kernel_rfl
@[simp] theorem field29_1 : fieldOf Try.prog 29 1 = some (1, 27) := by kernel_rfl
@[simp] theorem place29_1 : placeA Try.prog 29 1 = some (1, 1) := by kernel_rfl
@[simp] theorem Ty.fits_av29 (x : Ty) : fitsB Try.prog 29 x.av = true := by rw [Ty.av_eq, fits_agg, lay29]; rfl
@[simp] theorem lay31 : layOf Try.prog 31 = some (false, 1) := by kernel_rfl
@[simp] theorem zero31 : zeroA Try.prog 31 = some [.sc (.int .i64 0)] := by kernel_rfl
@[simp] theorem und31 : Try.prog.underlying 31 = some (.int .i64) := by kernel_rfl
@[simp] theorem lay51 : layOf Try.prog 51 = some (true, 2) := by kernel_rfl
@[simp] theorem zagg51 : zaggA Try.prog 51 = some [.slice .full [], .sc (.int .i64 0)] := by kernel_rfl
@[simp] theorem zero51 : zeroA Try.prog 51 = some [.slice .full [], .sc (.int .i64 0)] := by kernel_rfl
@[simp] theorem field51_0 : fieldOf Try.prog 51 0 = some (0, 22) := by kernel_rfl
@[simp] theorem place51_0 : placeA Try.prog 51 0 = some (0, 1) := by kernel_rfl
@[simp] theorem field51_1 : fieldOf Try.prog 51 1 = some (1, 3) := by kernel_rfl
@[simp] theorem place51_1 : placeA Try.prog 51 1 = some (1, 1) := by kernel_rfl
@[simp] theorem Smk_Deck.fits_av51 (x : Smk_Deck) : fitsB Try.prog 51 x.av = true := by rw [Smk_Deck.av_eq, fits_agg, lay51]; rfl
@[simp] theorem slall22 (tag : Tag) (l : List Int) : sliceA Try.prog 22 (.slice tag (List.map sI l)) none (some (.sc (.int .i64 (llen l)))) (some (.sc (.int .i64 (llen l)))) = some (.slice .full (List.map sI l)) := sliceA_all _ l und22 lay3 (fun x => by simp)
@[simp] theorem sls22 (tag : Tag) (l : List Int) (a b : Int) : sliceA Try.prog 22 (.slice tag (List.map sI l)) (some (.sc (.int .i64 a))) (some (.sc (.int .i64 b))) none = (lslice l a b).map fun r => .slice .frz (List.map sI r) := sliceA_lst _ l und22 lay3 (fun x => by simp)
@[simp] theorem slsL22 (tag : Tag) (l : List Int) (a : Int) : sliceA Try.prog 22 (.slice tag (List.map sI l)) (some (.sc (.int .i64 a))) none none = (lslice l a (llen l)).map fun r => .slice .frz (List.map sI r) := sliceA_lstL _ l und22 lay3 (fun x => by simp)
@[simp] theorem slsH22 (tag : Tag) (l : List Int) (b : Int) : sliceA Try.prog 22 (.slice tag (List.map sI l)) none (some (.sc (.int .i64 b))) none = (lslice l 0 b).map fun r => .slice .frz (List.map sI r) := sliceA_lstH _ l und22 lay3 (fun x => by simp)
@[simp] theorem slall27 (tag : Tag) (l : List Ty) : sliceA Try.prog 27 (.slice tag (List.map Ty.av l)) none (some (.sc (.int .i64 (llen l)))) (some (.sc (.int .i64 (llen l)))) = some (.slice .full (List.map Ty.av l)) := sliceA_all _ l und27 lay29 (fun x => by simp)
@[simp] theorem sls27 (tag : Tag) (l : List Ty) (a b : Int) : sliceA Try.prog 27 (.slice tag (List.map Ty.av l)) (some (.sc (.int .i64 a))) (some (.sc (.int .i64 b))) none = (lslice l a b).map fun r => .slice .frz (List.map Ty.av r) := sliceA_lst _ l und27 lay29 (fun x => by simp)
@[simp] theorem slsL27 (tag : Tag) (l : List Ty) (a : Int) : sliceA Try.prog 27 (.slice tag (List.map Ty.av l)) (some (.sc (.int .i64 a))) none none = (lslice l a (llen l)).map fun r => .slice .frz (List.map Ty.av r) := sliceA_lstL _ l und27 lay29 (fun x => by simp)
@[simp] theorem slsH27 (tag : Tag) (l : List Ty) (b : Int) : sliceA Try.prog 27 (.slice tag (List.map Ty.av l)) none (some (.sc (.int .i64 b))) none = (lslice l 0 b).map fun r => .slice .frz (List.map Ty.av r) := sliceA_lstH _ l und27 lay29 (fun x => by simp)
end Go.Proofs.Ytnbbnjmjpnncfaa
