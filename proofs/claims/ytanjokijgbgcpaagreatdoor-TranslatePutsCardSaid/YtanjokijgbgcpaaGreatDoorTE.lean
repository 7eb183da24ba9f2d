/- How values of the models stand for the program's. -/
import Derived.Test.YtanjokijgbgcpaaGreatDoorProg
import Derived.Test.YtanjokijgbgcpaaGreatDoorChecked
import Derived.Test.YtanjokijgbgcpaaGreatDoorMapR
import Derived.Test.YtanjokijgbgcpaaGreatDoorOwn
import Derived.Test.YtanjokijgbgcpaaGreatDoorW
import Derived.Test.YtanjokijgbgcpaaGreatDoorTT
set_option linter.unusedSimpArgs false
set_option linter.unusedVariables false
namespace Go.Proofs.YtanjokijgbgcpaaGreatDoor
open Go Go.Abs Go.Mdl

theorem mixed : Tryz.prog.follows .mixedOrders = true := by kernel_rfl

end Go.Proofs.YtanjokijgbgcpaaGreatDoor
namespace Go.Mdl
open Go Go.Abs
mutual
def Ty.av : Ty → AV
  | .mk kind args => .agg [AV.sc (.int .i64 kind), AV.slice .frz (Ty.avs args)]
def Ty.avs : List Ty → List AV
  | [] => []
  | x :: l => x.av :: Ty.avs l
end
theorem Ty.avs_eq (l : List Ty) : Ty.avs l = l.map Ty.av := by
  induction l with
  | nil => rfl
  | cons x l ih => simp [Ty.avs, ih]
theorem Ty.av_mk (kind : Int) (args : (List Ty)) : (Ty.mk kind args).av = .agg [AV.sc (.int .i64 kind), AV.slice .frz (List.map Ty.av args)] := by rw [Ty.av]; simp only [Ty.avs_eq]
mutual
@[simp] theorem Ty.low_av (k : Nat) : ∀ x : Ty, x.av.low k = true
  | .mk kind args => by rw [Ty.av_mk]; simp [AV.low, AV.lowL, Ty.low_avs k args]
@[simp] theorem Ty.low_avs (k : Nat) : ∀ l : List Ty, AV.lowL k (l.map Ty.av) = true
  | [] => rfl
  | x :: l => by simp [AV.lowL, Ty.low_av k x, Ty.low_avs k l]
end
theorem Ty.av_eq (x : Ty) : x.av = .agg [AV.sc (.int .i64 x.kind), AV.slice .frz (List.map Ty.av x.args)] := by cases x; exact Ty.av_mk _ _
@[simp] theorem Ty.cells_av (x : Ty) : x.av.cells = [AV.sc (.int .i64 x.kind), AV.slice .frz (List.map Ty.av x.args)] := by rw [Ty.av_eq]; rfl
@[simp] theorem Ty.nt_av (x : Ty) : notTuple x.av = true := by rw [Ty.av_eq]; rfl
@[simp] theorem Ty.norm_av (x : Ty) : x.av.norm = x.av := by rw [Ty.av_eq]; rfl
@[simp] theorem Ty.ncell_av (x : Ty) : x.av.ncell = x.av := by rw [Ty.av_eq]; rfl
@[simp] theorem Ty.agg0 (c0 : Int) (c1 : (List Ty)) : AV.agg [AV.sc (.int .i64 c0), AV.slice .frz (List.map Ty.av c1)] = Ty.av (Ty.mk c0 c1) := by rw [Ty.av_mk] <;> rfl
@[simp] theorem Ty.agg1 (c0 : Int) : AV.agg [AV.sc (.int .i64 c0), AV.slice .frz []] = Ty.av (Ty.mk c0 []) := by rw [Ty.av_mk] <;> rfl
mutual
def Tm.av : Tm → AV
  | .mk kind index typeF args => .agg [AV.sc (.int .i64 kind), AV.sc (.int .i64 index), AV.sc (.int .i64 typeF.kind), AV.slice .frz (List.map Ty.av typeF.args), AV.slice .frz (Tm.avs args)]
def Tm.avs : List Tm → List AV
  | [] => []
  | x :: l => x.av :: Tm.avs l
end
theorem Tm.avs_eq (l : List Tm) : Tm.avs l = l.map Tm.av := by
  induction l with
  | nil => rfl
  | cons x l ih => simp [Tm.avs, ih]
theorem Tm.av_mk (kind : Int) (index : Int) (typeF : Ty) (args : (List Tm)) : (Tm.mk kind index typeF args).av = .agg [AV.sc (.int .i64 kind), AV.sc (.int .i64 index), AV.sc (.int .i64 typeF.kind), AV.slice .frz (List.map Ty.av typeF.args), AV.slice .frz (List.map Tm.av args)] := by rw [Tm.av]; simp only [Tm.avs_eq]
mutual
@[simp] theorem Tm.low_av (k : Nat) : ∀ x : Tm, x.av.low k = true
  | .mk kind index typeF args => by rw [Tm.av_mk]; simp [AV.low, AV.lowL, Tm.low_avs k args]
@[simp] theorem Tm.low_avs (k : Nat) : ∀ l : List Tm, AV.lowL k (l.map Tm.av) = true
  | [] => rfl
  | x :: l => by simp [AV.lowL, Tm.low_av k x, Tm.low_avs k l]
end
theorem Tm.av_eq (x : Tm) : x.av = .agg [AV.sc (.int .i64 x.kind), AV.sc (.int .i64 x.index), AV.sc (.int .i64 x.typeF.kind), AV.slice .frz (List.map Ty.av x.typeF.args), AV.slice .frz (List.map Tm.av x.args)] := by cases x; exact Tm.av_mk _ _ _ _
@[simp] theorem Tm.cells_av (x : Tm) : x.av.cells = [AV.sc (.int .i64 x.kind), AV.sc (.int .i64 x.index), AV.sc (.int .i64 x.typeF.kind), AV.slice .frz (List.map Ty.av x.typeF.args), AV.slice .frz (List.map Tm.av x.args)] := by rw [Tm.av_eq]; rfl
@[simp] theorem Tm.nt_av (x : Tm) : notTuple x.av = true := by rw [Tm.av_eq]; rfl
@[simp] theorem Tm.norm_av (x : Tm) : x.av.norm = x.av := by rw [Tm.av_eq]; rfl
@[simp] theorem Tm.ncell_av (x : Tm) : x.av.ncell = x.av := by rw [Tm.av_eq]; rfl
@[simp] theorem Tm.agg00 (c0 : Int) (c1 : Int) (c2 : Int) (c3 : (List Ty)) (c4 : (List Tm)) : AV.agg [AV.sc (.int .i64 c0), AV.sc (.int .i64 c1), AV.sc (.int .i64 c2), AV.slice .frz (List.map Ty.av c3), AV.slice .frz (List.map Tm.av c4)] = Tm.av (Tm.mk c0 c1 (Ty.mk c2 c3) c4) := by rw [Tm.av_mk] <;> rfl
@[simp] theorem Tm.agg01 (c0 : Int) (c1 : Int) (c2 : Int) (c3 : (List Ty)) : AV.agg [AV.sc (.int .i64 c0), AV.sc (.int .i64 c1), AV.sc (.int .i64 c2), AV.slice .frz (List.map Ty.av c3), AV.slice .frz []] = Tm.av (Tm.mk c0 c1 (Ty.mk c2 c3) []) := by rw [Tm.av_mk] <;> rfl
@[simp] theorem Tm.agg10 (c0 : Int) (c1 : Int) (c2 : Int) (c4 : (List Tm)) : AV.agg [AV.sc (.int .i64 c0), AV.sc (.int .i64 c1), AV.sc (.int .i64 c2), AV.slice .frz [], AV.slice .frz (List.map Tm.av c4)] = Tm.av (Tm.mk c0 c1 (Ty.mk c2 []) c4) := by rw [Tm.av_mk] <;> rfl
@[simp] theorem Tm.agg11 (c0 : Int) (c1 : Int) (c2 : Int) : AV.agg [AV.sc (.int .i64 c0), AV.sc (.int .i64 c1), AV.sc (.int .i64 c2), AV.slice .frz [], AV.slice .frz []] = Tm.av (Tm.mk c0 c1 (Ty.mk c2 []) []) := by rw [Tm.av_mk] <;> rfl
mutual
def Fm.av : Fm → AV
  | .mk kind typeF terms args => .agg [AV.sc (.int .i64 kind), AV.sc (.int .i64 typeF.kind), AV.slice .frz (List.map Ty.av typeF.args), AV.slice .frz (List.map Tm.av terms), AV.slice .frz (Fm.avs args)]
def Fm.avs : List Fm → List AV
  | [] => []
  | x :: l => x.av :: Fm.avs l
end
theorem Fm.avs_eq (l : List Fm) : Fm.avs l = l.map Fm.av := by
  induction l with
  | nil => rfl
  | cons x l ih => simp [Fm.avs, ih]
theorem Fm.av_mk (kind : Int) (typeF : Ty) (terms : (List Tm)) (args : (List Fm)) : (Fm.mk kind typeF terms args).av = .agg [AV.sc (.int .i64 kind), AV.sc (.int .i64 typeF.kind), AV.slice .frz (List.map Ty.av typeF.args), AV.slice .frz (List.map Tm.av terms), AV.slice .frz (List.map Fm.av args)] := by rw [Fm.av]; simp only [Fm.avs_eq]
mutual
@[simp] theorem Fm.low_av (k : Nat) : ∀ x : Fm, x.av.low k = true
  | .mk kind typeF terms args => by rw [Fm.av_mk]; simp [AV.low, AV.lowL, Fm.low_avs k args]
@[simp] theorem Fm.low_avs (k : Nat) : ∀ l : List Fm, AV.lowL k (l.map Fm.av) = true
  | [] => rfl
  | x :: l => by simp [AV.lowL, Fm.low_av k x, Fm.low_avs k l]
end
theorem Fm.av_eq (x : Fm) : x.av = .agg [AV.sc (.int .i64 x.kind), AV.sc (.int .i64 x.typeF.kind), AV.slice .frz (List.map Ty.av x.typeF.args), AV.slice .frz (List.map Tm.av x.terms), AV.slice .frz (List.map Fm.av x.args)] := by cases x; exact Fm.av_mk _ _ _ _
@[simp] theorem Fm.cells_av (x : Fm) : x.av.cells = [AV.sc (.int .i64 x.kind), AV.sc (.int .i64 x.typeF.kind), AV.slice .frz (List.map Ty.av x.typeF.args), AV.slice .frz (List.map Tm.av x.terms), AV.slice .frz (List.map Fm.av x.args)] := by rw [Fm.av_eq]; rfl
@[simp] theorem Fm.nt_av (x : Fm) : notTuple x.av = true := by rw [Fm.av_eq]; rfl
@[simp] theorem Fm.norm_av (x : Fm) : x.av.norm = x.av := by rw [Fm.av_eq]; rfl
@[simp] theorem Fm.ncell_av (x : Fm) : x.av.ncell = x.av := by rw [Fm.av_eq]; rfl
@[simp] theorem Fm.agg000 (c0 : Int) (c1 : Int) (c2 : (List Ty)) (c3 : (List Tm)) (c4 : (List Fm)) : AV.agg [AV.sc (.int .i64 c0), AV.sc (.int .i64 c1), AV.slice .frz (List.map Ty.av c2), AV.slice .frz (List.map Tm.av c3), AV.slice .frz (List.map Fm.av c4)] = Fm.av (Fm.mk c0 (Ty.mk c1 c2) c3 c4) := by rw [Fm.av_mk] <;> rfl
@[simp] theorem Fm.agg001 (c0 : Int) (c1 : Int) (c2 : (List Ty)) (c3 : (List Tm)) : AV.agg [AV.sc (.int .i64 c0), AV.sc (.int .i64 c1), AV.slice .frz (List.map Ty.av c2), AV.slice .frz (List.map Tm.av c3), AV.slice .frz []] = Fm.av (Fm.mk c0 (Ty.mk c1 c2) c3 []) := by rw [Fm.av_mk] <;> rfl
@[simp] theorem Fm.agg010 (c0 : Int) (c1 : Int) (c2 : (List Ty)) (c4 : (List Fm)) : AV.agg [AV.sc (.int .i64 c0), AV.sc (.int .i64 c1), AV.slice .frz (List.map Ty.av c2), AV.slice .frz [], AV.slice .frz (List.map Fm.av c4)] = Fm.av (Fm.mk c0 (Ty.mk c1 c2) [] c4) := by rw [Fm.av_mk] <;> rfl
@[simp] theorem Fm.agg011 (c0 : Int) (c1 : Int) (c2 : (List Ty)) : AV.agg [AV.sc (.int .i64 c0), AV.sc (.int .i64 c1), AV.slice .frz (List.map Ty.av c2), AV.slice .frz [], AV.slice .frz []] = Fm.av (Fm.mk c0 (Ty.mk c1 c2) [] []) := by rw [Fm.av_mk] <;> rfl
@[simp] theorem Fm.agg100 (c0 : Int) (c1 : Int) (c3 : (List Tm)) (c4 : (List Fm)) : AV.agg [AV.sc (.int .i64 c0), AV.sc (.int .i64 c1), AV.slice .frz [], AV.slice .frz (List.map Tm.av c3), AV.slice .frz (List.map Fm.av c4)] = Fm.av (Fm.mk c0 (Ty.mk c1 []) c3 c4) := by rw [Fm.av_mk] <;> rfl
@[simp] theorem Fm.agg101 (c0 : Int) (c1 : Int) (c3 : (List Tm)) : AV.agg [AV.sc (.int .i64 c0), AV.sc (.int .i64 c1), AV.slice .frz [], AV.slice .frz (List.map Tm.av c3), AV.slice .frz []] = Fm.av (Fm.mk c0 (Ty.mk c1 []) c3 []) := by rw [Fm.av_mk] <;> rfl
@[simp] theorem Fm.agg110 (c0 : Int) (c1 : Int) (c4 : (List Fm)) : AV.agg [AV.sc (.int .i64 c0), AV.sc (.int .i64 c1), AV.slice .frz [], AV.slice .frz [], AV.slice .frz (List.map Fm.av c4)] = Fm.av (Fm.mk c0 (Ty.mk c1 []) [] c4) := by rw [Fm.av_mk] <;> rfl
@[simp] theorem Fm.agg111 (c0 : Int) (c1 : Int) : AV.agg [AV.sc (.int .i64 c0), AV.sc (.int .i64 c1), AV.slice .frz [], AV.slice .frz [], AV.slice .frz []] = Fm.av (Fm.mk c0 (Ty.mk c1 []) [] []) := by rw [Fm.av_mk] <;> rfl
def Smk_Deck.av (x : Smk_Deck) : AV := .agg [AV.slice .frz (List.map (fun n => AV.sc (Value.int .i64 n)) x.l), AV.sc (.int .i64 x.atF)]
theorem Smk_Deck.av_mk (l : (List Int)) (atF : Int) : (Smk_Deck.mk l atF).av = .agg [AV.slice .frz (List.map (fun n => AV.sc (Value.int .i64 n)) l), AV.sc (.int .i64 atF)] := rfl
@[simp] theorem Smk_Deck.low_av (k : Nat) (x : Smk_Deck) : x.av.low k = true := by
  cases x
  rw [Smk_Deck.av_mk]
  simp [AV.low, AV.lowL]
@[simp] theorem Smk_Deck.low_avs (k : Nat) (l : List Smk_Deck) : AV.lowL k (l.map Smk_Deck.av) = true := by
  rw [AV.lowL_iff]
  intro x hx
  obtain ⟨y, _, rfl⟩ := List.mem_map.1 hx
  exact Smk_Deck.low_av k y
theorem Smk_Deck.av_eq (x : Smk_Deck) : x.av = .agg [AV.slice .frz (List.map (fun n => AV.sc (Value.int .i64 n)) x.l), AV.sc (.int .i64 x.atF)] := by cases x; exact Smk_Deck.av_mk _ _
@[simp] theorem Smk_Deck.cells_av (x : Smk_Deck) : x.av.cells = [AV.slice .frz (List.map (fun n => AV.sc (Value.int .i64 n)) x.l), AV.sc (.int .i64 x.atF)] := by rw [Smk_Deck.av_eq]; rfl
@[simp] theorem Smk_Deck.nt_av (x : Smk_Deck) : notTuple x.av = true := by rw [Smk_Deck.av_eq]; rfl
@[simp] theorem Smk_Deck.norm_av (x : Smk_Deck) : x.av.norm = x.av := by rw [Smk_Deck.av_eq]; rfl
@[simp] theorem Smk_Deck.ncell_av (x : Smk_Deck) : x.av.ncell = x.av := by rw [Smk_Deck.av_eq]; rfl
@[simp] theorem Smk_Deck.agg0 (c0 : (List Int)) (c1 : Int) : AV.agg [AV.slice .frz (List.map (fun n => AV.sc (Value.int .i64 n)) c0), AV.sc (.int .i64 c1)] = Smk_Deck.av (Smk_Deck.mk c0 c1) := by rw [Smk_Deck.av_mk] <;> rfl
@[simp] theorem Smk_Deck.agg1 (c1 : Int) : AV.agg [AV.slice .frz [], AV.sc (.int .i64 c1)] = Smk_Deck.av (Smk_Deck.mk [] c1) := by rw [Smk_Deck.av_mk] <;> rfl
end Go.Mdl
namespace Go.Proofs.YtanjokijgbgcpaaGreatDoor
open Go Go.Abs Go.Mdl
@[simp] theorem lay3 : layOf Tryz.prog 3 = some (false, 1) := by kernel_rfl
@[simp] theorem zero3 : zeroA Tryz.prog 3 = some [.sc (.int .i64 0)] := by kernel_rfl
@[simp] theorem und3 : Tryz.prog.underlying 3 = some (.int .i64) := by kernel_rfl
@[simp] theorem lay4 : layOf Tryz.prog 4 = some (false, 1) := by kernel_rfl
@[simp] theorem zero4 : zeroA Tryz.prog 4 = some [.sc (.bool false)] := by kernel_rfl
@[simp] theorem und4 : Tryz.prog.underlying 4 = some .bool := by kernel_rfl
theorem zval4 : zvalA Tryz.prog 4 = some (sB false) := by kernel_rfl
@[simp] theorem lay22 : layOf Tryz.prog 22 = some (false, 1) := by kernel_rfl
@[simp] theorem zero22 : zeroA Tryz.prog 22 = some [.slice .full []] := by kernel_rfl
@[simp] theorem ap22 : apOf Tryz.prog 22 = some (3, 1) := by kernel_rfl
@[simp] theorem und22 : Tryz.prog.underlying 22 = some (.slice 3) := by kernel_rfl
@[simp] theorem lay23 : layOf Tryz.prog 23 = some (false, 1) := by kernel_rfl
@[simp] theorem zero23 : zeroA Tryz.prog 23 = some [.slice .full []] := by kernel_rfl
@[simp] theorem ap23 : apOf Tryz.prog 23 = some (25, 2) := by kernel_rfl
@[simp] theorem und23 : Tryz.prog.underlying 23 = some (.slice 25) := by kernel_rfl
@[simp] theorem lay25 : layOf Tryz.prog 25 = some (true, 2) := by kernel_rfl
@[simp] theorem zagg25 : zaggA Tryz.prog 25 = some [.sc (.int .i64 0), .slice .full []] := by kernel_rfl
@[simp] theorem zero25 : zeroA Tryz.prog 25 = some [.sc (.int .i64 0), .slice .full []] := by kernel_rfl
@[simp] theorem field25_0 : fieldOf Tryz.prog 25 0 = some (0, 3) := by kernel_rfl
@[simp] theorem place25_0 : placeA Tryz.prog 25 0 = some (0, 1) := by kernel_rfl
@[simp] theorem field25_1 : fieldOf Tryz.prog 25 1 = some (1, 23) := by kernel_rfl
@[simp] theorem place25_1 : placeA Tryz.prog 25 1 = some (1, 1) := by kernel_rfl
@[simp] theorem Ty.fits_av25 (x : Ty) : fitsB Tryz.prog 25 x.av = true := by rw [Ty.av_eq, fits_agg, lay25]; rfl
@[simp] theorem lay26 : layOf Tryz.prog 26 = some (false, 1) := by kernel_rfl
@[simp] theorem zero26 : zeroA Tryz.prog 26 = some [.slice .full []] := by kernel_rfl
@[simp] theorem ap26 : apOf Tryz.prog 26 = some (44, 5) := by kernel_rfl
@[simp] theorem und26 : Tryz.prog.underlying 26 = some (.slice 44) := by kernel_rfl
@[simp] theorem lay27 : layOf Tryz.prog 27 = some (false, 1) := by kernel_rfl
@[simp] theorem zero27 : zeroA Tryz.prog 27 = some [.slice .full []] := by kernel_rfl
@[simp] theorem ap27 : apOf Tryz.prog 27 = some (29, 5) := by kernel_rfl
@[simp] theorem und27 : Tryz.prog.underlying 27 = some (.slice 29) := by kernel_rfl
@[simp] theorem lay29 : layOf Tryz.prog 29 = some (true, 5) := by kernel_rfl
@[simp] theorem zagg29 : zaggA Tryz.prog 29 = some [.sc (.int .i64 0), .sc (.int .i64 0), .slice .full [], .slice .full [], .slice .full []] := by kernel_rfl
@[simp] theorem zero29 : zeroA Tryz.prog 29 = some [.sc (.int .i64 0), .sc (.int .i64 0), .slice .full [], .slice .full [], .slice .full []] := by kernel_rfl
@[simp] theorem field29_0 : fieldOf Tryz.prog 29 0 = some (0, 3) := by kernel_rfl
@[simp] theorem place29_0 : placeA Tryz.prog 29 0 = some (0, 1) := by kernel_rfl
@[simp] theorem field29_1 : fieldOf Tryz.prog 29 1 = some (1, 25) := by kernel_rfl
@[simp] theorem place29_1 : placeA Tryz.prog 29 1 = some (1, 2) := by kernel_rfl
@[simp] theorem field29_2 : fieldOf Tryz.prog 29 2 = some (3, 26) := by kernel_rfl
@[simp] theorem place29_2 : placeA Tryz.prog 29 2 = some (3, 1) := by kernel_rfl
@[simp] theorem field29_3 : fieldOf Tryz.prog 29 3 = some (4, 27) := by kernel_rfl
@[simp] theorem place29_3 : placeA Tryz.prog 29 3 = some (4, 1) := by kernel_rfl
@[simp] theorem Fm.fits_av29 (x : Fm) : fitsB Tryz.prog 29 x.av = true := by rw [Fm.av_eq, fits_agg, lay29]; rfl
@[simp] theorem lay37 : layOf Tryz.prog 37 = some (false, 1) := by kernel_rfl
@[simp] theorem zero37 : zeroA Tryz.prog 37 = some [.sc (.int .i64 0)] := by kernel_rfl
@[simp] theorem und37 : Tryz.prog.underlying 37 = some (.int .i64) := by kernel_rfl
@[simp] theorem lay44 : layOf Tryz.prog 44 = some (true, 5) := by kernel_rfl
@[simp] theorem zagg44 : zaggA Tryz.prog 44 = some [.sc (.int .i64 0), .sc (.int .i64 0), .sc (.int .i64 0), .slice .full [], .slice .full []] := by kernel_rfl
@[simp] theorem zero44 : zeroA Tryz.prog 44 = some [.sc (.int .i64 0), .sc (.int .i64 0), .sc (.int .i64 0), .slice .full [], .slice .full []] := by kernel_rfl
@[simp] theorem field44_0 : fieldOf Tryz.prog 44 0 = some (0, 3) := by kernel_rfl
@[simp] theorem place44_0 : placeA Tryz.prog 44 0 = some (0, 1) := by kernel_rfl
@[simp] theorem field44_1 : fieldOf Tryz.prog 44 1 = some (1, 3) := by kernel_rfl
@[simp] theorem place44_1 : placeA Tryz.prog 44 1 = some (1, 1) := by kernel_rfl
@[simp] theorem field44_2 : fieldOf Tryz.prog 44 2 = some (2, 25) := by kernel_rfl
@[simp] theorem place44_2 : placeA Tryz.prog 44 2 = some (2, 2) := by kernel_rfl
@[simp] theorem field44_3 : fieldOf Tryz.prog 44 3 = some (4, 26) := by kernel_rfl
@[simp] theorem place44_3 : placeA Tryz.prog 44 3 = some (4, 1) := by kernel_rfl
@[simp] theorem Tm.fits_av44 (x : Tm) : fitsB Tryz.prog 44 x.av = true := by rw [Tm.av_eq, fits_agg, lay44]; rfl
@[simp] theorem lay56 : layOf Tryz.prog 56 = some (true, 2) := by kernel_rfl
@[simp] theorem zagg56 : zaggA Tryz.prog 56 = some [.slice .full [], .sc (.int .i64 0)] := by kernel_rfl
@[simp] theorem zero56 : zeroA Tryz.prog 56 = some [.slice .full [], .sc (.int .i64 0)] := by kernel_rfl
@[simp] theorem field56_0 : fieldOf Tryz.prog 56 0 = some (0, 22) := by kernel_rfl
@[simp] theorem place56_0 : placeA Tryz.prog 56 0 = some (0, 1) := by kernel_rfl
@[simp] theorem field56_1 : fieldOf Tryz.prog 56 1 = some (1, 3) := by kernel_rfl
@[simp] theorem place56_1 : placeA Tryz.prog 56 1 = some (1, 1) := by kernel_rfl
@[simp] theorem Smk_Deck.fits_av56 (x : Smk_Deck) : fitsB Tryz.prog 56 x.av = true := by rw [Smk_Deck.av_eq, fits_agg, lay56]; rfl
@[simp] theorem lay80 : layOf Tryz.prog 80 = some (false, 1) := by kernel_rfl
@[simp] theorem zero80 : zeroA Tryz.prog 80 = some [.sc (.map none)] := by kernel_rfl
@[simp] theorem und80 : Tryz.prog.underlying 80 = some (.map 3 4) := by kernel_rfl
@[simp] theorem lay97 : layOf Tryz.prog 97 = some (false, 1) := by kernel_rfl
@[simp] theorem zero97 : zeroA Tryz.prog 97 = some [.sc .nilFunc] := by kernel_rfl
@[simp] theorem lay117 : layOf Tryz.prog 117 = some (false, 1) := by kernel_rfl
@[simp] theorem zero117 : zeroA Tryz.prog 117 = some [.sc .nilFunc] := by kernel_rfl
@[simp] theorem lay120 : layOf Tryz.prog 120 = some (false, 1) := by kernel_rfl
@[simp] theorem zero120 : zeroA Tryz.prog 120 = some [.sc .nilFunc] := by kernel_rfl
@[simp] theorem lay126 : layOf Tryz.prog 126 = some (false, 1) := by kernel_rfl
@[simp] theorem zero126 : zeroA Tryz.prog 126 = some [.sc .nilFunc] := by kernel_rfl
@[simp] theorem lay128 : layOf Tryz.prog 128 = some (true, 14) := by kernel_rfl
@[simp] theorem zagg128 : zaggA Tryz.prog 128 = some [.sc (.int .i64 0), .sc (.int .i64 0), .sc (.int .i64 0), .sc (.int .i64 0), .sc (.int .i64 0), .sc (.int .i64 0), .sc (.int .i64 0), .sc (.int .i64 0), .sc (.int .i64 0), .sc (.int .i64 0), .sc (.int .i64 0), .sc (.int .i64 0), .sc (.int .i64 0), .sc (.int .i64 0)] := by kernel_rfl
@[simp] theorem zero128 : zeroA Tryz.prog 128 = some [.sc (.int .i64 0), .sc (.int .i64 0), .sc (.int .i64 0), .sc (.int .i64 0), .sc (.int .i64 0), .sc (.int .i64 0), .sc (.int .i64 0), .sc (.int .i64 0), .sc (.int .i64 0), .sc (.int .i64 0), .sc (.int .i64 0), .sc (.int .i64 0), .sc (.int .i64 0), .sc (.int .i64 0)] := by kernel_rfl
@[simp] theorem und128 : Tryz.prog.underlying 128 = some (.array 14 3) := by kernel_rfl
@[simp] theorem slall22 (tag : Tag) (l : List Int) : sliceA Tryz.prog 22 (.slice tag (List.map sI l)) none (some (.sc (.int .i64 (llen l)))) (some (.sc (.int .i64 (llen l)))) = some (.slice .full (List.map sI l)) := sliceA_all _ l und22 lay3 (fun x => by simp)
@[simp] theorem sls22 (tag : Tag) (l : List Int) (a b : Int) : sliceA Tryz.prog 22 (.slice tag (List.map sI l)) (some (.sc (.int .i64 a))) (some (.sc (.int .i64 b))) none = (lslice l a b).map fun r => .slice .frz (List.map sI r) := sliceA_lst _ l und22 lay3 (fun x => by simp)
@[simp] theorem slsL22 (tag : Tag) (l : List Int) (a : Int) : sliceA Tryz.prog 22 (.slice tag (List.map sI l)) (some (.sc (.int .i64 a))) none none = (lslice l a (llen l)).map fun r => .slice .frz (List.map sI r) := sliceA_lstL _ l und22 lay3 (fun x => by simp)
@[simp] theorem slsH22 (tag : Tag) (l : List Int) (b : Int) : sliceA Tryz.prog 22 (.slice tag (List.map sI l)) none (some (.sc (.int .i64 b))) none = (lslice l 0 b).map fun r => .slice .frz (List.map sI r) := sliceA_lstH _ l und22 lay3 (fun x => by simp)
@[simp] theorem slall23 (tag : Tag) (l : List Ty) : sliceA Tryz.prog 23 (.slice tag (List.map Ty.av l)) none (some (.sc (.int .i64 (llen l)))) (some (.sc (.int .i64 (llen l)))) = some (.slice .full (List.map Ty.av l)) := sliceA_all _ l und23 lay25 (fun x => by simp)
@[simp] theorem sls23 (tag : Tag) (l : List Ty) (a b : Int) : sliceA Tryz.prog 23 (.slice tag (List.map Ty.av l)) (some (.sc (.int .i64 a))) (some (.sc (.int .i64 b))) none = (lslice l a b).map fun r => .slice .frz (List.map Ty.av r) := sliceA_lst _ l und23 lay25 (fun x => by simp)
@[simp] theorem slsL23 (tag : Tag) (l : List Ty) (a : Int) : sliceA Tryz.prog 23 (.slice tag (List.map Ty.av l)) (some (.sc (.int .i64 a))) none none = (lslice l a (llen l)).map fun r => .slice .frz (List.map Ty.av r) := sliceA_lstL _ l und23 lay25 (fun x => by simp)
@[simp] theorem slsH23 (tag : Tag) (l : List Ty) (b : Int) : sliceA Tryz.prog 23 (.slice tag (List.map Ty.av l)) none (some (.sc (.int .i64 b))) none = (lslice l 0 b).map fun r => .slice .frz (List.map Ty.av r) := sliceA_lstH _ l und23 lay25 (fun x => by simp)
@[simp] theorem slall26 (tag : Tag) (l : List Tm) : sliceA Tryz.prog 26 (.slice tag (List.map Tm.av l)) none (some (.sc (.int .i64 (llen l)))) (some (.sc (.int .i64 (llen l)))) = some (.slice .full (List.map Tm.av l)) := sliceA_all _ l und26 lay44 (fun x => by simp)
@[simp] theorem sls26 (tag : Tag) (l : List Tm) (a b : Int) : sliceA Tryz.prog 26 (.slice tag (List.map Tm.av l)) (some (.sc (.int .i64 a))) (some (.sc (.int .i64 b))) none = (lslice l a b).map fun r => .slice .frz (List.map Tm.av r) := sliceA_lst _ l und26 lay44 (fun x => by simp)
@[simp] theorem slsL26 (tag : Tag) (l : List Tm) (a : Int) : sliceA Tryz.prog 26 (.slice tag (List.map Tm.av l)) (some (.sc (.int .i64 a))) none none = (lslice l a (llen l)).map fun r => .slice .frz (List.map Tm.av r) := sliceA_lstL _ l und26 lay44 (fun x => by simp)
@[simp] theorem slsH26 (tag : Tag) (l : List Tm) (b : Int) : sliceA Tryz.prog 26 (.slice tag (List.map Tm.av l)) none (some (.sc (.int .i64 b))) none = (lslice l 0 b).map fun r => .slice .frz (List.map Tm.av r) := sliceA_lstH _ l und26 lay44 (fun x => by simp)
@[simp] theorem slall27 (tag : Tag) (l : List Fm) : sliceA Tryz.prog 27 (.slice tag (List.map Fm.av l)) none (some (.sc (.int .i64 (llen l)))) (some (.sc (.int .i64 (llen l)))) = some (.slice .full (List.map Fm.av l)) := sliceA_all _ l und27 lay29 (fun x => by simp)
@[simp] theorem sls27 (tag : Tag) (l : List Fm) (a b : Int) : sliceA Tryz.prog 27 (.slice tag (List.map Fm.av l)) (some (.sc (.int .i64 a))) (some (.sc (.int .i64 b))) none = (lslice l a b).map fun r => .slice .frz (List.map Fm.av r) := sliceA_lst _ l und27 lay29 (fun x => by simp)
@[simp] theorem slsL27 (tag : Tag) (l : List Fm) (a : Int) : sliceA Tryz.prog 27 (.slice tag (List.map Fm.av l)) (some (.sc (.int .i64 a))) none none = (lslice l a (llen l)).map fun r => .slice .frz (List.map Fm.av r) := sliceA_lstL _ l und27 lay29 (fun x => by simp)
@[simp] theorem slsH27 (tag : Tag) (l : List Fm) (b : Int) : sliceA Tryz.prog 27 (.slice tag (List.map Fm.av l)) none (some (.sc (.int .i64 b))) none = (lslice l 0 b).map fun r => .slice .frz (List.map Fm.av r) := sliceA_lstH _ l und27 lay29 (fun x => by simp)
@[simp] theorem tab0 (a : Int) : indexAddrA Tryz.prog 128 (.rptr (.agg (List.map (fun n => AV.sc (Value.int .i64 n)) tree_arities))) (.sc (.int .i64 a)) = (lget tree_arities a).map fun x => .rptr (.sc (.int .i64 x)) := indexAddrA_tab und128 lay3 rfl
def Does97 {S : Type} (T : Tabs) (g : Nat) (cap : List AV) (st : S → Heap) (w : (S → Tm → Int → Option (Tm × S))) : Prop :=
  ∀ (X : Heap) (s : S) (x0 : Tm) (x1 : Int) (y0 : Tm) (s' : S), w s x0 x1 = some (y0, s') → ACall Tryz.prog T g ([Tm.av x0, sI x1] ++ cap) (st s ++ X) (Tm.av y0) (st s' ++ X)
theorem Does97.ext {S : Type} {T : Tabs} {g : Nat} {cap : List AV} {st : S → Heap} {w : (S → Tm → Int → Option (Tm × S))} (h : Does97 T g cap st w) {Y : Heap} : Does97 T g cap (fun s => st s ++ Y) w := fun X s x0 x1 y0 s' hw => by
  have := h (Y ++ X) s x0 x1 y0 s' hw
  rwa [← List.append_assoc, ← List.append_assoc] at this
theorem Does97.at0 {S : Type} {T : Tabs} {g : Nat} {cap : List AV} {st : S → Heap} {w : (S → Tm → Int → Option (Tm × S))} (h : Does97 T g cap st w) {s : S} {x0 : Tm} {x1 : Int} {y0 : Tm} {s' : S} (hw : w s x0 x1 = some (y0, s')) : ACall Tryz.prog T g ([Tm.av x0, sI x1] ++ cap) (st s) (Tm.av y0) (st s') := by
  have := h [] s x0 x1 y0 s' hw
  rwa [List.append_nil, List.append_nil] at this
def Does117 {S : Type} (T : Tabs) (g : Nat) (cap : List AV) (st : S → Heap) (w : (S → Tm → Int → Option (S))) : Prop :=
  ∀ (X : Heap) (s : S) (x0 : Tm) (x1 : Int) (s' : S), w s x0 x1 = some s' → ACall Tryz.prog T g ([Tm.av x0, sI x1] ++ cap) (st s ++ X) (AV.tuple []) (st s' ++ X)
theorem Does117.ext {S : Type} {T : Tabs} {g : Nat} {cap : List AV} {st : S → Heap} {w : (S → Tm → Int → Option (S))} (h : Does117 T g cap st w) {Y : Heap} : Does117 T g cap (fun s => st s ++ Y) w := fun X s x0 x1 s' hw => by
  have := h (Y ++ X) s x0 x1 s' hw
  rwa [← List.append_assoc, ← List.append_assoc] at this
theorem Does117.at0 {S : Type} {T : Tabs} {g : Nat} {cap : List AV} {st : S → Heap} {w : (S → Tm → Int → Option (S))} (h : Does117 T g cap st w) {s : S} {x0 : Tm} {x1 : Int} {s' : S} (hw : w s x0 x1 = some s') : ACall Tryz.prog T g ([Tm.av x0, sI x1] ++ cap) (st s) (AV.tuple []) (st s') := by
  have := h [] s x0 x1 s' hw
  rwa [List.append_nil, List.append_nil] at this
def Does120 {S : Type} (T : Tabs) (g : Nat) (cap : List AV) (st : S → Heap) (w : (S → Int → Int → Option (S))) : Prop :=
  ∀ (X : Heap) (s : S) (x0 : Int) (x1 : Int) (s' : S), w s x0 x1 = some s' → ACall Tryz.prog T g ([sI x0, sI x1] ++ cap) (st s ++ X) (AV.tuple []) (st s' ++ X)
theorem Does120.ext {S : Type} {T : Tabs} {g : Nat} {cap : List AV} {st : S → Heap} {w : (S → Int → Int → Option (S))} (h : Does120 T g cap st w) {Y : Heap} : Does120 T g cap (fun s => st s ++ Y) w := fun X s x0 x1 s' hw => by
  have := h (Y ++ X) s x0 x1 s' hw
  rwa [← List.append_assoc, ← List.append_assoc] at this
theorem Does120.at0 {S : Type} {T : Tabs} {g : Nat} {cap : List AV} {st : S → Heap} {w : (S → Int → Int → Option (S))} (h : Does120 T g cap st w) {s : S} {x0 : Int} {x1 : Int} {s' : S} (hw : w s x0 x1 = some s') : ACall Tryz.prog T g ([sI x0, sI x1] ++ cap) (st s) (AV.tuple []) (st s') := by
  have := h [] s x0 x1 s' hw
  rwa [List.append_nil, List.append_nil] at this
def Does122 {S : Type} (T : Tabs) (g : Nat) (cap : List AV) (st : S → Heap) (w : (S → Int → Int → Option (Tm × S))) : Prop :=
  ∀ (X : Heap) (s : S) (x0 : Int) (x1 : Int) (y0 : Tm) (s' : S), w s x0 x1 = some (y0, s') → ACall Tryz.prog T g ([sI x0, sI x1] ++ cap) (st s ++ X) (Tm.av y0) (st s' ++ X)
theorem Does122.ext {S : Type} {T : Tabs} {g : Nat} {cap : List AV} {st : S → Heap} {w : (S → Int → Int → Option (Tm × S))} (h : Does122 T g cap st w) {Y : Heap} : Does122 T g cap (fun s => st s ++ Y) w := fun X s x0 x1 y0 s' hw => by
  have := h (Y ++ X) s x0 x1 y0 s' hw
  rwa [← List.append_assoc, ← List.append_assoc] at this
theorem Does122.at0 {S : Type} {T : Tabs} {g : Nat} {cap : List AV} {st : S → Heap} {w : (S → Int → Int → Option (Tm × S))} (h : Does122 T g cap st w) {s : S} {x0 : Int} {x1 : Int} {y0 : Tm} {s' : S} (hw : w s x0 x1 = some (y0, s')) : ACall Tryz.prog T g ([sI x0, sI x1] ++ cap) (st s) (Tm.av y0) (st s') := by
  have := h [] s x0 x1 y0 s' hw
  rwa [List.append_nil, List.append_nil] at this
end Go.Proofs.YtanjokijgbgcpaaGreatDoor
