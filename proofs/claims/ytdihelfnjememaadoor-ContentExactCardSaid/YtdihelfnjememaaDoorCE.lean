/- How values of the models stand for the program's. -/
import Derived.Test.YtdihelfnjememaaDoorProg
import Derived.Test.YtdihelfnjememaaDoorChecked
import Derived.Test.YtdihelfnjememaaDoorStep
import Derived.Test.YtdihelfnjememaaDoorCT
set_option linter.unusedSimpArgs false
set_option linter.unusedVariables false
namespace Go.Proofs.YtdihelfnjememaaDoor
open Go Go.Abs Go.Mdl

theorem mixed : Tryd.prog.follows .mixedOrders = true := by kernel_rfl

end Go.Proofs.YtdihelfnjememaaDoor
namespace Go.Mdl
open Go Go.Abs
mutual
def Ty.av : Ty → AV
  | .mk kind args => .agg [AV.sc (.int .i64 kind), AV.slice .frz (Ty.avs args)]
def Ty.avs : List Ty → List AV
  | [] => []
  | x :: l => x.av :: Ty.avs l
end
theorem Ty.avs_eq (l : List Ty) : Ty.avs l = l.map Ty.av := by
  induction l with
  | nil => rfl
  | cons x l ih => simp [Ty.avs, ih]
theorem Ty.av_mk (kind : Int) (args : (List Ty)) : (Ty.mk kind args).av = .agg [AV.sc (.int .i64 kind), AV.slice .frz (List.map Ty.av args)] := by rw [Ty.av]; simp only [Ty.avs_eq]
theorem Ty.av_eq (x : Ty) : x.av = .agg [AV.sc (.int .i64 x.kind), AV.slice .frz (List.map Ty.av x.args)] := by cases x; exact Ty.av_mk _ _
@[simp] theorem Ty.cells_av (x : Ty) : x.av.cells = [AV.sc (.int .i64 x.kind), AV.slice .frz (List.map Ty.av x.args)] := by rw [Ty.av_eq]; rfl
@[simp] theorem Ty.nt_av (x : Ty) : notTuple x.av = true := by rw [Ty.av_eq]; rfl
@[simp] theorem Ty.norm_av (x : Ty) : x.av.norm = x.av := by rw [Ty.av_eq]; rfl
@[simp] theorem Ty.ncell_av (x : Ty) : x.av.ncell = x.av := by rw [Ty.av_eq]; rfl
@[simp] theorem Ty.agg0 (c0 : Int) (c1 : (List Ty)) : AV.agg [AV.sc (.int .i64 c0), AV.slice .frz (List.map Ty.av c1)] = Ty.av (Ty.mk c0 c1) := by rw [Ty.av_mk] <;> rfl
@[simp] theorem Ty.agg1 (c0 : Int) : AV.agg [AV.sc (.int .i64 c0), AV.slice .frz []] = Ty.av (Ty.mk c0 []) := by rw [Ty.av_mk] <;> rfl
mutual
def Tm.av : Tm → AV
  | .mk kind index typeF args => .agg [AV.sc (.int .i64 kind), AV.sc (.int .i64 index), AV.sc (.int .i64 typeF.kind), AV.slice .frz (List.map Ty.av typeF.args), AV.slice .frz (Tm.avs args)]
def Tm.avs : List Tm → List AV
  | [] => []
  | x :: l => x.av :: Tm.avs l
end
theorem Tm.avs_eq (l : List Tm) : Tm.avs l = l.map Tm.av := by
  induction l with
  | nil => rfl
  | cons x l ih => simp [Tm.avs, ih]
theorem Tm.av_mk (kind : Int) (index : Int) (typeF : Ty) (args : (List Tm)) : (Tm.mk kind index typeF args).av = .agg [AV.sc (.int .i64 kind), AV.sc (.int .i64 index), AV.sc (.int .i64 typeF.kind), AV.slice .frz (List.map Ty.av typeF.args), AV.slice .frz (List.map Tm.av args)] := by rw [Tm.av]; simp only [Tm.avs_eq]
theorem Tm.av_eq (x : Tm) : x.av = .agg [AV.sc (.int .i64 x.kind), AV.sc (.int .i64 x.index), AV.sc (.int .i64 x.typeF.kind), AV.slice .frz (List.map Ty.av x.typeF.args), AV.slice .frz (List.map Tm.av x.args)] := by cases x; exact Tm.av_mk _ _ _ _
@[simp] theorem Tm.cells_av (x : Tm) : x.av.cells = [AV.sc (.int .i64 x.kind), AV.sc (.int .i64 x.index), AV.sc (.int .i64 x.typeF.kind), AV.slice .frz (List.map Ty.av x.typeF.args), AV.slice .frz (List.map Tm.av x.args)] := by rw [Tm.av_eq]; rfl
@[simp] theorem Tm.nt_av (x : Tm) : notTuple x.av = true := by rw [Tm.av_eq]; rfl
@[simp] theorem Tm.norm_av (x : Tm) : x.av.norm = x.av := by rw [Tm.av_eq]; rfl
@[simp] theorem Tm.ncell_av (x : Tm) : x.av.ncell = x.av := by rw [Tm.av_eq]; rfl
@[simp] theorem Tm.agg00 (c0 : Int) (c1 : Int) (c2 : Int) (c3 : (List Ty)) (c4 : (List Tm)) : AV.agg [AV.sc (.int .i64 c0), AV.sc (.int .i64 c1), AV.sc (.int .i64 c2), AV.slice .frz (List.map Ty.av c3), AV.slice .frz (List.map Tm.av c4)] = Tm.av (Tm.mk c0 c1 (Ty.mk c2 c3) c4) := by rw [Tm.av_mk] <;> rfl
@[simp] theorem Tm.agg01 (c0 : Int) (c1 : Int) (c2 : Int) (c3 : (List Ty)) : AV.agg [AV.sc (.int .i64 c0), AV.sc (.int .i64 c1), AV.sc (.int .i64 c2), AV.slice .frz (List.map Ty.av c3), AV.slice .frz []] = Tm.av (Tm.mk c0 c1 (Ty.mk c2 c3) []) := by rw [Tm.av_mk] <;> rfl
@[simp] theorem Tm.agg10 (c0 : Int) (c1 : Int) (c2 : Int) (c4 : (List Tm)) : AV.agg [AV.sc (.int .i64 c0), AV.sc (.int .i64 c1), AV.sc (.int .i64 c2), AV.slice .frz [], AV.slice .frz (List.map Tm.av c4)] = Tm.av (Tm.mk c0 c1 (Ty.mk c2 []) c4) := by rw [Tm.av_mk] <;> rfl
@[simp] theorem Tm.agg11 (c0 : Int) (c1 : Int) (c2 : Int) : AV.agg [AV.sc (.int .i64 c0), AV.sc (.int .i64 c1), AV.sc (.int .i64 c2), AV.slice .frz [], AV.slice .frz []] = Tm.av (Tm.mk c0 c1 (Ty.mk c2 []) []) := by rw [Tm.av_mk] <;> rfl
mutual
def Fm.av : Fm → AV
  | .mk kind typeF terms args => .agg [AV.sc (.int .i64 kind), AV.sc (.int .i64 typeF.kind), AV.slice .frz (List.map Ty.av typeF.args), AV.slice .frz (List.map Tm.av terms), AV.slice .frz (Fm.avs args)]
def Fm.avs : List Fm → List AV
  | [] => []
  | x :: l => x.av :: Fm.avs l
end
theorem Fm.avs_eq (l : List Fm) : Fm.avs l = l.map Fm.av := by
  induction l with
  | nil => rfl
  | cons x l ih => simp [Fm.avs, ih]
theorem Fm.av_mk (kind : Int) (typeF : Ty) (terms : (List Tm)) (args : (List Fm)) : (Fm.mk kind typeF terms args).av = .agg [AV.sc (.int .i64 kind), AV.sc (.int .i64 typeF.kind), AV.slice .frz (List.map Ty.av typeF.args), AV.slice .frz (List.map Tm.av terms), AV.slice .frz (List.map Fm.av args)] := by rw [Fm.av]; simp only [Fm.avs_eq]
theorem Fm.av_eq (x : Fm) : x.av = .agg [AV.sc (.int .i64 x.kind), AV.sc (.int .i64 x.typeF.kind), AV.slice .frz (List.map Ty.av x.typeF.args), AV.slice .frz (List.map Tm.av x.terms), AV.slice .frz (List.map Fm.av x.args)] := by cases x; exact Fm.av_mk _ _ _ _
@[simp] theorem Fm.cells_av (x : Fm) : x.av.cells = [AV.sc (.int .i64 x.kind), AV.sc (.int .i64 x.typeF.kind), AV.slice .frz (List.map Ty.av x.typeF.args), AV.slice .frz (List.map Tm.av x.terms), AV.slice .frz (List.map Fm.av x.args)] := by rw [Fm.av_eq]; rfl
@[simp] theorem Fm.nt_av (x : Fm) : notTuple x.av = true := by rw [Fm.av_eq]; rfl
@[simp] theorem Fm.norm_av (x : Fm) : x.av.norm = x.av := by rw [Fm.av_eq]; rfl
@[simp] theorem Fm.ncell_av (x : Fm) : x.av.ncell = x.av := by rw [Fm.av_eq]; rfl
@[simp] theorem Fm.agg000 (c0 : Int) (c1 : Int) (c2 : (List Ty)) (c3 : (List Tm)) (c4 : (List Fm)) : AV.agg [AV.sc (.int .i64 c0), AV.sc (.int .i64 c1), AV.slice .frz (List.map Ty.av c2), AV.slice .frz (List.map Tm.av c3), AV.slice .frz (List.map Fm.av c4)] = Fm.av (Fm.mk c0 (Ty.mk c1 c2) c3 c4) := by rw [Fm.av_mk] <;> rfl
@[simp] theorem Fm.agg001 (c0 : Int) (c1 : Int) (c2 : (List Ty)) (c3 : (List Tm)) : AV.agg [AV.sc (.int .i64 c0), AV.sc (.int .i64 c1), AV.slice .frz (List.map Ty.av c2), AV.slice .frz (List.map Tm.av c3), AV.slice .frz []] = Fm.av (Fm.mk c0 (Ty.mk c1 c2) c3 []) := by rw [Fm.av_mk] <;> rfl
@[simp] theorem Fm.agg010 (c0 : Int) (c1 : Int) (c2 : (List Ty)) (c4 : (List Fm)) : AV.agg [AV.sc (.int .i64 c0), AV.sc (.int .i64 c1), AV.slice .frz (List.map Ty.av c2), AV.slice .frz [], AV.slice .frz (List.map Fm.av c4)] = Fm.av (Fm.mk c0 (Ty.mk c1 c2) [] c4) := by rw [Fm.av_mk] <;> rfl
@[simp] theorem Fm.agg011 (c0 : Int) (c1 : Int) (c2 : (List Ty)) : AV.agg [AV.sc (.int .i64 c0), AV.sc (.int .i64 c1), AV.slice .frz (List.map Ty.av c2), AV.slice .frz [], AV.slice .frz []] = Fm.av (Fm.mk c0 (Ty.mk c1 c2) [] []) := by rw [Fm.av_mk] <;> rfl
@[simp] theorem Fm.agg100 (c0 : Int) (c1 : Int) (c3 : (List Tm)) (c4 : (List Fm)) : AV.agg [AV.sc (.int .i64 c0), AV.sc (.int .i64 c1), AV.slice .frz [], AV.slice .frz (List.map Tm.av c3), AV.slice .frz (List.map Fm.av c4)] = Fm.av (Fm.mk c0 (Ty.mk c1 []) c3 c4) := by rw [Fm.av_mk] <;> rfl
@[simp] theorem Fm.agg101 (c0 : Int) (c1 : Int) (c3 : (List Tm)) : AV.agg [AV.sc (.int .i64 c0), AV.sc (.int .i64 c1), AV.slice .frz [], AV.slice .frz (List.map Tm.av c3), AV.slice .frz []] = Fm.av (Fm.mk c0 (Ty.mk c1 []) c3 []) := by rw [Fm.av_mk] <;> rfl
@[simp] theorem Fm.agg110 (c0 : Int) (c1 : Int) (c4 : (List Fm)) : AV.agg [AV.sc (.int .i64 c0), AV.sc (.int .i64 c1), AV.slice .frz [], AV.slice .frz [], AV.slice .frz (List.map Fm.av c4)] = Fm.av (Fm.mk c0 (Ty.mk c1 []) [] c4) := by rw [Fm.av_mk] <;> rfl
@[simp] theorem Fm.agg111 (c0 : Int) (c1 : Int) : AV.agg [AV.sc (.int .i64 c0), AV.sc (.int .i64 c1), AV.slice .frz [], AV.slice .frz [], AV.slice .frz []] = Fm.av (Fm.mk c0 (Ty.mk c1 []) [] []) := by rw [Fm.av_mk] <;> rfl
def Sq.av (x : Sq) : AV := .agg [AV.slice .frz (List.map Ty.av x.types), AV.slice .frz (List.map Fm.av x.hyps)]
theorem Sq.av_mk (types : (List Ty)) (hyps : (List Fm)) : (Sq.mk types hyps).av = .agg [AV.slice .frz (List.map Ty.av types), AV.slice .frz (List.map Fm.av hyps)] := rfl
theorem Sq.av_eq (x : Sq) : x.av = .agg [AV.slice .frz (List.map Ty.av x.types), AV.slice .frz (List.map Fm.av x.hyps)] := by cases x; exact Sq.av_mk _ _
@[simp] theorem Sq.cells_av (x : Sq) : x.av.cells = [AV.slice .frz (List.map Ty.av x.types), AV.slice .frz (List.map Fm.av x.hyps)] := by rw [Sq.av_eq]; rfl
@[simp] theorem Sq.nt_av (x : Sq) : notTuple x.av = true := by rw [Sq.av_eq]; rfl
@[simp] theorem Sq.norm_av (x : Sq) : x.av.norm = x.av := by rw [Sq.av_eq]; rfl
@[simp] theorem Sq.ncell_av (x : Sq) : x.av.ncell = x.av := by rw [Sq.av_eq]; rfl
@[simp] theorem Sq.agg00 (c0 : (List Ty)) (c1 : (List Fm)) : AV.agg [AV.slice .frz (List.map Ty.av c0), AV.slice .frz (List.map Fm.av c1)] = Sq.av (Sq.mk c0 c1) := by rw [Sq.av_mk] <;> rfl
@[simp] theorem Sq.agg01 (c0 : (List Ty)) : AV.agg [AV.slice .frz (List.map Ty.av c0), AV.slice .frz []] = Sq.av (Sq.mk c0 []) := by rw [Sq.av_mk] <;> rfl
@[simp] theorem Sq.agg10 (c1 : (List Fm)) : AV.agg [AV.slice .frz [], AV.slice .frz (List.map Fm.av c1)] = Sq.av (Sq.mk [] c1) := by rw [Sq.av_mk] <;> rfl
@[simp] theorem Sq.agg11  : AV.agg [AV.slice .frz [], AV.slice .frz []] = Sq.av (Sq.mk [] []) := by rw [Sq.av_mk] <;> rfl
def Splay_Sum.av (x : Splay_Sum) : AV := .agg [AV.sc (.int .i64 x.n)]
theorem Splay_Sum.av_mk (n : Int) : (Splay_Sum.mk n).av = .agg [AV.sc (.int .i64 n)] := rfl
theorem Splay_Sum.av_eq (x : Splay_Sum) : x.av = .agg [AV.sc (.int .i64 x.n)] := by cases x; exact Splay_Sum.av_mk _
@[simp] theorem Splay_Sum.cells_av (x : Splay_Sum) : x.av.cells = [AV.sc (.int .i64 x.n)] := by rw [Splay_Sum.av_eq]; rfl
@[simp] theorem Splay_Sum.nt_av (x : Splay_Sum) : notTuple x.av = true := by rw [Splay_Sum.av_eq]; rfl
@[simp] theorem Splay_Sum.norm_av (x : Splay_Sum) : x.av.norm = x.av := by rw [Splay_Sum.av_eq]; rfl
@[simp] theorem Splay_Sum.ncell_av (x : Splay_Sum) : x.av.ncell = x.av := by rw [Splay_Sum.av_eq]; rfl
@[simp] theorem Splay_Sum.agg (c0 : Int) : AV.agg [AV.sc (.int .i64 c0)] = Splay_Sum.av (Splay_Sum.mk c0) := by rw [Splay_Sum.av_mk] <;> rfl
def Smk_Deck.av (x : Smk_Deck) : AV := .agg [AV.slice .frz (List.map (fun n => AV.sc (Value.int .i64 n)) x.l), AV.sc (.int .i64 x.atF)]
theorem Smk_Deck.av_mk (l : (List Int)) (atF : Int) : (Smk_Deck.mk l atF).av = .agg [AV.slice .frz (List.map (fun n => AV.sc (Value.int .i64 n)) l), AV.sc (.int .i64 atF)] := rfl
theorem Smk_Deck.av_eq (x : Smk_Deck) : x.av = .agg [AV.slice .frz (List.map (fun n => AV.sc (Value.int .i64 n)) x.l), AV.sc (.int .i64 x.atF)] := by cases x; exact Smk_Deck.av_mk _ _
@[simp] theorem Smk_Deck.cells_av (x : Smk_Deck) : x.av.cells = [AV.slice .frz (List.map (fun n => AV.sc (Value.int .i64 n)) x.l), AV.sc (.int .i64 x.atF)] := by rw [Smk_Deck.av_eq]; rfl
@[simp] theorem Smk_Deck.nt_av (x : Smk_Deck) : notTuple x.av = true := by rw [Smk_Deck.av_eq]; rfl
@[simp] theorem Smk_Deck.norm_av (x : Smk_Deck) : x.av.norm = x.av := by rw [Smk_Deck.av_eq]; rfl
@[simp] theorem Smk_Deck.ncell_av (x : Smk_Deck) : x.av.ncell = x.av := by rw [Smk_Deck.av_eq]; rfl
@[simp] theorem Smk_Deck.agg0 (c0 : (List Int)) (c1 : Int) : AV.agg [AV.slice .frz (List.map (fun n => AV.sc (Value.int .i64 n)) c0), AV.sc (.int .i64 c1)] = Smk_Deck.av (Smk_Deck.mk c0 c1) := by rw [Smk_Deck.av_mk] <;> rfl
@[simp] theorem Smk_Deck.agg1 (c1 : Int) : AV.agg [AV.slice .frz [], AV.sc (.int .i64 c1)] = Smk_Deck.av (Smk_Deck.mk [] c1) := by rw [Smk_Deck.av_mk] <;> rfl
end Go.Mdl
namespace Go.Proofs.YtdihelfnjememaaDoor
open Go Go.Abs Go.Mdl
@[simp] theorem lay3 : layOf Tryd.prog 3 = some (false, 1) := by kernel_rfl
@[simp] theorem zero3 : zeroA Tryd.prog 3 = some [.sc (.int .i64 0)] := by kernel_rfl
@[simp] theorem und3 : Tryd.prog.underlying 3 = some (.int .i64) := by kernel_rfl
@[simp] theorem lay4 : layOf Tryd.prog 4 = some (false, 1) := by kernel_rfl
@[simp] theorem zero4 : zeroA Tryd.prog 4 = some [.sc (.bool false)] := by kernel_rfl
@[simp] theorem und4 : Tryd.prog.underlying 4 = some .bool := by kernel_rfl
@[simp] theorem lay22 : layOf Tryd.prog 22 = some (false, 1) := by kernel_rfl
@[simp] theorem zero22 : zeroA Tryd.prog 22 = some [.slice .full []] := by kernel_rfl
@[simp] theorem ap22 : apOf Tryd.prog 22 = some (3, 1) := by kernel_rfl
@[simp] theorem und22 : Tryd.prog.underlying 22 = some (.slice 3) := by kernel_rfl
@[simp] theorem lay23 : layOf Tryd.prog 23 = some (false, 1) := by kernel_rfl
@[simp] theorem zero23 : zeroA Tryd.prog 23 = some [.slice .full []] := by kernel_rfl
@[simp] theorem ap23 : apOf Tryd.prog 23 = some (25, 2) := by kernel_rfl
@[simp] theorem und23 : Tryd.prog.underlying 23 = some (.slice 25) := by kernel_rfl
@[simp] theorem lay25 : layOf Tryd.prog 25 = some (true, 2) := by kernel_rfl
@[simp] theorem zagg25 : zaggA Tryd.prog 25 = some [.sc (.int .i64 0), .slice .full []] := by kernel_rfl
@[simp] theorem zero25 : zeroA Tryd.prog 25 = some [.sc (.int .i64 0), .slice .full []] := by kernel_rfl
@[simp] theorem field25_0 : fieldOf Tryd.prog 25 0 = some (0, 3) := by kernel_rfl
@[simp] theorem place25_0 : placeA Tryd.prog 25 0 = some (0, 1) := by kernel_rfl
@[simp] theorem field25_1 : fieldOf Tryd.prog 25 1 = some (1, 23) := by kernel_rfl
@[simp] theorem place25_1 : placeA Tryd.prog 25 1 = some (1, 1) := by kernel_rfl
@[simp] theorem Ty.fits_av25 (x : Ty) : fitsB Tryd.prog 25 x.av = true := by rw [Ty.av_eq, fits_agg, lay25]; rfl
@[simp] theorem lay26 : layOf Tryd.prog 26 = some (false, 1) := by kernel_rfl
@[simp] theorem zero26 : zeroA Tryd.prog 26 = some [.slice .full []] := by kernel_rfl
@[simp] theorem ap26 : apOf Tryd.prog 26 = some (62, 5) := by kernel_rfl
@[simp] theorem und26 : Tryd.prog.underlying 26 = some (.slice 62) := by kernel_rfl
@[simp] theorem lay27 : layOf Tryd.prog 27 = some (false, 1) := by kernel_rfl
@[simp] theorem zero27 : zeroA Tryd.prog 27 = some [.slice .full []] := by kernel_rfl
@[simp] theorem ap27 : apOf Tryd.prog 27 = some (29, 5) := by kernel_rfl
@[simp] theorem und27 : Tryd.prog.underlying 27 = some (.slice 29) := by kernel_rfl
@[simp] theorem lay29 : layOf Tryd.prog 29 = some (true, 5) := by kernel_rfl
@[simp] theorem zagg29 : zaggA Tryd.prog 29 = some [.sc (.int .i64 0), .sc (.int .i64 0), .slice .full [], .slice .full [], .slice .full []] := by kernel_rfl
@[simp] theorem zero29 : zeroA Tryd.prog 29 = some [.sc (.int .i64 0), .sc (.int .i64 0), .slice .full [], .slice .full [], .slice .full []] := by kernel_rfl
@[simp] theorem field29_0 : fieldOf Tryd.prog 29 0 = some (0, 3) := by kernel_rfl
@[simp] theorem place29_0 : placeA Tryd.prog 29 0 = some (0, 1) := by kernel_rfl
@[simp] theorem field29_1 : fieldOf Tryd.prog 29 1 = some (1, 25) := by kernel_rfl
@[simp] theorem place29_1 : placeA Tryd.prog 29 1 = some (1, 2) := by kernel_rfl
@[simp] theorem field29_2 : fieldOf Tryd.prog 29 2 = some (3, 26) := by kernel_rfl
@[simp] theorem place29_2 : placeA Tryd.prog 29 2 = some (3, 1) := by kernel_rfl
@[simp] theorem field29_3 : fieldOf Tryd.prog 29 3 = some (4, 27) := by kernel_rfl
@[simp] theorem place29_3 : placeA Tryd.prog 29 3 = some (4, 1) := by kernel_rfl
@[simp] theorem Fm.fits_av29 (x : Fm) : fitsB Tryd.prog 29 x.av = true := by rw [Fm.av_eq, fits_agg, lay29]; rfl
@[simp] theorem lay31 : layOf Tryd.prog 31 = some (true, 2) := by kernel_rfl
@[simp] theorem zagg31 : zaggA Tryd.prog 31 = some [.slice .full [], .slice .full []] := by kernel_rfl
@[simp] theorem zero31 : zeroA Tryd.prog 31 = some [.slice .full [], .slice .full []] := by kernel_rfl
@[simp] theorem field31_0 : fieldOf Tryd.prog 31 0 = some (0, 23) := by kernel_rfl
@[simp] theorem place31_0 : placeA Tryd.prog 31 0 = some (0, 1) := by kernel_rfl
@[simp] theorem field31_1 : fieldOf Tryd.prog 31 1 = some (1, 27) := by kernel_rfl
@[simp] theorem place31_1 : placeA Tryd.prog 31 1 = some (1, 1) := by kernel_rfl
@[simp] theorem Sq.fits_av31 (x : Sq) : fitsB Tryd.prog 31 x.av = true := by rw [Sq.av_eq, fits_agg, lay31]; rfl
@[simp] theorem lay35 : layOf Tryd.prog 35 = some (true, 1) := by kernel_rfl
@[simp] theorem zagg35 : zaggA Tryd.prog 35 = some [.sc (.int .i64 0)] := by kernel_rfl
@[simp] theorem zero35 : zeroA Tryd.prog 35 = some [.sc (.int .i64 0)] := by kernel_rfl
@[simp] theorem field35_0 : fieldOf Tryd.prog 35 0 = some (0, 3) := by kernel_rfl
@[simp] theorem place35_0 : placeA Tryd.prog 35 0 = some (0, 1) := by kernel_rfl
@[simp] theorem Splay_Sum.fits_av35 (x : Splay_Sum) : fitsB Tryd.prog 35 x.av = true := by rw [Splay_Sum.av_eq, fits_agg, lay35]; rfl
@[simp] theorem lay43 : layOf Tryd.prog 43 = some (false, 1) := by kernel_rfl
@[simp] theorem zero43 : zeroA Tryd.prog 43 = some [.sc (.int .i64 0)] := by kernel_rfl
@[simp] theorem und43 : Tryd.prog.underlying 43 = some (.int .i64) := by kernel_rfl
@[simp] theorem lay47 : layOf Tryd.prog 47 = some (false, 1) := by kernel_rfl
@[simp] theorem zero47 : zeroA Tryd.prog 47 = some [.slice .full []] := by kernel_rfl
@[simp] theorem ap47 : apOf Tryd.prog 47 = some (31, 2) := by kernel_rfl
@[simp] theorem und47 : Tryd.prog.underlying 47 = some (.slice 31) := by kernel_rfl
@[simp] theorem lay62 : layOf Tryd.prog 62 = some (true, 5) := by kernel_rfl
@[simp] theorem zagg62 : zaggA Tryd.prog 62 = some [.sc (.int .i64 0), .sc (.int .i64 0), .sc (.int .i64 0), .slice .full [], .slice .full []] := by kernel_rfl
@[simp] theorem zero62 : zeroA Tryd.prog 62 = some [.sc (.int .i64 0), .sc (.int .i64 0), .sc (.int .i64 0), .slice .full [], .slice .full []] := by kernel_rfl
@[simp] theorem field62_0 : fieldOf Tryd.prog 62 0 = some (0, 3) := by kernel_rfl
@[simp] theorem place62_0 : placeA Tryd.prog 62 0 = some (0, 1) := by kernel_rfl
@[simp] theorem field62_1 : fieldOf Tryd.prog 62 1 = some (1, 3) := by kernel_rfl
@[simp] theorem place62_1 : placeA Tryd.prog 62 1 = some (1, 1) := by kernel_rfl
@[simp] theorem field62_2 : fieldOf Tryd.prog 62 2 = some (2, 25) := by kernel_rfl
@[simp] theorem place62_2 : placeA Tryd.prog 62 2 = some (2, 2) := by kernel_rfl
@[simp] theorem field62_3 : fieldOf Tryd.prog 62 3 = some (4, 26) := by kernel_rfl
@[simp] theorem place62_3 : placeA Tryd.prog 62 3 = some (4, 1) := by kernel_rfl
@[simp] theorem Tm.fits_av62 (x : Tm) : fitsB Tryd.prog 62 x.av = true := by rw [Tm.av_eq, fits_agg, lay62]; rfl
@[simp] theorem lay73 : layOf Tryd.prog 73 = some (true, 2) := by kernel_rfl
@[simp] theorem zagg73 : zaggA Tryd.prog 73 = some [.slice .full [], .sc (.int .i64 0)] := by kernel_rfl
@[simp] theorem zero73 : zeroA Tryd.prog 73 = some [.slice .full [], .sc (.int .i64 0)] := by kernel_rfl
@[simp] theorem field73_0 : fieldOf Tryd.prog 73 0 = some (0, 22) := by kernel_rfl
@[simp] theorem place73_0 : placeA Tryd.prog 73 0 = some (0, 1) := by kernel_rfl
@[simp] theorem field73_1 : fieldOf Tryd.prog 73 1 = some (1, 3) := by kernel_rfl
@[simp] theorem place73_1 : placeA Tryd.prog 73 1 = some (1, 1) := by kernel_rfl
@[simp] theorem Smk_Deck.fits_av73 (x : Smk_Deck) : fitsB Tryd.prog 73 x.av = true := by rw [Smk_Deck.av_eq, fits_agg, lay73]; rfl
@[simp] theorem lay124 : layOf Tryd.prog 124 = some (true, 14) := by kernel_rfl
@[simp] theorem zagg124 : zaggA Tryd.prog 124 = some [.sc (.int .i64 0), .sc (.int .i64 0), .sc (.int .i64 0), .sc (.int .i64 0), .sc (.int .i64 0), .sc (.int .i64 0), .sc (.int .i64 0), .sc (.int .i64 0), .sc (.int .i64 0), .sc (.int .i64 0), .sc (.int .i64 0), .sc (.int .i64 0), .sc (.int .i64 0), .sc (.int .i64 0)] := by kernel_rfl
@[simp] theorem zero124 : zeroA Tryd.prog 124 = some [.sc (.int .i64 0), .sc (.int .i64 0), .sc (.int .i64 0), .sc (.int .i64 0), .sc (.int .i64 0), .sc (.int .i64 0), .sc (.int .i64 0), .sc (.int .i64 0), .sc (.int .i64 0), .sc (.int .i64 0), .sc (.int .i64 0), .sc (.int .i64 0), .sc (.int .i64 0), .sc (.int .i64 0)] := by kernel_rfl
@[simp] theorem und124 : Tryd.prog.underlying 124 = some (.array 14 3) := by kernel_rfl
@[simp] theorem tab0 (a : Int) : indexAddrA Tryd.prog 124 (.rptr (.agg (List.map (fun n => AV.sc (Value.int .i64 n)) tree_arities))) (.sc (.int .i64 a)) = (lget tree_arities a).map fun x => .rptr (.sc (.int .i64 x)) := indexAddrA_tab und124 lay3 rfl
end Go.Proofs.YtdihelfnjememaaDoor
