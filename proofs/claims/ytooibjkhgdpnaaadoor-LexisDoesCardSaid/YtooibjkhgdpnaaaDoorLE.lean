/- How values of the models stand for the program's. -/
import Derived.Test.YtooibjkhgdpnaaaDoorProg
import Derived.Test.YtooibjkhgdpnaaaDoorChecked
import Derived.Test.YtooibjkhgdpnaaaDoorLSh
import Derived.Test.YtooibjkhgdpnaaaDoorLib
import Derived.Test.YtooibjkhgdpnaaaDoorLift6
import Derived.Test.YtooibjkhgdpnaaaDoorBld
import Derived.WalkKit
import Derived.BigCall
import Derived.Test.YtooibjkhgdpnaaaDoorW
import Derived.Test.YtooibjkhgdpnaaaDoorLT
set_option linter.unusedSimpArgs false
set_option linter.unusedVariables false
namespace Go.Proofs.YtooibjkhgdpnaaaDoor
open Go Go.Abs Go.Mdl

theorem mixed : Tryd.prog.follows .mixedOrders = true := by kernel_rfl

end Go.Proofs.YtooibjkhgdpnaaaDoor
namespace Go.Mdl
open Go Go.Abs
def Tkn.av (x : Tkn) : AV := .agg [AV.sc (.int .i64 x.kind), AV.sc (.int .i64 x.num), AV.sc (.int .i64 x.atF), AV.sc (.string x.text)]
theorem Tkn.av_mk (kind : Int) (num : Int) (atF : Int) (text : ByteArray) : (Tkn.mk kind num atF text).av = .agg [AV.sc (.int .i64 kind), AV.sc (.int .i64 num), AV.sc (.int .i64 atF), AV.sc (.string text)] := rfl
@[simp] theorem Tkn.low_av (k : Nat) (x : Tkn) : x.av.low k = true := by
  cases x
  rw [Tkn.av_mk]
  simp [AV.low, AV.lowL]
@[simp] theorem Tkn.low_avs (k : Nat) (l : List Tkn) : AV.lowL k (l.map Tkn.av) = true := by
  rw [AV.lowL_iff]
  intro x hx
  obtain ⟨y, _, rfl⟩ := List.mem_map.1 hx
  exact Tkn.low_av k y
theorem Tkn.av_eq (x : Tkn) : x.av = .agg [AV.sc (.int .i64 x.kind), AV.sc (.int .i64 x.num), AV.sc (.int .i64 x.atF), AV.sc (.string x.text)] := by cases x; exact Tkn.av_mk _ _ _ _
@[simp] theorem Tkn.cells_av (x : Tkn) : x.av.cells = [AV.sc (.int .i64 x.kind), AV.sc (.int .i64 x.num), AV.sc (.int .i64 x.atF), AV.sc (.string x.text)] := by rw [Tkn.av_eq]; rfl
@[simp] theorem Tkn.nt_av (x : Tkn) : notTuple x.av = true := by rw [Tkn.av_eq]; rfl
@[simp] theorem Tkn.norm_av (x : Tkn) : x.av.norm = x.av := by rw [Tkn.av_eq]; rfl
@[simp] theorem Tkn.ncell_av (x : Tkn) : x.av.ncell = x.av := by rw [Tkn.av_eq]; rfl
@[simp] theorem Tkn.agg (c0 : Int) (c1 : Int) (c2 : Int) (c3 : ByteArray) : AV.agg [AV.sc (.int .i64 c0), AV.sc (.int .i64 c1), AV.sc (.int .i64 c2), AV.sc (.string c3)] = Tkn.av (Tkn.mk c0 c1 c2 c3) := by rw [Tkn.av_mk] <;> rfl
def Smk_Deck.av (x : Smk_Deck) : AV := .agg [AV.slice .frz (List.map (fun n => AV.sc (Value.int .i64 n)) x.l), AV.sc (.int .i64 x.atF)]
theorem Smk_Deck.av_mk (l : (List Int)) (atF : Int) : (Smk_Deck.mk l atF).av = .agg [AV.slice .frz (List.map (fun n => AV.sc (Value.int .i64 n)) l), AV.sc (.int .i64 atF)] := rfl
@[simp] theorem Smk_Deck.low_av (k : Nat) (x : Smk_Deck) : x.av.low k = true := by
  cases x
  rw [Smk_Deck.av_mk]
  simp [AV.low, AV.lowL]
@[simp] theorem Smk_Deck.low_avs (k : Nat) (l : List Smk_Deck) : AV.lowL k (l.map Smk_Deck.av) = true := by
  rw [AV.lowL_iff]
  intro x hx
  obtain ⟨y, _, rfl⟩ := List.mem_map.1 hx
  exact Smk_Deck.low_av k y
theorem Smk_Deck.av_eq (x : Smk_Deck) : x.av = .agg [AV.slice .frz (List.map (fun n => AV.sc (Value.int .i64 n)) x.l), AV.sc (.int .i64 x.atF)] := by cases x; exact Smk_Deck.av_mk _ _
@[simp] theorem Smk_Deck.cells_av (x : Smk_Deck) : x.av.cells = [AV.slice .frz (List.map (fun n => AV.sc (Value.int .i64 n)) x.l), AV.sc (.int .i64 x.atF)] := by rw [Smk_Deck.av_eq]; rfl
@[simp] theorem Smk_Deck.nt_av (x : Smk_Deck) : notTuple x.av = true := by rw [Smk_Deck.av_eq]; rfl
@[simp] theorem Smk_Deck.norm_av (x : Smk_Deck) : x.av.norm = x.av := by rw [Smk_Deck.av_eq]; rfl
@[simp] theorem Smk_Deck.ncell_av (x : Smk_Deck) : x.av.ncell = x.av := by rw [Smk_Deck.av_eq]; rfl
@[simp] theorem Smk_Deck.agg0 (c0 : (List Int)) (c1 : Int) : AV.agg [AV.slice .frz (List.map (fun n => AV.sc (Value.int .i64 n)) c0), AV.sc (.int .i64 c1)] = Smk_Deck.av (Smk_Deck.mk c0 c1) := by rw [Smk_Deck.av_mk] <;> rfl
@[simp] theorem Smk_Deck.agg1 (c1 : Int) : AV.agg [AV.slice .frz [], AV.sc (.int .i64 c1)] = Smk_Deck.av (Smk_Deck.mk [] c1) := by rw [Smk_Deck.av_mk] <;> rfl
end Go.Mdl
namespace Go.Proofs.YtooibjkhgdpnaaaDoor
open Go Go.Abs Go.Mdl
@[simp] theorem lay3 : layOf Tryd.prog 3 = some (false, 1) := by kernel_rfl
@[simp] theorem zero3 : zeroA Tryd.prog 3 = some [.sc (.int .i64 0)] := by kernel_rfl
@[simp] theorem und3 : Tryd.prog.underlying 3 = some (.int .i64) := by kernel_rfl
@[simp] theorem lay4 : layOf Tryd.prog 4 = some (false, 1) := by kernel_rfl
@[simp] theorem zero4 : zeroA Tryd.prog 4 = some [.sc (.bool false)] := by kernel_rfl
@[simp] theorem und4 : Tryd.prog.underlying 4 = some .bool := by kernel_rfl
@[simp] theorem lay5 : layOf Tryd.prog 5 = some (false, 1) := by kernel_rfl
@[simp] theorem zero5 : zeroA Tryd.prog 5 = some [.sc (.int .u8 0)] := by kernel_rfl
@[simp] theorem und5 : Tryd.prog.underlying 5 = some (.int .u8) := by kernel_rfl
@[simp] theorem lay9 : layOf Tryd.prog 9 = some (false, 1) := by kernel_rfl
@[simp] theorem zero9 : zeroA Tryd.prog 9 = some [.sc (.string ByteArray.empty)] := by kernel_rfl
@[simp] theorem und9 : Tryd.prog.underlying 9 = some .string := by kernel_rfl
@[simp] theorem lay21 : layOf Tryd.prog 21 = some (false, 1) := by kernel_rfl
@[simp] theorem zero21 : zeroA Tryd.prog 21 = some [.sc (.int .i32 0)] := by kernel_rfl
@[simp] theorem und21 : Tryd.prog.underlying 21 = some (.int .i32) := by kernel_rfl
@[simp] theorem lay22 : layOf Tryd.prog 22 = some (false, 1) := by kernel_rfl
@[simp] theorem zero22 : zeroA Tryd.prog 22 = some [.slice .full []] := by kernel_rfl
@[simp] theorem ap22 : apOf Tryd.prog 22 = some (3, 1) := by kernel_rfl
@[simp] theorem und22 : Tryd.prog.underlying 22 = some (.slice 3) := by kernel_rfl
@[simp] theorem lay28 : layOf Tryd.prog 28 = some (false, 1) := by kernel_rfl
@[simp] theorem zero28 : zeroA Tryd.prog 28 = some [.slice .full []] := by kernel_rfl
@[simp] theorem ap28 : apOf Tryd.prog 28 = some (5, 1) := by kernel_rfl
@[simp] theorem und28 : Tryd.prog.underlying 28 = some (.slice 5) := by kernel_rfl
@[simp] theorem lay29 : layOf Tryd.prog 29 = some (false, 1) := by kernel_rfl
@[simp] theorem zero29 : zeroA Tryd.prog 29 = some [.slice .full []] := by kernel_rfl
@[simp] theorem ap29 : apOf Tryd.prog 29 = some (9, 1) := by kernel_rfl
@[simp] theorem und29 : Tryd.prog.underlying 29 = some (.slice 9) := by kernel_rfl
@[simp] theorem lay30 : layOf Tryd.prog 30 = some (false, 1) := by kernel_rfl
@[simp] theorem zero30 : zeroA Tryd.prog 30 = some [.slice .full []] := by kernel_rfl
@[simp] theorem ap30 : apOf Tryd.prog 30 = some (35, 4) := by kernel_rfl
@[simp] theorem und30 : Tryd.prog.underlying 30 = some (.slice 35) := by kernel_rfl
@[simp] theorem lay31 : layOf Tryd.prog 31 = some (false, 1) := by kernel_rfl
@[simp] theorem zero31 : zeroA Tryd.prog 31 = some [.sc (.int .i64 0)] := by kernel_rfl
@[simp] theorem und31 : Tryd.prog.underlying 31 = some (.int .i64) := by kernel_rfl
@[simp] theorem lay35 : layOf Tryd.prog 35 = some (true, 4) := by kernel_rfl
@[simp] theorem zagg35 : zaggA Tryd.prog 35 = some [.sc (.int .i64 0), .sc (.int .i64 0), .sc (.int .i64 0), .sc (.string ByteArray.empty)] := by kernel_rfl
@[simp] theorem zero35 : zeroA Tryd.prog 35 = some [.sc (.int .i64 0), .sc (.int .i64 0), .sc (.int .i64 0), .sc (.string ByteArray.empty)] := by kernel_rfl
@[simp] theorem field35_0 : fieldOf Tryd.prog 35 0 = some (0, 3) := by kernel_rfl
@[simp] theorem place35_0 : placeA Tryd.prog 35 0 = some (0, 1) := by kernel_rfl
@[simp] theorem field35_1 : fieldOf Tryd.prog 35 1 = some (1, 3) := by kernel_rfl
@[simp] theorem place35_1 : placeA Tryd.prog 35 1 = some (1, 1) := by kernel_rfl
@[simp] theorem field35_2 : fieldOf Tryd.prog 35 2 = some (2, 3) := by kernel_rfl
@[simp] theorem place35_2 : placeA Tryd.prog 35 2 = some (2, 1) := by kernel_rfl
@[simp] theorem field35_3 : fieldOf Tryd.prog 35 3 = some (3, 9) := by kernel_rfl
@[simp] theorem place35_3 : placeA Tryd.prog 35 3 = some (3, 1) := by kernel_rfl
@[simp] theorem Tkn.fits_av35 (x : Tkn) : fitsB Tryd.prog 35 x.av = true := by rw [Tkn.av_eq, fits_agg, lay35]; rfl
@[simp] theorem lay39 : layOf Tryd.prog 39 = some (true, 2) := by kernel_rfl
@[simp] theorem zagg39 : zaggA Tryd.prog 39 = some [.sc (.string ByteArray.empty), .sc (.string ByteArray.empty)] := by kernel_rfl
@[simp] theorem zero39 : zeroA Tryd.prog 39 = some [.sc (.string ByteArray.empty), .sc (.string ByteArray.empty)] := by kernel_rfl
@[simp] theorem und39 : Tryd.prog.underlying 39 = some (.array 2 9) := by kernel_rfl
@[simp] theorem ial39_0 (b g o : Nat) : indexAddrA Tryd.prog 39 (.lptr b g o) (.sc (.int .i64 0)) = some (.lptr b g (o + 0)) := by kernel_rfl
@[simp] theorem ial39_1 (b g o : Nat) : indexAddrA Tryd.prog 39 (.lptr b g o) (.sc (.int .i64 1)) = some (.lptr b g (o + 1)) := by kernel_rfl
@[simp] theorem lay40 : layOf Tryd.prog 40 = some (false, 1) := by kernel_rfl
@[simp] theorem zero40 : zeroA Tryd.prog 40 = some [.slice .full []] := by kernel_rfl
@[simp] theorem ap40 : apOf Tryd.prog 40 = some (39, 2) := by kernel_rfl
@[simp] theorem und40 : Tryd.prog.underlying 40 = some (.slice 39) := by kernel_rfl
@[simp] theorem lay45 : layOf Tryd.prog 45 = some (false, 1) := by kernel_rfl
@[simp] theorem zero45 : zeroA Tryd.prog 45 = some [.slice .full []] := by kernel_rfl
@[simp] theorem ap45 : apOf Tryd.prog 45 = some (30, 1) := by kernel_rfl
@[simp] theorem und45 : Tryd.prog.underlying 45 = some (.slice 30) := by kernel_rfl
@[simp] theorem lay50 : layOf Tryd.prog 50 = some (true, 2) := by kernel_rfl
@[simp] theorem zagg50 : zaggA Tryd.prog 50 = some [.slice .full [], .sc (.int .i64 0)] := by kernel_rfl
@[simp] theorem zero50 : zeroA Tryd.prog 50 = some [.slice .full [], .sc (.int .i64 0)] := by kernel_rfl
@[simp] theorem field50_0 : fieldOf Tryd.prog 50 0 = some (0, 22) := by kernel_rfl
@[simp] theorem place50_0 : placeA Tryd.prog 50 0 = some (0, 1) := by kernel_rfl
@[simp] theorem field50_1 : fieldOf Tryd.prog 50 1 = some (1, 3) := by kernel_rfl
@[simp] theorem place50_1 : placeA Tryd.prog 50 1 = some (1, 1) := by kernel_rfl
@[simp] theorem Smk_Deck.fits_av50 (x : Smk_Deck) : fitsB Tryd.prog 50 x.av = true := by rw [Smk_Deck.av_eq, fits_agg, lay50]; rfl
@[simp] theorem lay51 : layOf Tryd.prog 51 = some (false, 1) := by kernel_rfl
@[simp] theorem zero51 : zeroA Tryd.prog 51 = some [.sc .nilFunc] := by kernel_rfl
@[simp] theorem lay56 : layOf Tryd.prog 56 = some (false, 1) := by kernel_rfl
@[simp] theorem zero56 : zeroA Tryd.prog 56 = some [.sc .nilFunc] := by kernel_rfl
@[simp] theorem lay57 : layOf Tryd.prog 57 = some (false, 1) := by kernel_rfl
@[simp] theorem zero57 : zeroA Tryd.prog 57 = some [.sc (.pointer none)] := by kernel_rfl
@[simp] theorem und57 : Tryd.prog.underlying 57 = some (.pointer 59) := by kernel_rfl
@[simp] theorem lay59 : layOf Tryd.prog 59 = some (true, 2) := by kernel_rfl
@[simp] theorem zagg59 : zaggA Tryd.prog 59 = some [.sc (.pointer none), .slice .full []] := by kernel_rfl
@[simp] theorem zero59 : zeroA Tryd.prog 59 = some [.sc (.pointer none), .slice .full []] := by kernel_rfl
@[simp] theorem field59_0 : fieldOf Tryd.prog 59 0 = some (0, 57) := by kernel_rfl
@[simp] theorem place59_0 : placeA Tryd.prog 59 0 = some (0, 1) := by kernel_rfl
@[simp] theorem field59_1 : fieldOf Tryd.prog 59 1 = some (1, 28) := by kernel_rfl
@[simp] theorem place59_1 : placeA Tryd.prog 59 1 = some (1, 1) := by kernel_rfl
@[simp] theorem lay63 : layOf Tryd.prog 63 = some (false, 1) := by kernel_rfl
@[simp] theorem zero63 : zeroA Tryd.prog 63 = some [.sc .nilIface] := by kernel_rfl
@[simp] theorem eqlI63 (v : AV) : binC Tryd.prog .eql 63 (.const .nilIface) (.sc .nilIface) v = some (.sc (.bool true)) := by kernel_rfl
@[simp] theorem neqI63 (v : AV) : binC Tryd.prog .neq 63 (.const .nilIface) (.sc .nilIface) v = some (.sc (.bool false)) := by kernel_rfl
@[simp] theorem slall22 (tag : Tag) (l : List Int) : sliceA Tryd.prog 22 (.slice tag (List.map sI l)) none (some (.sc (.int .i64 (llen l)))) (some (.sc (.int .i64 (llen l)))) = some (.slice .full (List.map sI l)) := sliceA_all _ l und22 lay3 (fun x => by simp)
@[simp] theorem sls22 (tag : Tag) (l : List Int) (a b : Int) : sliceA Tryd.prog 22 (.slice tag (List.map sI l)) (some (.sc (.int .i64 a))) (some (.sc (.int .i64 b))) none = (lslice l a b).map fun r => .slice .frz (List.map sI r) := sliceA_lst _ l und22 lay3 (fun x => by simp)
@[simp] theorem slsL22 (tag : Tag) (l : List Int) (a : Int) : sliceA Tryd.prog 22 (.slice tag (List.map sI l)) (some (.sc (.int .i64 a))) none none = (lslice l a (llen l)).map fun r => .slice .frz (List.map sI r) := sliceA_lstL _ l und22 lay3 (fun x => by simp)
@[simp] theorem slsH22 (tag : Tag) (l : List Int) (b : Int) : sliceA Tryd.prog 22 (.slice tag (List.map sI l)) none (some (.sc (.int .i64 b))) none = (lslice l 0 b).map fun r => .slice .frz (List.map sI r) := sliceA_lstH _ l und22 lay3 (fun x => by simp)
@[simp] theorem slall30 (tag : Tag) (l : List Tkn) : sliceA Tryd.prog 30 (.slice tag (List.map Tkn.av l)) none (some (.sc (.int .i64 (llen l)))) (some (.sc (.int .i64 (llen l)))) = some (.slice .full (List.map Tkn.av l)) := sliceA_all _ l und30 lay35 (fun x => by simp)
@[simp] theorem sls30 (tag : Tag) (l : List Tkn) (a b : Int) : sliceA Tryd.prog 30 (.slice tag (List.map Tkn.av l)) (some (.sc (.int .i64 a))) (some (.sc (.int .i64 b))) none = (lslice l a b).map fun r => .slice .frz (List.map Tkn.av r) := sliceA_lst _ l und30 lay35 (fun x => by simp)
@[simp] theorem slsL30 (tag : Tag) (l : List Tkn) (a : Int) : sliceA Tryd.prog 30 (.slice tag (List.map Tkn.av l)) (some (.sc (.int .i64 a))) none none = (lslice l a (llen l)).map fun r => .slice .frz (List.map Tkn.av r) := sliceA_lstL _ l und30 lay35 (fun x => by simp)
@[simp] theorem slsH30 (tag : Tag) (l : List Tkn) (b : Int) : sliceA Tryd.prog 30 (.slice tag (List.map Tkn.av l)) none (some (.sc (.int .i64 b))) none = (lslice l 0 b).map fun r => .slice .frz (List.map Tkn.av r) := sliceA_lstH _ l und30 lay35 (fun x => by simp)
@[simp] theorem eqlS35 (x y : Tkn) : binA Tryd.prog .eql 35 x.av y.av = some (.sc (.bool (Tkn.eqB x y))) := by
  rw [Tkn.av_eq, Tkn.av_eq]
  kernel_rfl
@[simp] theorem neqS35 (x y : Tkn) : binA Tryd.prog .neq 35 x.av y.av = some (.sc (.bool (bnot (Tkn.eqB x y)))) := by
  rw [Tkn.av_eq, Tkn.av_eq]
  kernel_rfl
def Does51 {S : Type} (T : Tabs) (g : Nat) (cap : List AV) (st : S → Heap) (w : (S → Int → Option (Bool × S))) : Prop :=
  ∀ (X : Heap) (s : S) (x0 : Int) (y0 : Bool) (s' : S), w s x0 = some (y0, s') → ACall Tryd.prog T g ([AV.sc (.int .i32 x0)] ++ cap) (st s ++ X) (sB y0) (st s' ++ X)
theorem Does51.ext {S : Type} {T : Tabs} {g : Nat} {cap : List AV} {st : S → Heap} {w : (S → Int → Option (Bool × S))} (h : Does51 T g cap st w) {Y : Heap} : Does51 T g cap (fun s => st s ++ Y) w := fun X s x0 y0 s' hw => by
  have := h (Y ++ X) s x0 y0 s' hw
  rwa [← List.append_assoc, ← List.append_assoc] at this
theorem Does51.at0 {S : Type} {T : Tabs} {g : Nat} {cap : List AV} {st : S → Heap} {w : (S → Int → Option (Bool × S))} (h : Does51 T g cap st w) {s : S} {x0 : Int} {y0 : Bool} {s' : S} (hw : w s x0 = some (y0, s')) : ACall Tryd.prog T g ([AV.sc (.int .i32 x0)] ++ cap) (st s) (sB y0) (st s') := by
  have := h [] s x0 y0 s' hw
  rwa [List.append_nil, List.append_nil] at this
def Does56 {S : Type} (T : Tabs) (g : Nat) (cap : List AV) (st : S → Heap) (w : (S → Tkn → Tkn → Option (Bool × S))) : Prop :=
  ∀ (X : Heap) (s : S) (x0 : Tkn) (x1 : Tkn) (y0 : Bool) (s' : S), w s x0 x1 = some (y0, s') → ACall Tryd.prog T g ([Tkn.av x0, Tkn.av x1] ++ cap) (st s ++ X) (sB y0) (st s' ++ X)
theorem Does56.ext {S : Type} {T : Tabs} {g : Nat} {cap : List AV} {st : S → Heap} {w : (S → Tkn → Tkn → Option (Bool × S))} (h : Does56 T g cap st w) {Y : Heap} : Does56 T g cap (fun s => st s ++ Y) w := fun X s x0 x1 y0 s' hw => by
  have := h (Y ++ X) s x0 x1 y0 s' hw
  rwa [← List.append_assoc, ← List.append_assoc] at this
theorem Does56.at0 {S : Type} {T : Tabs} {g : Nat} {cap : List AV} {st : S → Heap} {w : (S → Tkn → Tkn → Option (Bool × S))} (h : Does56 T g cap st w) {s : S} {x0 : Tkn} {x1 : Tkn} {y0 : Bool} {s' : S} (hw : w s x0 x1 = some (y0, s')) : ACall Tryd.prog T g ([Tkn.av x0, Tkn.av x1] ++ cap) (st s) (sB y0) (st s') := by
  have := h [] s x0 x1 y0 s' hw
  rwa [List.append_nil, List.append_nil] at this
end Go.Proofs.YtooibjkhgdpnaaaDoor
