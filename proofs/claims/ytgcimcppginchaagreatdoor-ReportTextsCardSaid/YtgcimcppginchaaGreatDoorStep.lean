/-
  What 'simp' does with steps, over models: every step but a call and an append goes by itself; numbers and tests stay words of VOps.
-/
import Derived.Test.YtgcimcppginchaaGreatDoorAbsM
import Derived.Test.YtgcimcppginchaaGreatDoorOps
set_option linter.unusedSimpArgs false
set_option linter.unusedVariables false
namespace Go.Abs
open Go Go.Mdl

/-- An append, till it is told what it appends to what. -/
def AppAt (P : Program) (t : TypeId) (s x : AV) (d : Nat) (K : Fr → Heap → Prop) (fr : Fr) (H : Heap) : Prop :=
  match apOf P t, s, x with
  | some (_, sz), .slice tag l, .slice _ m =>
    headOk sz l = true ∧ headOk sz m = true ∧ l.length + m.length ≤ growLim ∧
      (if canGrow fr tag l = true then K (grown fr d tag l m) H else m = [] ∧ K (fr.put (some d) (.slice .frz l)) H)
  | _, _, _ => False

theorem appendA_eq {P : Program} {T : Tabs} {x y : Operand} {t d : Nat} {K : Fr → Heap → Prop} {fr : Fr} {H : Heap} :
    appendA P T { callee := .builtin .append, args := #[x, y], argTypes := #[t, t] } (some d) K fr H = AppAt P t (ev T fr x) (ev T fr y) d K fr H := by
  unfold appendA AppAt
  simp only
  cases apOf P t with
  | none => rfl
  | some p =>
    obtain ⟨e, sz⟩ := p
    cases ev T fr x <;> cases ev T fr y <;> simp only [true_and]

/-- An append that makes a row whose elements may be written, till it is told what it appends to what. -/
def AppL (P : Program) (t : TypeId) (s x : AV) (d : Nat) (K : Fr → Heap → Prop) (fr : Fr) (H : Heap) : Prop :=
  match apOf P t, x with
  | some (e, sz), .slice _ m =>
    headOk sz m = true ∧ (zeroA P e).isSome = true ∧ 0 < m.length ∧
    match s with
    | .slice .full l => headOk sz l = true ∧ l.length + m.length ≤ growLim ∧
        ∀ cap, l.length + m.length ≤ cap → K (lgrown fr d (l.flatMap AV.cells ++ m.flatMap AV.cells ++ junk ((cap - (l.length + m.length)) * sz)) (l.length + m.length) cap) H
    | .lsl b g len cap => g = fr.gen b ∧ len + m.length ≤ growLim ∧
        match fr.box b with
        | some cs => cs.length = cap * sz ∧
            (len + m.length ≤ cap → K { fr with env := upd fr.env d (.lsl b g (len + m.length) cap), box := upd fr.box b (some (setCells cs (len * sz) (m.flatMap AV.cells))) } H) ∧
            (∀ cap', cap < len + m.length → len + m.length ≤ cap' → K (lgrown fr d (cs.take (len * sz) ++ m.flatMap AV.cells ++ junk ((cap' - (len + m.length)) * sz)) (len + m.length) cap') H)
        | none => False
    | _ => False
  | _, _ => False

theorem appendL_eq {P : Program} {T : Tabs} {x y : Operand} {t d : Nat} {K : Fr → Heap → Prop} {fr : Fr} {H : Heap} :
    appendL P T { callee := .builtin .append, args := #[x, y], argTypes := #[t, t] } (some d) K fr H = AppL P t (ev T fr x) (ev T fr y) d K fr H := by
  unfold appendL AppL
  simp only
  cases apOf P t with
  | none => rfl
  | some p =>
    obtain ⟨e, sz⟩ := p
    cases ev T fr y <;> simp only [true_and]
    cases ev T fr x <;> rfl

/-- An append whose row is a shared object, till it is told what to what. -/
def AppG (P : Program) (t : TypeId) (s x : AV) (d : Nat) (K : Fr → Heap → Prop) (fr : Fr) (H : Heap) : Prop :=
  match apOf P t, x with
  | some (e, sz), .slice _ m =>
    headOk sz m = true ∧ (zeroA P e).isSome = true ∧ 0 < m.length ∧
    match s with
    | .slice .full l => headOk sz l = true ∧ l.length + m.length ≤ growLim ∧
        ∀ cap, l.length + m.length ≤ cap → K (fr.put (some d) (.gsl H.length 0 (l.length + m.length) cap)) (H ++ [l.flatMap AV.cells ++ m.flatMap AV.cells ++ junk ((cap - (l.length + m.length)) * sz)])
    | .nul => m.length ≤ growLim ∧ ∀ cap, m.length ≤ cap → K (fr.put (some d) (.gsl H.length 0 m.length cap)) (H ++ [m.flatMap AV.cells ++ junk ((cap - m.length) * sz)])
    | .gsl o off len cap => off = 0 ∧ len + m.length ≤ growLim ∧
        match H[o]? with
        | some cs => okObj cs = true ∧ cs.length = cap * sz ∧
            (len + m.length ≤ cap → K (fr.put (some d) (.gsl o 0 (len + m.length) cap)) (H.set o (setCells cs (len * sz) (m.flatMap AV.cells)))) ∧
            (∀ cap', cap < len + m.length → len + m.length ≤ cap' → K (fr.put (some d) (.gsl H.length 0 (len + m.length) cap')) (H ++ [cs.take (len * sz) ++ m.flatMap AV.cells ++ junk ((cap' - (len + m.length)) * sz)]))
        | none => False
    | _ => False
  | _, _ => False
theorem appendG_eq {P : Program} {T : Tabs} {x y : Operand} {t d : Nat} {K : Fr → Heap → Prop} {fr : Fr} {H : Heap} :
    appendG P T { callee := .builtin .append, args := #[x, y], argTypes := #[t, t] } (some d) K fr H = AppG P t (ev T fr x) (ev T fr y) d K fr H := by
  unfold appendG AppG
  simp only
  cases apOf P t with
  | none => rfl
  | some p =>
    obtain ⟨e, sz⟩ := p
    cases ev T fr y <;> simp only [true_and]
    cases ev T fr x <;> rfl
/-- An append in a plain region. -/
def AppAt2 (P : Program) (t : TypeId) (s x : AV) (d : Nat) (K : Fr → Heap → Prop) (fr : Fr) (H : Heap) : Prop := (AppAt P t s x d K fr H ∨ AppL P t s x d K fr H) ∨ AppG P t s x d K fr H

theorem appendS_same {P : Program} {T : Tabs} {x y : Operand} {t d : Nat} {K : Fr → Heap → Prop} {fr : Fr} {H : Heap} :
    appendS P T { callee := .builtin .append, args := #[x, y], argTypes := #[t, t] } (some d) K fr H = False := by
  refine propext ⟨fun h => ?_, False.elim⟩
  unfold appendS at h
  simp only at h
  split at h
  · rename_i hap hstr _ _
    obtain ⟨_, _, hu, _⟩ := apOf_inv hap
    rw [hu] at hstr
    cases hstr
  · exact h

/-- An append of a text's bytes, till it is told what to what. -/
def AppAtS (P : Program) (t t' : TypeId) (s x : AV) (d : Nat) (K : Fr → Heap → Prop) (fr : Fr) (H : Heap) : Prop :=
  match apOf P t, P.underlying t', s, x with
  | some (_, sz), some .string, .slice tag l, .sc (.string y) =>
    sz = 1 ∧ headOk 1 l = true ∧ l.length + y.size ≤ growLim ∧
      (if canGrow fr tag l = true then K (grown fr d tag l (byteAVs y)) H else byteAVs y = [] ∧ K (fr.put (some d) (.slice .frz l)) H)
  | _, _, _, _ => False

theorem appendS_eq {P : Program} {T : Tabs} {x y : Operand} {t t' d : Nat} {K : Fr → Heap → Prop} {fr : Fr} {H : Heap} (h : AppAtS P t t' (ev T fr x) (ev T fr y) d K fr H) :
    appendS P T { callee := .builtin .append, args := #[x, y], argTypes := #[t, t'] } (some d) K fr H := h

/-- Whether a slice is the frame's own: full, or made by one of some slots, and the last that it made. -/
def OwnT (tab : Nat → Option Nat) (tgen : Nat → Nat) (D : List Nat) (tag : Tag) (n : Nat) : Prop :=
  tag = .full ∨ ∃ k g, k ∈ D ∧ tag = .loc k g ∧ g = tgen k ∧ tab k = some n

theorem OwnT.full {tab : Nat → Option Nat} {tgen : Nat → Nat} {D : List Nat} {n : Nat} : OwnT tab tgen D .full n := .inl rfl
theorem OwnT.new {tab : Nat → Option Nat} {tgen : Nat → Nat} {D : List Nat} {n d : Nat} (h : d ∈ D) : OwnT (upd tab d (some n)) (upd tgen d (tgen d + 1)) D (.loc d (tgen d + 1)) n :=
  .inr ⟨d, _, h, rfl, by simp [upd], by simp [upd]⟩
theorem OwnT.mono {tab : Nat → Option Nat} {tgen : Nat → Nat} {D D' : List Nat} {tag : Tag} {n : Nat} (h : OwnT tab tgen D tag n) (hD : ∀ k, k ∈ D → k ∈ D') : OwnT tab tgen D' tag n := by
  rcases h with h | ⟨k, g, h1, h2⟩
  · exact .inl h
  · exact .inr ⟨k, g, hD k h1, h2⟩
/-- Another slice has grown. -/
theorem OwnT.other {tab : Nat → Option Nat} {tgen : Nat → Nat} {D D' : List Nat} {tag tag' : Tag} {n n' d : Nat} {x : Option Nat} {y : Nat} (h : OwnT tab tgen D tag n) (h' : OwnT tab tgen D' tag' n')
    (hD : ∀ k, k ∈ D → k ∉ D') (hd : d ∉ D) : OwnT (upd (killTok tag' tab) d x) (upd tgen d y) D tag n := by
  rcases h with h | ⟨k, g, h1, h2, h3, h4⟩
  · exact .inl h
  · refine .inr ⟨k, g, h1, h2, ?_, ?_⟩
    · have : k ≠ d := by rintro rfl; exact hd h1
      simp [upd, this, h3]
    · have hkd : k ≠ d := by rintro rfl; exact hd h1
      simp only [upd, hkd, if_false]
      rcases h' with rfl | ⟨k', g', h1', rfl, _, _⟩
      · exact h4
      · have : k ≠ k' := by rintro rfl; exact hD k h1 h1'
        simp [killTok, upd, this, h4]
/-- The same where that one is new, at the place of none. -/
theorem OwnT.keep {tab : Nat → Option Nat} {tgen : Nat → Nat} {D : List Nat} {tag : Tag} {n d : Nat} {x : Option Nat} {y : Nat} (h : OwnT tab tgen D tag n) (hd : d ∉ D) : OwnT (upd tab d x) (upd tgen d y) D tag n := by
  rcases h with h | ⟨k, g, h1, h2, h3, h4⟩
  · exact .inl h
  · have hkd : k ≠ d := by rintro rfl; exact hd h1
    exact .inr ⟨k, g, h1, h2, by simp [upd, hkd, h3], by simp [upd, hkd, h4]⟩

theorem OwnT.can {fr : Fr} {D : List Nat} {tag : Tag} {l : List AV} {n : Nat} (h : OwnT fr.tab fr.tgen D tag n) (hn : n = l.length) : canGrow fr tag l = true := by
  subst hn
  rcases h with rfl | ⟨k, g, _, rfl, h3, h4⟩
  · rfl
  · simp [canGrow, h3, h4]

theorem AppAt.own {P : Program} {t e sz d : Nat} {s x : AV} {K : Fr → Heap → Prop} {fr : Fr} {H : Heap} {α : Type} {f : α → AV} (l m : List α) {D : List Nat} {tag tag' : Tag}
    (h : OwnT fr.tab fr.tgen D tag l.length) (hap : apOf P t = some (e, sz)) (hsz : ∀ x, (f x).cells.length = sz) (hlen : okApp l m = true) (hs : s = .slice tag (l.map f)) (hx : x = .slice tag' (m.map f))
    (hk : K { fr with env := upd fr.env d (.slice (.loc d (fr.tgen d + 1)) ((lapp l m).map f)), tab := upd (killTok tag fr.tab) d (some (lapp l m).length), tgen := upd fr.tgen d (fr.tgen d + 1) } H) : AppAt P t s x d K fr H := by
  subst hs; subst hx
  have hl := okApp_le hlen
  have hon : ∀ l : List α, headOk sz (l.map f) = true := fun l => by cases l with | nil => rfl | cons a l => simp [headOk, hsz]
  unfold AppAt
  rw [hap]
  refine ⟨hon l, hon m, by simpa [growLim, lim] using hl, ?_⟩
  rw [if_pos (h.can (by simp))]
  have e1 : l.map f ++ m.map f = (lapp l m).map f := by simp [lapp]
  have e2 : (l.map f).length + (m.map f).length = (lapp l m).length := by simp [length_lapp]
  unfold grown
  rw [e1, e2]
  exact hk

theorem AppAt2.own {P : Program} {t e sz d : Nat} {s x : AV} {K : Fr → Heap → Prop} {fr : Fr} {H : Heap} {α : Type} {f : α → AV} (l m : List α) {D : List Nat} {tag tag' : Tag}
    (h : OwnT fr.tab fr.tgen D tag l.length) (hap : apOf P t = some (e, sz)) (hsz : ∀ x, (f x).cells.length = sz) (hlen : okApp l m = true) (hs : s = .slice tag (l.map f)) (hx : x = .slice tag' (m.map f))
    (hk : K { fr with env := upd fr.env d (.slice (.loc d (fr.tgen d + 1)) ((lapp l m).map f)), tab := upd (killTok tag fr.tab) d (some (lapp l m).length), tgen := upd fr.tgen d (fr.tgen d + 1) } H) : AppAt2 P t s x d K fr H :=
  .inl (.inl (AppAt.own l m h hap hsz hlen hs hx hk))

/-- The bytes of a text. -/
theorem byteAVs_eq (y : ByteArray) : byteAVs y = (sbytes y).map fun n => AV.sc (Value.int .u8 n) := by
  simp [byteAVs, sbytes]

theorem AppAtS.own {P : Program} {t t' e d : Nat} {s x : AV} {K : Fr → Heap → Prop} {fr : Fr} {H : Heap} (l : List Int) (y : ByteArray) {D : List Nat} {tag : Tag}
    (h : OwnT fr.tab fr.tgen D tag l.length) (hap : apOf P t = some (e, 1)) (hstr : P.underlying t' = some .string) (hlen : okApp l (sbytes y) = true) (hs : s = .slice tag (l.map fun n => AV.sc (Value.int .u8 n))) (hx : x = .sc (.string y))
    (hk : K { fr with env := upd fr.env d (.slice (.loc d (fr.tgen d + 1)) ((lapp l (sbytes y)).map fun n => AV.sc (Value.int .u8 n))), tab := upd (killTok tag fr.tab) d (some (lapp l (sbytes y)).length), tgen := upd fr.tgen d (fr.tgen d + 1) } H) : AppAtS P t t' s x d K fr H := by
  subst hs; subst hx
  have hl := okApp_le hlen
  have hon : ∀ l : List Int, headOk 1 (l.map fun n => AV.sc (Value.int .u8 n)) = true := fun l => by cases l with | nil => rfl | cons a l => rfl
  have hsz : (sbytes y).length = y.size := by simp [sbytes]
  unfold AppAtS
  rw [hap, hstr]
  refine ⟨rfl, hon l, by rw [List.length_map, ← hsz]; simpa [growLim, lim] using hl, ?_⟩
  rw [if_pos (h.can (by simp)), byteAVs_eq]
  have e1 : (l.map fun n => AV.sc (Value.int .u8 n)) ++ ((sbytes y).map fun n => AV.sc (Value.int .u8 n)) = (lapp l (sbytes y)).map fun n => AV.sc (Value.int .u8 n) := by simp [lapp]
  have e2 : (l.map fun n => AV.sc (Value.int .u8 n)).length + ((sbytes y).map fun n => AV.sc (Value.int .u8 n)).length = (lapp l (sbytes y)).length := by simp [length_lapp]
  unfold grown
  rw [e1, e2]
  exact hk

/-- A call in a plain region, with what follows it. -/
def CallAt (P : Program) (T : Tabs) (E : List Nat) (ops : Array Oper) (fv : AV) (as : List AV) (d : Option Nat) (rest : List Oper) (K : Fr → Heap → Prop) (fr : Fr) (H : Heap) : Prop :=
  AInvoke P T fv as H fun r H' => arun P T E ops rest K (fr.put d r) H'

/-- A call in a region that draws its order. -/
def CallAtD (P : Program) (T : Tabs) (E : List Nat) (ops : Array Oper) (q : Qt) (fv : AV) (as : List AV) (d : Option Nat) (rest : List Oper) (K : Fr → Heap → Prop) (fr : Fr) (H : Heap) : Prop :=
  if d.any E.contains = true then relG P T q true fv as d (drunL P T E ops q rest K) fr H else ∃ r H', AInvokeD P T fv as H r H' ∧ (QK q H H') ∧ drunL P T E ops q rest K (fr.put d r) H'
theorem relG_of {P : Program} {T : Tabs} {q : Qt} {soft : Bool} {fv : AV} {as : List AV} {d : Option Nat} {K : Fr → Heap → Prop} {fr : Fr} {H H' : Heap} {r : AV} (h : AInvokeD P T fv as H r H') (hq : soft = true → QK q H H') (hk : K (fr.put d r) H') : relG P T q soft fv as d K fr H :=
  ⟨_, h, ⟨r, H', rfl, rfl⟩, fun r' h' ⟨e1, e2⟩ => by subst e1; subst e2; exact ⟨hq, hk⟩⟩
theorem CallAtD.of {P : Program} {T : Tabs} {E : List Nat} {ops : Array Oper} {q : Qt} {rest : List Oper} {K : Fr → Heap → Prop} {fr : Fr} {H H' : Heap} {d : Option Nat} {fv : AV} {as : List AV} {r : AV} (h : AInvokeD P T fv as H r H') (hq : QK q H H') (hk : drunL P T E ops q rest K (fr.put d r) H') : CallAtD P T E ops q fv as d rest K fr H := by
  unfold CallAtD
  split
  · exact relG_of h (fun _ => hq) hk
  · exact ⟨r, H', h, hq, hk⟩

section
variable {P : Program} {T : Tabs} {E : List Nat} {ops : Array Oper} {q : Qt} {rest : List Oper} {K : Fr → Heap → Prop} {fr : Fr} {H H' : Heap} {d : Option Nat} {ty : TypeId} {pos : String} {after : Array Edge}

theorem CallAt.fn {g : FuncId} {as : List AV} {r : AV} (h : ACall P T g as H r H') (hk : arun P T E ops rest K (fr.put d r) H') : CallAt P T E ops (.func (.func g) [] []) as d rest K fr H := by
  unfold CallAt AInvoke
  simp only [List.nil_append, List.append_nil]
  exact h.post hk

theorem CallAt.clo {g : FuncId} {fi ca as as' : List AV} {r : AV} (ha : fi ++ as ++ ca = as') (h : ACall P T g as' H r H') (hk : arun P T E ops rest K (fr.put d r) H') : CallAt P T E ops (.func (.func g) fi ca) as d rest K fr H := by
  subst ha
  unfold CallAt AInvoke
  exact h.post hk

/-- A call whose result is known by what is said of it. -/
theorem CallAt.fnP {g : FuncId} {as : List AV} {Post : AV → Heap → Prop} (h : ACallP P T g as H Post) (hk : ∀ r H', Post r H' → arun P T E ops rest K (fr.put d r) H') : CallAt P T E ops (.func (.func g) [] []) as d rest K fr H := by
  unfold CallAt AInvoke
  simp only [List.nil_append, List.append_nil]
  exact h.mono hk

theorem CallAtD.fn {g : FuncId} {as : List AV} {r : AV} (h : ACall P T g as H r H') (hq : QK q H H') (hk : drunL P T E ops q rest K (fr.put d r) H') : CallAtD P T E ops q (.func (.func g) [] []) as d rest K fr H := by
  refine CallAtD.of ?_ hq hk
  unfold AInvokeD AInvoke
  simp only [List.nil_append, List.append_nil]
  exact h

theorem CallAtD.clo {g : FuncId} {fi ca as as' : List AV} {r : AV} (ha : fi ++ as ++ ca = as') (h : ACall P T g as' H r H') (hq : QK q H H') (hk : drunL P T E ops q rest K (fr.put d r) H') : CallAtD P T E ops q (.func (.func g) fi ca) as d rest K fr H := by
  subst ha
  exact CallAtD.of h hq hk

/-- The same where the callee leaves the shared memory alone. -/
theorem CallAtD.fn0 {g : FuncId} {as : List AV} {r : AV} (h : ACall P T g as H r H) (hk : drunL P T E ops q rest K (fr.put d r) H) : CallAtD P T E ops q (.func (.func g) [] []) as d rest K fr H :=
  CallAtD.fn h .refl hk

/-- A function's value of which it is known what it does. -/
theorem CallAt.val {fv : AV} {as : List AV} {r : AV} (h : AInvokeD P T fv as H r H') (hk : arun P T E ops rest K (fr.put d r) H') : CallAt P T E ops fv as d rest K fr H := by
  unfold CallAt
  unfold AInvokeD AInvoke at h
  unfold AInvoke
  split at h
  · exact h.mono fun r' H'' ⟨e1, e2⟩ => by subst e1; subst e2; exact hk
  · exact h.elim

theorem CallAtD.val {fv : AV} {as : List AV} {r : AV} (h : AInvokeD P T fv as H r H') (hq : QK q H H') (hk : drunL P T E ops q rest K (fr.put d r) H') : CallAtD P T E ops q fv as d rest K fr H := CallAtD.of h hq hk

@[simp] theorem arun_nil : arun P T E ops [] K fr H = K fr H := rfl
@[simp] theorem drunL_nil : drunL P T E ops q [] K fr H = K fr H := rfl

/-! plain regions -/

@[simp] theorem arun_move {x : Operand} : arun P T E ops ({ dst := d, op := .move x, type := ty, pos := pos, after := after, guard := none } :: rest) K fr H = arun P T E ops rest K (fr.put d (ev T fr x)) H := rfl
@[simp] theorem arun_assign {x : Operand} : arun P T E ops ({ dst := d, op := .assign x, type := ty, pos := pos, after := after, guard := none } :: rest) K fr H = arun P T E ops rest K (fr.put d (ev T fr x)) H := rfl
@[simp] theorem arun_alloc {t : TypeId} : arun P T E ops ({ dst := d, op := .alloc t, type := ty, pos := pos, after := after, guard := none } :: rest) K fr H =
    match zeroA P t with | some z => allocA E d z (arun P T E ops rest K) fr H | none => False := rfl
@[simp] theorem arun_box {t : TypeId} {x : Operand} : arun P T E ops ({ dst := d, op := .box t x, type := ty, pos := pos, after := after, guard := none } :: rest) K fr H =
    (notTuple (ev T fr x) = true ∧ allocA E d (ev T fr x).cells (arun P T E ops rest K) fr H) := rfl
@[simp] theorem arun_load {t : TypeId} {x : Operand} : arun P T E ops ({ dst := d, op := .load t x, type := ty, pos := pos, after := after, guard := none } :: rest) K fr H =
    match loadA P fr H t (ev T fr x) with | some v => arun P T E ops rest K (fr.put d v) H | none => False := rfl
@[simp] theorem arun_store {t : TypeId} {x y : Operand} : arun P T E ops ({ dst := none, op := .store t x y, type := ty, pos := pos, after := after, guard := none } :: rest) K fr H =
    storeA P t (ev T fr x) (ev T fr y) (arun P T E ops rest K) fr H := by simp [arun, aopAt, astep]
@[simp] theorem arun_buildSlice {t n : Nat} {ps : Array (Nat × Operand)} : arun P T E ops ({ dst := d, op := .buildSlice t n ps, type := ty, pos := pos, after := after, guard := none } :: rest) K fr H =
    match buildSliceA P t n (ps.toList.map fun p => (p.1, ev T fr p.2)) with | some v => sliceK E d v (arun P T E ops rest K) fr H | none => False := rfl
@[simp] theorem sliceK_no {E : List Nat} {d : Option Nat} {v : AV} {K : Fr → Heap → Prop} {fr : Fr} {H : Heap} : sliceK E d v K fr H = if d.any E.contains = true then (match v with | .slice _ l => K (fr.put d (.gsl H.length 0 l.length l.length)) (H ++ [l.flatMap AV.cells]) | _ => False) else K (fr.put d v) H := rfl
@[simp] theorem arun_append {x y : Operand} {t d : Nat} : arun P T E ops ({ dst := some d, op := .call { callee := .builtin .append, args := #[x, y], argTypes := #[t, t] }, type := ty, pos := pos, after := after, guard := none } :: rest) K fr H =
    AppAt2 P t (ev T fr x) (ev T fr y) d (arun P T E ops rest K) fr H := by
  simp only [arun, aopAt, astep]
  unfold AppAt2
  rw [← appendA_eq (T := T), ← appendL_eq (T := T), ← appendG_eq (T := T), appendS_same, false_or]
theorem arun_appendS {x y : Operand} {t t' d : Nat} (h : AppAtS P t t' (ev T fr x) (ev T fr y) d (arun P T E ops rest K) fr H) :
    arun P T E ops ({ dst := some d, op := .call { callee := .builtin .append, args := #[x, y], argTypes := #[t, t'] }, type := ty, pos := pos, after := after, guard := none } :: rest) K fr H := by
  simp only [arun, aopAt, astep]
  exact .inr (.inl (appendS_eq h))
@[simp] theorem arun_call {f : Operand} {as : Array Operand} {ts : Array TypeId} : arun P T E ops ({ dst := d, op := .call { callee := .value f, args := as, argTypes := ts }, type := ty, pos := pos, after := after, guard := none } :: rest) K fr H =
    CallAt P T E ops (ev T fr f) (as.toList.map fun x => (ev T fr x).norm) d rest K fr H := rfl
@[simp] theorem arun_len {as : Array Operand} {ts : Array TypeId} : arun P T E ops ({ dst := d, op := .call { callee := .builtin .len, args := as, argTypes := ts }, type := ty, pos := pos, after := after, guard := none } :: rest) K fr H =
    match callA P T fr { callee := .builtin .len, args := as, argTypes := ts } with | some v => arun P T E ops rest K (fr.put d v) H | none => False := rfl
@[simp] theorem arun_max {as : Array Operand} {ts : Array TypeId} : arun P T E ops ({ dst := d, op := .call { callee := .builtin .max, args := as, argTypes := ts }, type := ty, pos := pos, after := after, guard := none } :: rest) K fr H =
    match callA P T fr { callee := .builtin .max, args := as, argTypes := ts } with | some v => arun P T E ops rest K (fr.put d v) H | none => False := rfl
@[simp] theorem arun_min {as : Array Operand} {ts : Array TypeId} : arun P T E ops ({ dst := d, op := .call { callee := .builtin .min, args := as, argTypes := ts }, type := ty, pos := pos, after := after, guard := none } :: rest) K fr H =
    match callA P T fr { callee := .builtin .min, args := as, argTypes := ts } with | some v => arun P T E ops rest K (fr.put d v) H | none => False := rfl
@[simp] theorem arun_pick {c a b : Operand} : arun P T E ops ({ dst := d, op := .pick c a b, type := ty, pos := pos, after := after, guard := none } :: rest) K fr H =
    match aval P T fr { dst := d, op := .pick c a b, type := ty, pos := pos, after := after, guard := none } with | some v => arun P T E ops rest K (fr.put d v) H | none => False := rfl
@[simp] theorem arun_build {t : TypeId} {ps : Array (Nat × Operand)} : arun P T E ops ({ dst := d, op := .build t ps, type := ty, pos := pos, after := after, guard := none } :: rest) K fr H =
    match buildA P t (ps.toList.map fun p => (p.1, ev T fr p.2)) with | some v => arun P T E ops rest K (fr.put d v) H | none => False := rfl
@[simp] theorem arun_binOp {o : BinOp} {t u : TypeId} {x y : Operand} : arun P T E ops ({ dst := d, op := .binOp o t x y u, type := ty, pos := pos, after := after, guard := none } :: rest) K fr H =
    match binC P o t y (ev T fr x) (ev T fr y) with | some v => arun P T E ops rest K (fr.put d v) H | none => False := rfl
@[simp] theorem arun_unOp {o : UnOp} {t : TypeId} {x : Operand} : arun P T E ops ({ dst := d, op := .unOp o t x, type := ty, pos := pos, after := after, guard := none } :: rest) K fr H =
    match unA o (ev T fr x) with | some v => arun P T E ops rest K (fr.put d v) H | none => False := rfl
@[simp] theorem arun_convert {s t : TypeId} {x : Operand} : arun P T E ops ({ dst := d, op := .convert s t x, type := ty, pos := pos, after := after, guard := none } :: rest) K fr H =
    convK P d s t (ev T fr x) (arun P T E ops rest K) fr H := rfl
@[simp] theorem convK_no {s t : TypeId} {d : Option Nat} {x : AV} {K : Fr → Heap → Prop} {fr : Fr} {H : Heap} : convK P d s t x K fr H =
    match convA P s t x with
    | some v => K (fr.put d v) H
    | none => match P.underlying s, P.underlying t, x with
      | some .string, some (.slice e), .sc (.string y) => P.underlying e = some (.int .u8) ∧ y.size ≤ growLim ∧ ∀ cap k, y.size ≤ cap → K (fr.put d (.gsl H.length 0 y.size cap)) (H ++ [byteAVs y ++ junk k])
      | _, _, _ => False := rfl
@[simp] theorem arun_makeFunc {fn : Fn} {f c : Array Operand} : arun P T E ops ({ dst := d, op := .makeFunc fn f c, type := ty, pos := pos, after := after, guard := none } :: rest) K fr H =
    arun P T E ops rest K (fr.put d (.func fn (f.toList.map fun x => (ev T fr x).norm) (c.toList.map fun x => (ev T fr x).norm))) H := rfl
@[simp] theorem arun_fieldAddr {t i : Nat} {x : Operand} : arun P T E ops ({ dst := d, op := .fieldAddr t x i, type := ty, pos := pos, after := after, guard := none } :: rest) K fr H =
    match fieldAddrA P t (ev T fr x) i with | some v => arun P T E ops rest K (fr.put d v) H | none => False := rfl
@[simp] theorem arun_field {t i : Nat} {x : Operand} : arun P T E ops ({ dst := d, op := .field t x i, type := ty, pos := pos, after := after, guard := none } :: rest) K fr H =
    match fieldA P t (ev T fr x) i with | some v => arun P T E ops rest K (fr.put d v) H | none => False := rfl
@[simp] theorem arun_indexAddr {t : TypeId} {x i : Operand} : arun P T E ops ({ dst := d, op := .indexAddr t x i, type := ty, pos := pos, after := after, guard := none } :: rest) K fr H =
    match indexAddrA P t (ev T fr x) (ev T fr i) with | some v => arun P T E ops rest K (fr.put d v) H | none => False := rfl
@[simp] theorem arun_index {t : TypeId} {x i : Operand} : arun P T E ops ({ dst := d, op := .index t x i, type := ty, pos := pos, after := after, guard := none } :: rest) K fr H =
    match indexA P t (ev T fr x) (ev T fr i) with | some v => arun P T E ops rest K (fr.put d v) H | none => False := rfl
@[simp] theorem arun_slice {t : TypeId} {x : Operand} {lo hi mx : Option Operand} : arun P T E ops ({ dst := d, op := .slice t x lo hi mx, type := ty, pos := pos, after := after, guard := none } :: rest) K fr H =
    match sliceA P t (ev T fr x) (lo.map (ev T fr)) (hi.map (ev T fr)) (mx.map (ev T fr)) with | some v => arun P T E ops rest K (fr.put d v) H | none => False := rfl
@[simp] theorem arun_extract {i : Nat} {x : Operand} : arun P T E ops ({ dst := d, op := .extract x i, type := ty, pos := pos, after := after, guard := none } :: rest) K fr H =
    match aval P T fr { dst := d, op := .extract x i, type := ty, pos := pos, after := after, guard := none } with | some v => arun P T E ops rest K (fr.put d v) H | none => False := rfl
@[simp] theorem arun_nilCheck {x : Operand} : arun P T E ops ({ dst := d, op := .nilCheck x, type := ty, pos := pos, after := after, guard := none } :: rest) K fr H =
    match aval P T fr { dst := d, op := .nilCheck x, type := ty, pos := pos, after := after, guard := none } with | some v => arun P T E ops rest K (fr.put d v) H | none => False := rfl
@[simp] theorem arun_typeAssert {t xt : TypeId} {x : Operand} : arun P T E ops ({ dst := d, op := .typeAssert x xt t true, type := ty, pos := pos, after := after, guard := none } :: rest) K fr H =
    match assertA P t (ev T fr x) with | some v => arun P T E ops rest K (fr.put d v) H | none => False := rfl
@[simp] theorem arun_makeInterface {t : TypeId} {x : Operand} : arun P T E ops ({ dst := d, op := .makeInterface t x, type := ty, pos := pos, after := after, guard := none } :: rest) K fr H =
    match aval P T fr { dst := d, op := .makeInterface t x, type := ty, pos := pos, after := after, guard := none } with | some v => arun P T E ops rest K (fr.put d v) H | none => False := rfl

/-- A look into a map, till it is told what lies there. -/
def LookAt (P : Program) (t : TypeId) (x i : AV) (ok : Bool) (d : Option Nat) (K : Fr → Heap → Prop) (fr : Fr) (H : Heap) : Prop :=
  match lookupA P H t x i ok with | some v => K (fr.put d v) H | none => False
@[simp] theorem arun_lookup {t : TypeId} {x i : Operand} {ok : Bool} : arun P T E ops ({ dst := d, op := .lookup t x i ok, type := ty, pos := pos, after := after, guard := none } :: rest) K fr H =
    LookAt P t (ev T fr x) (ev T fr i) ok d (arun P T E ops rest K) fr H := rfl
@[simp] theorem arun_makeMap {t : TypeId} : arun P T E ops ({ dst := d, op := .makeMap t none, type := ty, pos := pos, after := after, guard := none } :: rest) K fr H =
    makeMapA d (arun P T E ops rest K) fr H := rfl
@[simp] theorem arun_mapUpdate {t : TypeId} {x i y : Operand} : arun P T E ops ({ dst := none, op := .mapUpdate t x i y, type := ty, pos := pos, after := after, guard := none } :: rest) K fr H =
    mapUpdA P t (ev T fr x) (ev T fr i) (ev T fr y) (arun P T E ops rest K) fr H := by simp [arun, aopAt, astep]
@[simp] theorem arun_insert {t : TypeId} {x i y : Operand} : arun P T E ops ({ dst := none, op := .insert t x i y, type := ty, pos := pos, after := after, guard := none } :: rest) K fr H =
    mapUpdA P t (ev T fr x) (ev T fr i) (ev T fr y) (arun P T E ops rest K) fr H := by simp [arun, aopAt, astep]
@[simp] theorem arun_range {t : TypeId} {x : Operand} : arun P T E ops ({ dst := d, op := .range t x, type := ty, pos := pos, after := after, guard := none } :: rest) K fr H =
    rangeA P t (ev T fr x) d (arun P T E ops rest K) fr H := rfl
@[simp] theorem arun_entry {x : Operand} : arun P T E ops ({ dst := d, op := .entry x, type := ty, pos := pos, after := after, guard := none } :: rest) K fr H =
    match entryA (ev T fr x) H with | some v => arun P T E ops rest K (fr.put d v) H | none => False := rfl
@[simp] theorem arun_next {x : Operand} : arun P T E ops ({ dst := d, op := .next x false, type := ty, pos := pos, after := after, guard := none } :: rest) K fr H =
    nextA (ev T fr x) d (arun P T E ops rest K) fr H := rfl

/-- An operation under a guard. -/
@[simp] theorem arun_guard {op : Op} {j : Nat} {want : Bool} : arun P T E ops ({ dst := d, op := op, type := ty, pos := pos, after := after, guard := some (j, want) } :: rest) K fr H =
    match (ops[j]?).bind (·.dst) with
    | some g => match fr.env g with
      | .sc (.bool b) => if b = want then arun P T E ops ({ dst := d, op := op, type := ty, pos := pos, after := after, guard := none } :: rest) K fr H else arun P T E ops rest K (fr.put d (.tuple [])) H
      | .tuple _ => arun P T E ops rest K (fr.put d (.tuple [])) H
      | _ => False
    | none => False := rfl

/-! regions that draw -/

theorem notApg_val {o : Oper} (hc : clsOf E ops.toList o = .val ∨ ∃ r, clsOf E ops.toList o = .load r) : isApg E o = false := by
  unfold isApg
  split
  · rename_i c ho
    split
    · rename_i hb
      unfold clsOf at hc
      rw [ho] at hc
      simp only [hb] at hc
      rcases hc with hc | ⟨r, hc⟩ <;> cases hc
    · rename_i f hb
      unfold clsOf at hc
      rw [ho] at hc
      simp only [hb] at hc
      rcases hc with hc | ⟨r, hc⟩ <;> cases hc
    · rfl
  · rfl
theorem drunL_val {o : Oper} (hg : o.guard = none) {v : AV} (h : dval P T E ops.toList q true fr H o = some v) (hc : clsOf E ops.toList o = .val ∨ ∃ r, clsOf E ops.toList o = .load r) (hk : drunL P T E ops q rest K (fr.put o.dst v) H) :
    drunL P T E ops q (o :: rest) K fr H := by
  show dopAt P T E ops q true o (fun fr H => drunL P T E ops q rest K fr H) fr H
  have hn : isApg E o = false := notApg_val hc
  unfold dopAt guardA
  rw [hg]
  simp only
  rw [gstep_neg hn hc]
  exact dstep_of (dval_drel h) hk

@[simp] theorem drunL_move {x : Operand} : drunL P T E ops q ({ dst := d, op := .move x, type := ty, pos := pos, after := after, guard := none } :: rest) K fr H = drunL P T E ops q rest K (fr.put d (ev T fr x)) H := rfl
@[simp] theorem drunL_assign {x : Operand} : drunL P T E ops q ({ dst := d, op := .assign x, type := ty, pos := pos, after := after, guard := none } :: rest) K fr H = drunL P T E ops q rest K (fr.put d (ev T fr x)) H := rfl
@[simp] theorem drunL_alloc {t : TypeId} : drunL P T E ops q ({ dst := d, op := .alloc t, type := ty, pos := pos, after := after, guard := none } :: rest) K fr H =
    match zeroA P t with | some z => d.any E.contains = false ∧ allocA E d z (drunL P T E ops q rest K) fr H | none => False := by
  simp only [drunL, dopAt, guardA, gstep, isApg, growG, isStO, Bool.false_eq_true, if_false, dstep, true_implies]
  rfl
@[simp] theorem drunL_box {t : TypeId} {x : Operand} : drunL P T E ops q ({ dst := d, op := .box t x, type := ty, pos := pos, after := after, guard := none } :: rest) K fr H =
    (notTuple (ev T fr x) = true ∧ d.any E.contains = false ∧ allocA E d (ev T fr x).cells (drunL P T E ops q rest K) fr H) := by
  simp only [drunL, dopAt, guardA, gstep, isApg, growG, isStO, Bool.false_eq_true, if_false, dstep, true_implies]
@[simp] theorem drunL_load {t : TypeId} {x : Operand} : drunL P T E ops q ({ dst := d, op := .load t x, type := ty, pos := pos, after := after, guard := none } :: rest) K fr H =
    if rootChk ops.toList x (ev T fr x) && q.ok (ev T fr x) then (match loadA P fr H t (ev T fr x) with | some v => drunL P T E ops q rest K (fr.put d v) H | none => False) else False := by
  simp only [drunL, dopAt, guardA, gstep, isApg, growG, isStO, Bool.false_eq_true, if_false, dstep, dval, Bool.not_true, Bool.false_or]
  split
  · rename_i v hv
    split at hv
    · rename_i hc
      rw [if_pos hc, hv]
    · cases hv
  · rename_i hv
    split at hv
    · rename_i hc
      rw [if_pos hc, hv]
    · rename_i hc
      rw [if_neg hc]
@[simp] theorem drunL_store {t : TypeId} {x y : Operand} : drunL P T E ops q ({ dst := none, op := .store t x y, type := ty, pos := pos, after := after, guard := none } :: rest) K fr H =
    (farV E q x (ev T fr x) ∧ rootChk ops.toList x (ev T fr x) = true ∧ isL (ev T fr x) = true ∧ storeA P t (ev T fr x) (ev T fr y) (drunL P T E ops q rest K) fr H) := by
  simp only [drunL, dopAt, guardA, gstep, isApg, growG, isStO, Bool.false_eq_true, if_false, dstep, true_implies, true_and, if_true, farC]
@[simp] theorem drunL_buildSlice {t n : Nat} {ps : Array (Nat × Operand)} : drunL P T E ops q ({ dst := d, op := .buildSlice t n ps, type := ty, pos := pos, after := after, guard := none } :: rest) K fr H =
    if d.any E.contains = true then False else match buildSliceA P t n (ps.toList.map fun p => (p.1, ev T fr p.2)) with | some v => drunL P T E ops q rest K (fr.put d v) H | none => False := by
  simp only [drunL, dopAt, guardA, gstep, isApg, growG, isStO, Bool.false_eq_true, if_false, dstep, dval]
  split
  · rename_i v hv
    split at hv
    · cases hv
    · rename_i hc
      rw [if_neg hc, hv]
  · rename_i hv
    split at hv
    · rename_i hc
      rw [if_pos hc]
    · rename_i hc
      rw [if_neg hc, hv]
@[simp] theorem drunL_append {x y : Operand} {t d : Nat} : drunL P T E ops q ({ dst := some d, op := .call { callee := .builtin .append, args := #[x, y], argTypes := #[t, t] }, type := ty, pos := pos, after := after, guard := none } :: rest) K fr H =
    if E.contains d = true then AppG P t (ev T fr x) (ev T fr y) d (drunL P T E ops q rest K) fr H else AppAt P t (ev T fr x) (ev T fr y) d (drunL P T E ops q rest K) fr H := by
  simp only [drunL, dopAt, guardA, gstep, isApg, growG, isStO, Bool.false_eq_true, if_false, dstep, Option.any_some]
  split
  · rename_i hc; first | exact appendG_eq | (simp only [hc, ↓reduceIte]; exact appendG_eq)
  · rename_i hc; first | exact appendA_eq | (simp only [hc, ↓reduceIte]; exact appendA_eq)
@[simp] theorem drunL_call {f : Operand} {as : Array Operand} {ts : Array TypeId} : drunL P T E ops q ({ dst := d, op := .call { callee := .value f, args := as, argTypes := ts }, type := ty, pos := pos, after := after, guard := none } :: rest) K fr H =
    CallAtD P T E ops q (ev T fr f) (as.toList.map fun x => (ev T fr x).norm) d rest K fr H := by
  simp only [drunL, dopAt, guardA, gstep, isApg, growG, isStO, Bool.false_eq_true, if_false, dstep, true_implies, CallAtD]
@[simp] theorem drunL_len {as : Array Operand} {ts : Array TypeId} : drunL P T E ops q ({ dst := d, op := .call { callee := .builtin .len, args := as, argTypes := ts }, type := ty, pos := pos, after := after, guard := none } :: rest) K fr H =
    match callA P T fr { callee := .builtin .len, args := as, argTypes := ts } with | some v => drunL P T E ops q rest K (fr.put d v) H | none => False := rfl
@[simp] theorem drunL_max {as : Array Operand} {ts : Array TypeId} : drunL P T E ops q ({ dst := d, op := .call { callee := .builtin .max, args := as, argTypes := ts }, type := ty, pos := pos, after := after, guard := none } :: rest) K fr H =
    match callA P T fr { callee := .builtin .max, args := as, argTypes := ts } with | some v => drunL P T E ops q rest K (fr.put d v) H | none => False := rfl
@[simp] theorem drunL_min {as : Array Operand} {ts : Array TypeId} : drunL P T E ops q ({ dst := d, op := .call { callee := .builtin .min, args := as, argTypes := ts }, type := ty, pos := pos, after := after, guard := none } :: rest) K fr H =
    match callA P T fr { callee := .builtin .min, args := as, argTypes := ts } with | some v => drunL P T E ops q rest K (fr.put d v) H | none => False := rfl
@[simp] theorem drunL_pick {c a b : Operand} : drunL P T E ops q ({ dst := d, op := .pick c a b, type := ty, pos := pos, after := after, guard := none } :: rest) K fr H =
    match aval P T fr { dst := d, op := .pick c a b, type := ty, pos := pos, after := after, guard := none } with | some v => drunL P T E ops q rest K (fr.put d v) H | none => False := rfl
@[simp] theorem drunL_build {t : TypeId} {ps : Array (Nat × Operand)} : drunL P T E ops q ({ dst := d, op := .build t ps, type := ty, pos := pos, after := after, guard := none } :: rest) K fr H =
    match buildA P t (ps.toList.map fun p => (p.1, ev T fr p.2)) with | some v => drunL P T E ops q rest K (fr.put d v) H | none => False := rfl
@[simp] theorem drunL_binOp {o : BinOp} {t u : TypeId} {x y : Operand} : drunL P T E ops q ({ dst := d, op := .binOp o t x y u, type := ty, pos := pos, after := after, guard := none } :: rest) K fr H =
    match binC P o t y (ev T fr x) (ev T fr y) with | some v => drunL P T E ops q rest K (fr.put d v) H | none => False := rfl
@[simp] theorem drunL_unOp {o : UnOp} {t : TypeId} {x : Operand} : drunL P T E ops q ({ dst := d, op := .unOp o t x, type := ty, pos := pos, after := after, guard := none } :: rest) K fr H =
    match unA o (ev T fr x) with | some v => drunL P T E ops q rest K (fr.put d v) H | none => False := rfl
@[simp] theorem drunL_convert {s t : TypeId} {x : Operand} : drunL P T E ops q ({ dst := d, op := .convert s t x, type := ty, pos := pos, after := after, guard := none } :: rest) K fr H =
    match convA P s t (ev T fr x) with | some v => drunL P T E ops q rest K (fr.put d v) H | none => False := rfl
@[simp] theorem drunL_makeFunc {fn : Fn} {f c : Array Operand} : drunL P T E ops q ({ dst := d, op := .makeFunc fn f c, type := ty, pos := pos, after := after, guard := none } :: rest) K fr H =
    drunL P T E ops q rest K (fr.put d (.func fn (f.toList.map fun x => (ev T fr x).norm) (c.toList.map fun x => (ev T fr x).norm))) H := rfl
@[simp] theorem drunL_fieldAddr {t i : Nat} {x : Operand} : drunL P T E ops q ({ dst := d, op := .fieldAddr t x i, type := ty, pos := pos, after := after, guard := none } :: rest) K fr H =
    match fieldAddrA P t (ev T fr x) i with | some v => drunL P T E ops q rest K (fr.put d v) H | none => False := rfl
@[simp] theorem drunL_field {t i : Nat} {x : Operand} : drunL P T E ops q ({ dst := d, op := .field t x i, type := ty, pos := pos, after := after, guard := none } :: rest) K fr H =
    match fieldA P t (ev T fr x) i with | some v => drunL P T E ops q rest K (fr.put d v) H | none => False := rfl
@[simp] theorem drunL_indexAddr {t : TypeId} {x i : Operand} : drunL P T E ops q ({ dst := d, op := .indexAddr t x i, type := ty, pos := pos, after := after, guard := none } :: rest) K fr H =
    match indexAddrA P t (ev T fr x) (ev T fr i) with | some v => drunL P T E ops q rest K (fr.put d v) H | none => False := rfl
@[simp] theorem drunL_index {t : TypeId} {x i : Operand} : drunL P T E ops q ({ dst := d, op := .index t x i, type := ty, pos := pos, after := after, guard := none } :: rest) K fr H =
    match indexA P t (ev T fr x) (ev T fr i) with | some v => drunL P T E ops q rest K (fr.put d v) H | none => False := rfl
@[simp] theorem drunL_slice {t : TypeId} {x : Operand} {lo hi mx : Option Operand} : drunL P T E ops q ({ dst := d, op := .slice t x lo hi mx, type := ty, pos := pos, after := after, guard := none } :: rest) K fr H =
    match sliceA P t (ev T fr x) (lo.map (ev T fr)) (hi.map (ev T fr)) (mx.map (ev T fr)) with | some v => drunL P T E ops q rest K (fr.put d v) H | none => False := rfl
@[simp] theorem drunL_extract {i : Nat} {x : Operand} : drunL P T E ops q ({ dst := d, op := .extract x i, type := ty, pos := pos, after := after, guard := none } :: rest) K fr H =
    match aval P T fr { dst := d, op := .extract x i, type := ty, pos := pos, after := after, guard := none } with | some v => drunL P T E ops q rest K (fr.put d v) H | none => False := rfl
@[simp] theorem drunL_nilCheck {x : Operand} : drunL P T E ops q ({ dst := d, op := .nilCheck x, type := ty, pos := pos, after := after, guard := none } :: rest) K fr H =
    match aval P T fr { dst := d, op := .nilCheck x, type := ty, pos := pos, after := after, guard := none } with | some v => drunL P T E ops q rest K (fr.put d v) H | none => False := rfl
@[simp] theorem drunL_makeInterface {t : TypeId} {x : Operand} : drunL P T E ops q ({ dst := d, op := .makeInterface t x, type := ty, pos := pos, after := after, guard := none } :: rest) K fr H =
    match aval P T fr { dst := d, op := .makeInterface t x, type := ty, pos := pos, after := after, guard := none } with | some v => drunL P T E ops q rest K (fr.put d v) H | none => False := rfl

/-- An operation under a guard. -/
@[simp] theorem drunL_guard {op : Op} {j : Nat} {want : Bool} : drunL P T E ops q ({ dst := d, op := op, type := ty, pos := pos, after := after, guard := some (j, want) } :: rest) K fr H =
    match (ops[j]?).bind (·.dst) with
    | some g => match fr.env g with
      | .sc (.bool b) => if b = want then drunL P T E ops q ({ dst := d, op := op, type := ty, pos := pos, after := after, guard := none } :: rest) K fr H else drunL P T E ops q rest K (fr.put d (.tuple [])) H
      | .tuple _ => drunL P T E ops q rest K (fr.put d (.tuple [])) H
      | _ => False
    | none => False := by
  simp only [drunL, dopAt, guardA]
  cases hd : (ops[j]?).bind (·.dst) with
  | none => rfl
  | some g =>
    simp only
    cases he : fr.env g with
    | sc v =>
      cases v with
      | bool b =>
        simp only
        by_cases hw : b = want
        · subst hw
          simp only [beq_self_eq_true, if_true]
          rfl
        · rw [if_neg hw]
          have : (b == want) = false := by simpa using hw
          rw [this]
      | _ => rfl
    | _ => rfl

end

/-! ### frames -/

@[simp] theorem Fr.put_some (fr : Fr) (d : Nat) (x : AV) : fr.put (some d) x = { fr with env := upd fr.env d x } := rfl
@[simp] theorem Fr.put_none (fr : Fr) (x : AV) : fr.put none x = fr := rfl
@[simp] theorem upd_app {α : Type} (f : Nat → α) (i : Nat) (x : α) (j : Nat) : upd f i x j = if j = i then x else f j := rfl

@[simp] theorem cells_undef  : AV.cells (.undef : AV) = [(.undef : AV)] := rfl
@[simp] theorem notTuple_undef  : notTuple (.undef : AV) = true := rfl
@[simp] theorem ncell_undef  : AV.ncell (.undef : AV) = (.undef : AV) := rfl
@[simp] theorem norm_undef  : AV.norm (.undef : AV) = (.undef : AV) := rfl
@[simp] theorem fits_undef (P : Program) (ty : TypeId)  : fitsB P ty (.undef : AV) = match layOf P ty with | some (false, _) => true | _ => false := by
  unfold fitsB
  cases layOf P ty with
  | none => rfl
  | some p => obtain ⟨b, k⟩ := p; cases b <;> rfl
@[simp] theorem cells_sc (v : Value) : AV.cells (.sc v : AV) = [(.sc v : AV)] := rfl
@[simp] theorem notTuple_sc (v : Value) : notTuple (.sc v : AV) = true := rfl
@[simp] theorem ncell_sc (v : Value) : AV.ncell (.sc v : AV) = (.sc v : AV) := rfl
@[simp] theorem norm_sc (v : Value) : AV.norm (.sc v : AV) = (.sc v : AV) := rfl
@[simp] theorem fits_sc (P : Program) (ty : TypeId) (v : Value) : fitsB P ty (.sc v : AV) = match layOf P ty with | some (false, _) => true | _ => false := by
  unfold fitsB
  cases layOf P ty with
  | none => rfl
  | some p => obtain ⟨b, k⟩ := p; cases b <;> rfl
@[simp] theorem cells_rptr (x : AV) : AV.cells (.rptr x : AV) = [(.rptr x : AV)] := rfl
@[simp] theorem notTuple_rptr (x : AV) : notTuple (.rptr x : AV) = true := rfl
@[simp] theorem ncell_rptr (x : AV) : AV.ncell (.rptr x : AV) = (.rptr x : AV) := rfl
@[simp] theorem norm_rptr (x : AV) : AV.norm (.rptr x : AV) = (.rptr x : AV) := rfl
@[simp] theorem fits_rptr (P : Program) (ty : TypeId) (x : AV) : fitsB P ty (.rptr x : AV) = match layOf P ty with | some (false, _) => true | _ => false := by
  unfold fitsB
  cases layOf P ty with
  | none => rfl
  | some p => obtain ⟨b, k⟩ := p; cases b <;> rfl
@[simp] theorem cells_lptr (b g o : Nat) : AV.cells (.lptr b g o : AV) = [(.lptr b g o : AV)] := rfl
@[simp] theorem notTuple_lptr (b g o : Nat) : notTuple (.lptr b g o : AV) = true := rfl
@[simp] theorem ncell_lptr (b g o : Nat) : AV.ncell (.lptr b g o : AV) = .undef := rfl
@[simp] theorem norm_lptr (b g o : Nat) : AV.norm (.lptr b g o : AV) = .undef := rfl
@[simp] theorem fits_lptr (P : Program) (ty : TypeId) (b g o : Nat) : fitsB P ty (.lptr b g o : AV) = match layOf P ty with | some (false, _) => true | _ => false := by
  unfold fitsB
  cases layOf P ty with
  | none => rfl
  | some p => obtain ⟨b, k⟩ := p; cases b <;> rfl
@[simp] theorem cells_lsl (b g o c : Nat) : AV.cells (.lsl b g o c : AV) = [(.lsl b g o c : AV)] := rfl
@[simp] theorem notTuple_lsl (b g o c : Nat) : notTuple (.lsl b g o c : AV) = true := rfl
@[simp] theorem ncell_lsl (b g o c : Nat) : AV.ncell (.lsl b g o c : AV) = .undef := rfl
@[simp] theorem norm_lsl (b g o c : Nat) : AV.norm (.lsl b g o c : AV) = .undef := rfl
@[simp] theorem fits_lsl (P : Program) (ty : TypeId) (b g o c : Nat) : fitsB P ty (.lsl b g o c : AV) = match layOf P ty with | some (false, _) => true | _ => false := by
  unfold fitsB
  cases layOf P ty with
  | none => rfl
  | some p => obtain ⟨b, k⟩ := p; cases b <;> rfl
@[simp] theorem cells_gptr (o f : Nat) : AV.cells (.gptr o f : AV) = [(.gptr o f : AV)] := rfl
@[simp] theorem notTuple_gptr (o f : Nat) : notTuple (.gptr o f : AV) = true := rfl
@[simp] theorem ncell_gptr (o f : Nat) : AV.ncell (.gptr o f : AV) = (.gptr o f : AV) := rfl
@[simp] theorem norm_gptr (o f : Nat) : AV.norm (.gptr o f : AV) = (.gptr o f : AV) := rfl
@[simp] theorem fits_gptr (P : Program) (ty : TypeId) (o f : Nat) : fitsB P ty (.gptr o f : AV) = match layOf P ty with | some (false, _) => true | _ => false := by
  unfold fitsB
  cases layOf P ty with
  | none => rfl
  | some p => obtain ⟨b, k⟩ := p; cases b <;> rfl
@[simp] theorem cells_mptr (o : Nat) : AV.cells (.mptr o : AV) = [(.mptr o : AV)] := rfl
@[simp] theorem notTuple_mptr (o : Nat) : notTuple (.mptr o : AV) = true := rfl
@[simp] theorem ncell_mptr (o : Nat) : AV.ncell (.mptr o : AV) = (.mptr o : AV) := rfl
@[simp] theorem norm_mptr (o : Nat) : AV.norm (.mptr o : AV) = (.mptr o : AV) := rfl
@[simp] theorem fits_mptr (P : Program) (ty : TypeId) (o : Nat) : fitsB P ty (.mptr o : AV) = match layOf P ty with | some (false, _) => true | _ => false := by
  unfold fitsB
  cases layOf P ty with
  | none => rfl
  | some p => obtain ⟨b, k⟩ := p; cases b <;> rfl
@[simp] theorem cells_gsl (o s l c : Nat) : AV.cells (.gsl o s l c : AV) = [(.gsl o s l c : AV)] := rfl
@[simp] theorem notTuple_gsl (o s l c : Nat) : notTuple (.gsl o s l c : AV) = true := rfl
@[simp] theorem ncell_gsl (o s l c : Nat) : AV.ncell (.gsl o s l c : AV) = (.gsl o s l c : AV) := rfl
@[simp] theorem norm_gsl (o s l c : Nat) : AV.norm (.gsl o s l c : AV) = (.gsl o s l c : AV) := rfl
@[simp] theorem isOne_gsl (o s l c : Nat) : AV.isOne (.gsl o s l c) = true := rfl
@[simp] theorem fits_gsl (P : Program) (ty : TypeId) (o s l c : Nat) : fitsB P ty (.gsl o s l c : AV) = match layOf P ty with | some (false, _) => true | _ => false := by
  unfold fitsB
  cases layOf P ty with
  | none => rfl
  | some p => obtain ⟨b, k⟩ := p; cases b <;> rfl
@[simp] theorem lenA_gsl {P : Program} {t : TypeId} {b s n c : Nat} : lenA P t (.gsl b s n c) = match P.underlying t with | some (.slice _) => some (.sc (.int .i64 n)) | some (.array n _) => some (.sc (.int .i64 n)) | _ => none := by
  unfold lenA
  cases P.underlying t with
  | none => rfl
  | some y => cases y <;> rfl
@[simp] theorem indexAddrA_gsl {P : Program} {t : TypeId} {k : IntKind} {a : Int} {b s n c : Nat} : indexAddrA P t (.gsl b s n c) (.sc (.int k a)) =
    match P.underlying t with
    | some (.slice e) => match layOf P e with
      | some (_, sz) => if 0 ≤ a ∧ a < (n : Int) then some (.gptr b (s + a.toNat * sz)) else none
      | none => none
    | _ => none := by
  unfold indexAddrA
  cases P.underlying t with
  | none => rfl
  | some y => cases y <;> rfl
@[simp] theorem okObj_nil : okObj [] = false := rfl
@[simp] theorem okObj_cons (c : AV) (cs : List AV) : okObj (c :: cs) = c.isOne := rfl
@[simp] theorem isOne_sc (v : Value) : AV.isOne (.sc v) = true := rfl
@[simp] theorem isOne_rptr (x : AV) : AV.isOne (.rptr x) = true := rfl
@[simp] theorem isOne_lptr (b g o : Nat) : AV.isOne (.lptr b g o) = true := rfl
@[simp] theorem isOne_gptr (o f : Nat) : AV.isOne (.gptr o f) = true := rfl
@[simp] theorem isOne_mptr (o : Nat) : AV.isOne (.mptr o) = true := rfl
@[simp] theorem isOne_slice (t : Tag) (l : List AV) : AV.isOne (.slice t l) = true := rfl
@[simp] theorem isOne_func (f : Fn) (a c : List AV) : AV.isOne (.func f a c) = true := rfl
@[simp] theorem isOne_undef : AV.isOne .undef = true := rfl
@[simp] theorem isOne_lsl (b g l c : Nat) : AV.isOne (.lsl b g l c) = true := rfl
@[simp] theorem isOne_iface (t : TypeId) (x : AV) : AV.isOne (.iface t x) = true := rfl
@[simp] theorem cells_slice (t : Tag) (l : List AV) : AV.cells (.slice t l : AV) = [(.slice t l : AV)] := rfl
@[simp] theorem notTuple_slice (t : Tag) (l : List AV) : notTuple (.slice t l : AV) = true := rfl
@[simp] theorem ncell_slice (t : Tag) (l : List AV) : AV.ncell (.slice t l : AV) = .slice .frz l := rfl
@[simp] theorem norm_slice (t : Tag) (l : List AV) : AV.norm (.slice t l : AV) = .slice .frz l := rfl
@[simp] theorem fits_slice (P : Program) (ty : TypeId) (t : Tag) (l : List AV) : fitsB P ty (.slice t l : AV) = match layOf P ty with | some (false, _) => true | _ => false := by
  unfold fitsB
  cases layOf P ty with
  | none => rfl
  | some p => obtain ⟨b, k⟩ := p; cases b <;> rfl
@[simp] theorem cells_agg (cs : List AV) : AV.cells (.agg cs : AV) = cs := rfl
@[simp] theorem notTuple_agg (cs : List AV) : notTuple (.agg cs : AV) = true := rfl
@[simp] theorem ncell_agg (cs : List AV) : AV.ncell (.agg cs : AV) = (.agg cs : AV) := rfl
@[simp] theorem norm_agg (cs : List AV) : AV.norm (.agg cs : AV) = .agg (cs.map AV.ncell) := rfl
@[simp] theorem fits_agg (P : Program) (ty : TypeId) (cs : List AV) : fitsB P ty (.agg cs) = match layOf P ty with | some (true, n) => cs.length == n | _ => false := by
  unfold fitsB
  cases layOf P ty with
  | none => rfl
  | some p => obtain ⟨b, k⟩ := p; cases b <;> rfl
@[simp] theorem cells_tuple (cs : List AV) : AV.cells (.tuple cs : AV) = [(.tuple cs : AV)] := rfl
@[simp] theorem notTuple_tuple (cs : List AV) : notTuple (.tuple cs : AV) = false := rfl
@[simp] theorem ncell_tuple (cs : List AV) : AV.ncell (.tuple cs : AV) = (.tuple cs : AV) := rfl
@[simp] theorem norm_tuple (cs : List AV) : AV.norm (.tuple cs : AV) = (.tuple cs : AV) := rfl
@[simp] theorem cells_func (f : Fn) (a c : List AV) : AV.cells (.func f a c : AV) = [(.func f a c : AV)] := rfl
@[simp] theorem notTuple_func (f : Fn) (a c : List AV) : notTuple (.func f a c : AV) = true := rfl
@[simp] theorem ncell_func (f : Fn) (a c : List AV) : AV.ncell (.func f a c : AV) = (.func f a c : AV) := rfl
@[simp] theorem norm_func (f : Fn) (a c : List AV) : AV.norm (.func f a c : AV) = (.func f a c : AV) := rfl
@[simp] theorem fits_func (P : Program) (ty : TypeId) (f : Fn) (a c : List AV) : fitsB P ty (.func f a c : AV) = match layOf P ty with | some (false, _) => true | _ => false := by
  unfold fitsB
  cases layOf P ty with
  | none => rfl
  | some p => obtain ⟨b, k⟩ := p; cases b <;> rfl
@[simp] theorem cells_iface (t : TypeId) (x : AV) : AV.cells (.iface t x : AV) = [(.iface t x : AV)] := rfl
@[simp] theorem notTuple_iface (t : TypeId) (x : AV) : notTuple (.iface t x : AV) = true := rfl
@[simp] theorem ncell_iface (t : TypeId) (x : AV) : AV.ncell (.iface t x : AV) = (.iface t x : AV) := rfl
@[simp] theorem norm_iface (t : TypeId) (x : AV) : AV.norm (.iface t x : AV) = (.iface t x : AV) := rfl
@[simp] theorem fits_iface (P : Program) (ty : TypeId) (t : TypeId) (x : AV) : fitsB P ty (.iface t x : AV) = match layOf P ty with | some (false, _) => true | _ => false := by
  unfold fitsB
  cases layOf P ty with
  | none => rfl
  | some p => obtain ⟨b, k⟩ := p; cases b <;> rfl

/-- Whether a slice is the frame's own, by what the frame keeps of it. -/
def canGrowT (tab : Nat → Option Nat) (tgen : Nat → Nat) (tag : Tag) (l : List AV) : Bool :=
  match tag with
  | .frz => false
  | .full => true
  | .loc k g => g == tgen k && tab k == some l.length
@[simp] theorem canGrow_eq (fr : Fr) (tag : Tag) (l : List AV) : canGrow fr tag l = canGrowT fr.tab fr.tgen tag l := rfl
@[simp] theorem canGrowT_full (tab : Nat → Option Nat) (tgen : Nat → Nat) (l : List AV) : canGrowT tab tgen .full l = true := rfl
@[simp] theorem canGrowT_frz (tab : Nat → Option Nat) (tgen : Nat → Nat) (l : List AV) : canGrowT tab tgen .frz l = false := rfl
@[simp] theorem canGrowT_loc (tab : Nat → Option Nat) (tgen : Nat → Nat) (k g : Nat) (l : List AV) : canGrowT tab tgen (.loc k g) l = (g == tgen k && tab k == some l.length) := rfl
@[simp] theorem headOk_nil (sz : Nat) : headOk sz [] = true := rfl
@[simp] theorem headOk_cons (sz : Nat) (x : AV) (l : List AV) : headOk sz (x :: l) = (x.cells.length == sz) := rfl
theorem headOk_of {sz : Nat} {l : List AV} (h : ∀ x ∈ l, x.cells.length = sz) : headOk sz l = true := by
  cases l with
  | nil => rfl
  | cons x l => simp [h x (by simp)]
theorem headOk_map {α : Type} {f : α → AV} {sz : Nat} (h : ∀ x, (f x).cells.length = sz) (l : List α) : headOk sz (l.map f) = true := headOk_of (by intro x hx; obtain ⟨y, _, rfl⟩ := List.mem_map.1 hx; exact h y)

/-- The heap with another object at a place. -/
def hset (H : Heap) (o : Nat) (c : List AV) : Heap := H.set o c
@[simp] theorem hset_set {H : Heap} {o : Nat} {x y : List AV} : List.set (hset H o x) o y = hset H o y := by simp [hset]
@[simp] theorem hset_hset {H : Heap} {o : Nat} {x y : List AV} : hset (hset H o x) o y = hset H o y := by simp [hset]
@[simp] theorem hset_length {H : Heap} {o : Nat} {x : List AV} : (hset H o x).length = H.length := by simp [hset]

section
variable {P : Program} {t : TypeId} {k k' : IntKind} {a b : Int} {u v : ByteArray} {p q : Bool}
@[simp] theorem binC_tmp {i : Nat} {u v : AV} {op : BinOp} : binC P op t (.tmp i) u v = binA P op t u v := rfl
@[simp] theorem binC_int {i : Int} {u v : AV} {op : BinOp} : binC P op t (.const (.int k i)) u v = binA P op t u v := rfl
@[simp] theorem binC_bool {i : Bool} {u v : AV} {op : BinOp} : binC P op t (.const (.bool i)) u v = binA P op t u v := rfl
@[simp] theorem binC_str {i : ByteArray} {u v : AV} {op : BinOp} : binC P op t (.const (.string i)) u v = binA P op t u v := rfl
@[simp] theorem binC_ptr {i : Option Addr} {u v : AV} {op : BinOp} : binC P op t (.const (.pointer i)) u v = binA P op t u v := rfl
@[simp] theorem binC_nf {u v : AV} {op : BinOp} : binC P op t (.const .nilFunc) u v = binA P op t u v := rfl
@[simp] theorem binC_map {i : Option Nat} {u v : AV} {op : BinOp} : binC P op t (.const (.map i)) u v = binA P op t u v := rfl
@[simp] theorem binA_add : binA P .add t (.sc (.int k a)) (.sc (.int k b)) = some (.sc (.int k (iadd k a b))) := by simp [binA, binA0, intBin, iadd]
@[simp] theorem binA_sub : binA P .sub t (.sc (.int k a)) (.sc (.int k b)) = some (.sc (.int k (isub k a b))) := by simp [binA, binA0, intBin, isub]
@[simp] theorem binA_mul : binA P .mul t (.sc (.int k a)) (.sc (.int k b)) = some (.sc (.int k (imul k a b))) := by simp [binA, binA0, intBin, imul]
@[simp] theorem binA_quo : binA P .quo t (.sc (.int k a)) (.sc (.int k b)) = if okDiv b = true then some (.sc (.int k (iquo k a b))) else none := by
  by_cases h : b = 0 <;> simp [binA, binA0, intBin, iquo, okDiv, h]
@[simp] theorem binA_rem : binA P .rem t (.sc (.int k a)) (.sc (.int k b)) = if okDiv b = true then some (.sc (.int k (irem k a b))) else none := by
  by_cases h : b = 0 <;> simp [binA, binA0, intBin, irem, okDiv, h]
@[simp] theorem binA_and : binA P .and t (.sc (.int k a)) (.sc (.int k b)) = some (.sc (.int k (iand k a b))) := by simp [binA, binA0, intBin, iand]
@[simp] theorem binA_or : binA P .or t (.sc (.int k a)) (.sc (.int k b)) = some (.sc (.int k (ior k a b))) := by simp [binA, binA0, intBin, ior]
@[simp] theorem binA_xor : binA P .xor t (.sc (.int k a)) (.sc (.int k b)) = some (.sc (.int k (ixor k a b))) := by simp [binA, binA0, intBin, ixor]
@[simp] theorem binA_andNot : binA P .andNot t (.sc (.int k a)) (.sc (.int k b)) = some (.sc (.int k (iandn k a b))) := by simp [binA, binA0, intBin, iandn]
@[simp] theorem binA_shl : binA P .shl t (.sc (.int k a)) (.sc (.int k' b)) = if okSh b = true then some (.sc (.int k (ishl k a b))) else none := by
  by_cases h : b < 0 <;> simp [binA, binA0, ishl, okSh, h]
@[simp] theorem binA_shr : binA P .shr t (.sc (.int k a)) (.sc (.int k' b)) = if okSh b = true then some (.sc (.int k (ishr k a b))) else none := by
  by_cases h : b < 0 <;> simp [binA, binA0, ishr, okSh, h]
@[simp] theorem binA_eql : binA P .eql t (.sc (.int k a)) (.sc (.int k b)) = some (.sc (.bool (ieq a b))) := by simp [binA, binA0, intBin, ieq]
@[simp] theorem binA_neq : binA P .neq t (.sc (.int k a)) (.sc (.int k b)) = some (.sc (.bool (ine a b))) := by simp [binA, binA0, intBin, ine]
@[simp] theorem binA_lss : binA P .lss t (.sc (.int k a)) (.sc (.int k b)) = some (.sc (.bool (ilt a b))) := by simp [binA, binA0, intBin, ilt]
@[simp] theorem binA_leq : binA P .leq t (.sc (.int k a)) (.sc (.int k b)) = some (.sc (.bool (ile a b))) := by simp [binA, binA0, intBin, ile]
@[simp] theorem binA_gtr : binA P .gtr t (.sc (.int k a)) (.sc (.int k b)) = some (.sc (.bool (igt a b))) := by simp [binA, binA0, intBin, igt]
@[simp] theorem binA_geq : binA P .geq t (.sc (.int k a)) (.sc (.int k b)) = some (.sc (.bool (ige a b))) := by simp [binA, binA0, intBin, ige]
@[simp] theorem binA_beq : binA P .eql t (.sc (.bool p)) (.sc (.bool q)) = match P.underlying t with | some .bool => some (.sc (.bool (beqB p q))) | _ => none := by
  unfold binA binA0 beqB
  cases P.underlying t with
  | none => rfl
  | some y => cases y <;> rfl
@[simp] theorem binA_bne : binA P .neq t (.sc (.bool p)) (.sc (.bool q)) = match P.underlying t with | some .bool => some (.sc (.bool (bneB p q))) | _ => none := by
  unfold binA binA0 bneB
  cases P.underlying t with
  | none => rfl
  | some y => cases y <;> rfl
@[simp] theorem binA_sadd : binA P .add t (.sc (.string u)) (.sc (.string v)) = if okCat u v = true then some (.sc (.string (u ++ v))) else none := by
  by_cases h : ((u.size + v.size : Nat) : Int) > IntKind.i64.max
  · simp only [binA, binA0, strBin, if_pos h, okCat, h]; simp
  · simp only [binA, binA0, strBin, if_neg h, okCat, h]; simp
@[simp] theorem binA_seq : binA P .eql t (.sc (.string u)) (.sc (.string v)) = some (.sc (.bool (seq u v))) := by simp [binA, binA0, strBin, seq]
@[simp] theorem binA_sne : binA P .neq t (.sc (.string u)) (.sc (.string v)) = some (.sc (.bool (sne u v))) := by simp [binA, binA0, strBin, sne]
@[simp] theorem unA_neg : unA .neg (.sc (.int k a)) = some (.sc (.int k (ineg k a))) := by simp [unA, ineg]
@[simp] theorem unA_not : unA .not (.sc (.bool p)) = some (.sc (.bool (bnot p))) := by simp [unA, bnot]
@[simp] theorem max2A_int : max2A (.sc (.int k a)) (.sc (.int k' b)) = some (.sc (.int k (imax a b))) := rfl
@[simp] theorem min2A_int : min2A (.sc (.int k a)) (.sc (.int k' b)) = some (.sc (.int k (imin a b))) := rfl
@[simp] theorem convA_int {s d : TypeId} : convA P s d (.sc (.int k a)) = match P.underlying s, P.underlying d with | some _, some (.int k') => some (.sc (.int k' (conv k' a))) | _, _ => none := by
  unfold convA convA0 conv
  cases P.underlying s with
  | none => rfl
  | some x => cases P.underlying d with
    | none => rfl
    | some y => cases y <;> rfl
@[simp] theorem convA_str {s d : TypeId} : convA P s d (.sc (.string u)) = match P.underlying s, P.underlying d with | some _, some .string => some (.sc (.string u)) | _, _ => none := by
  unfold convA convA0
  cases P.underlying s with
  | none => rfl
  | some x => cases P.underlying d with
    | none => rfl
    | some y => cases y <;> rfl
theorem bytesA_map (l : List Int) : bytesA (l.map fun n => AV.sc (.int .u8 n)) = some l := by
  induction l with
  | nil => rfl
  | cons n l ih => simp [bytesA, ih]
@[simp] theorem convA_bytes {s d : TypeId} {tag : Tag} {l : List Int} : convA P s d (.slice tag (l.map fun n => AV.sc (.int .u8 n))) = match P.underlying s, P.underlying d with
    | some (.slice e), some .string => match P.underlying e with | some (.int .u8) => some (.sc (.string (bstr l))) | _ => none
    | _, _ => none := by
  simp only [convA, convB, bstr, bytesA_map]
  have key : ∀ ue : Option TypeDesc, (match ue, some l with | some (.int .u8), some ns => some (AV.sc (.string (strOfNums ns))) | _, _ => none) = (match ue with | some (.int .u8) => some (AV.sc (.string (strOfNums l))) | _ => none) := by
    intro ue
    cases ue with
    | none => rfl
    | some z => cases z <;> first | rfl | (rename_i k; cases k <;> rfl)
  generalize P.underlying s = us
  generalize P.underlying d = ud
  cases us with
  | none => rfl
  | some x =>
    cases x <;> first | rfl | skip
    cases ud with
    | none => rfl
    | some y => cases y <;> first | rfl | exact key _
@[simp] theorem convA_byte1 {s d : TypeId} {tag : Tag} {n : Int} : convA P s d (.slice tag [.sc (.int .u8 n)]) = match P.underlying s, P.underlying d with
    | some (.slice e), some .string => match P.underlying e with | some (.int .u8) => some (.sc (.string (bstr [n]))) | _ => none
    | _, _ => none := convA_bytes (tag := tag) (l := [n])
@[simp] theorem lenA_map {α : Type} {f : α → AV} {tag : Tag} {l : List α} : lenA P t (.slice tag (l.map f)) = match P.underlying t with | some (.slice _) => some (.sc (.int .i64 (llen l))) | some (.array n _) => some (.sc (.int .i64 n)) | _ => none := by
  unfold lenA llen
  cases P.underlying t with
  | none => rfl
  | some y => cases y <;> simp
@[simp] theorem lenA_nil {tag : Tag} : lenA P t (.slice tag []) = match P.underlying t with | some (.slice _) => some (.sc (.int .i64 0)) | some (.array n _) => some (.sc (.int .i64 n)) | _ => none := by
  unfold lenA
  cases P.underlying t with
  | none => rfl
  | some y => cases y <;> rfl
@[simp] theorem lenA_cons {tag : Tag} {x : AV} {l : List AV} : lenA P t (.slice tag (x :: l)) = match P.underlying t with | some (.slice _) => some (.sc (.int .i64 ((l.length + 1 : Nat) : Int))) | some (.array n _) => some (.sc (.int .i64 n)) | _ => none := by
  unfold lenA
  cases P.underlying t with
  | none => rfl
  | some y => cases y <;> rfl
@[simp] theorem lenA_str : lenA P t (.sc (.string u)) = match P.underlying t with | some .string => some (.sc (.int .i64 (slen u))) | some (.array n _) => some (.sc (.int .i64 n)) | _ => none := by
  unfold lenA slen
  cases P.underlying t with
  | none => rfl
  | some y => cases y <;> rfl
@[simp] theorem indexAddrA_map {α : Type} {f : α → AV} {tag : Tag} {l : List α} : indexAddrA P t (.slice tag (l.map f)) (.sc (.int k a)) =
    match P.underlying t with
    | some (.slice e) => match lget l a, layOf P e with
      | some x, some (_, sz) => if (f x).cells.length = sz then some (.rptr (f x)) else none
      | _, _ => none
    | _ => none := by
  unfold indexAddrA lget
  cases P.underlying t with
  | none => rfl
  | some y =>
    cases y <;> try rfl
    rename_i e
    simp only [List.getElem?_map]
    by_cases h : 0 ≤ a
    · rw [if_pos h, if_pos h]
      cases l[a.toNat]? with
      | none => rfl
      | some x => cases layOf P e <;> rfl
    · rw [if_neg h, if_neg h]
@[simp] theorem indexAddrA_cons {tag : Tag} {x : AV} {l : List AV} : indexAddrA P t (.slice tag (x :: l)) (.sc (.int k a)) =
    match P.underlying t with
    | some (.slice e) => if 0 ≤ a then (match (x :: l)[a.toNat]?, layOf P e with
      | some y, some (_, sz) => if y.cells.length = sz then some (.rptr y) else none
      | _, _ => none) else none
    | _ => none := by
  unfold indexAddrA
  cases P.underlying t with
  | none => rfl
  | some y => cases y <;> rfl
theorem indexAddrA_tab {α : Type} {f : α → AV} {L : List α} {n e : Nat} (hu : P.underlying t = some (.array n e)) (hl : layOf P e = some (false, 1)) (hn : L.length = n) :
    indexAddrA P t (.rptr (.agg (L.map f))) (.sc (.int k a)) = (lget L a).map fun x => .rptr (f x) := by
  unfold indexAddrA lget
  simp only [hu, hl, Nat.mul_one]
  unfold readAt
  simp only [hl, AV.cells]
  by_cases h : 0 ≤ a
  · rw [if_pos h]
    by_cases h2 : a < n
    · rw [if_pos ⟨h, h2⟩]
      simp only [List.getElem?_map]
      cases L[a.toNat]? <;> rfl
    · rw [if_neg (fun h' => h2 h'.2), List.getElem?_eq_none (by omega)]
      rfl
  · rw [if_neg h, if_neg (fun h' => h h'.1)]
    rfl
@[simp] theorem indexA_str : indexA P t (.sc (.string u)) (.sc (.int k a)) = match P.underlying t with | some .string => (sget u a).map fun b => .sc (.int .u8 b) | _ => none := by
  unfold indexA sget
  cases P.underlying t with
  | none => rfl
  | some y =>
    cases y <;> try rfl
    simp only
    by_cases h : 0 ≤ a
    · rw [if_pos h, if_pos h]
      cases u[a.toNat]? <;> rfl
    · rw [if_neg h, if_neg h]
      rfl
end

attribute [simp] ev ofValue ofCell isSc allocA makeMapA loadA readAt fieldAddrA fieldA buildA fillA buildSliceA setCells isPtr foldA callA aval
  rootChk rootOp rootOf isG isL fr0 resA oneOrTuple thenQ

@[simp] theorem storeA_lptr {P : Program} {t : TypeId} {b g off : Nat} {v : AV} {K : Fr → Heap → Prop} {fr : Fr} {H : Heap} : storeA P t (.lptr b g off) v K fr H =
    match layOf P t with
    | none => False
    | some (_, n) => match fr.box b with
      | some cs => g = fr.gen b ∧ v.cells.length = n ∧ off + n ≤ cs.length ∧ notTuple v = true ∧ K { fr with box := upd fr.box b (some (setCells cs off v.cells)) } H
      | none => False := by
  unfold storeA
  cases layOf P t with
  | none => rfl
  | some p => rfl
@[simp] theorem storeA_gptr {P : Program} {t : TypeId} {o off : Nat} {v : AV} {K : Fr → Heap → Prop} {fr : Fr} {H : Heap} : storeA P t (.gptr o off) v K fr H =
    match layOf P t with
    | none => False
    | some (_, n) => match H[o]? with
      | some cs => okObj cs = true ∧ v.cells.length = n ∧ off + n ≤ cs.length ∧ notTuple v = true ∧ K fr (H.set o (setCells cs off v.norm.cells))
      | none => False := by
  unfold storeA
  cases layOf P t with
  | none => rfl
  | some p => rfl

/-- A loop as a round, and what holds at its head, with a number that falls. -/
theorem AWp.loopF {P : Program} {T : Tabs} {n : Nat} {Q : Exit → Fr → Heap → Prop} {fr : Fr} {H : Heap} {c : Code} (I : Nat → Fr → Heap → Prop) (m : Nat) (h0 : I m fr H)
    (hr : ∀ m fr H, I m fr H → ∀ K : Fr → Heap → Prop, (∀ fr' H' m', m' < m → I m' fr' H' → K fr' H') → AWp P T n c (thenQ K Q) fr H) : AWp P T n (.loop c) Q fr H := by
  refine AWp.loop ?_
  have key : ∀ k fr H, I k fr H → ALp P T n c Q fr H := by
    intro k
    induction k using Nat.strongRecOn with
    | _ k ih =>
      intro fr H hI
      refine ALp.round (AWp.mono (hr k fr H hI (fun fr' H' => ∃ m', m' < k ∧ I m' fr' H') fun fr' H' m' h1 h2 => ⟨m', h1, h2⟩) ?_)
      intro e fr' H' hq
      cases e with
      | normal => obtain ⟨m', h1, h2⟩ := hq; exact ih m' h1 fr' H' h2
      | _ => exact hq
  exact key m fr H h0

def CondAt (v : AV) (A B : Prop) : Prop := match v with | .sc (.bool t) => if t = true then A else B | _ => False
@[simp] theorem CondAt_bool (t : Bool) (A B : Prop) : CondAt (.sc (.bool t)) A B = if t = true then A else B := rfl

section
variable {P : Program} {T : Tabs} {n : Nat} {Q : Exit → Fr → Heap → Prop} {fr : Fr} {H : Heap}

theorem AWp.condK {c : Operand} {x y : Code}
    (h : ∀ A B : Fr → Heap → Prop, (∀ fr H, AWp P T n x Q fr H → A fr H) → (∀ fr H, AWp P T n y Q fr H → B fr H) → CondAt (ev T fr c) (A fr H) (B fr H)) (hk : okOperand c = true := by rfl) : AWp P T n (.cond c x y) Q fr H := by
  have h' := h (AWp P T n x Q) (AWp P T n y Q) (fun _ _ h => h) (fun _ _ h => h)
  generalize hv : ev T fr c = v at h'
  cases v with
  | sc w =>
    cases w with
    | bool t =>
      refine AWp.cond hv hk (fun ht => ?_) (fun ht => ?_)
      · subst ht; simpa using h'
      · subst ht; simpa using h'
    | _ => exact h'.elim
  | _ => exact h'.elim

/-- A region, and what follows. -/
theorem AWp.sr {id : Nat} {ops : Array Oper} {y : Code} (E : List Nat) (h : ∀ K : Fr → Heap → Prop, (∀ fr H, AWp P T n y Q fr H → K fr H) → arun P T E ops ops.toList K fr H) (hfit : opsFit n ops = true := by decide +kernel) : AWp P T n (.seq (.region id ops false) y) Q fr H :=
  AWp.seqK fun K hk => AWp.region E hfit (h K hk)

/-- Two pieces of code, with what holds between them. -/
theorem AWp.seqP {x y : Code} (R : Fr → Heap → Prop) (h1 : ∀ K : Fr → Heap → Prop, (∀ fr H, R fr H → K fr H) → AWp P T n x (thenQ K Q) fr H) (h2 : ∀ fr H, R fr H → AWp P T n y Q fr H) : AWp P T n (.seq x y) Q fr H :=
  AWp.seq ((h1 R fun _ _ h => h).mono fun e fr' H' hq => by cases e <;> first | exact h2 _ _ hq | exact hq)

end

theorem ite_intro {c : Prop} [Decidable c] {A B : Prop} (h1 : c → A) (h2 : ¬ c → B) : if c then A else B := by
  split
  · exact h1 ‹_›
  · exact h2 ‹_›

theorem ite_introN {c : Prop} [Decidable c] {A B : Prop} (h2 : ¬ c → B) (h1 : c → A) : if c then A else B := ite_intro h1 h2


@[simp] theorem range_one : List.range 1 = [0] := rfl
@[simp] theorem range_n2 : List.range 2 = [0, 1] := rfl
@[simp] theorem range_n3 : List.range 3 = [0, 1, 2] := rfl
@[simp] theorem range_n4 : List.range 4 = [0, 1, 2, 3] := rfl
@[simp] theorem range_n5 : List.range 5 = [0, 1, 2, 3, 4] := rfl
@[simp] theorem range_n6 : List.range 6 = [0, 1, 2, 3, 4, 5] := rfl
@[simp] theorem range_n7 : List.range 7 = [0, 1, 2, 3, 4, 5, 6] := rfl
@[simp] theorem range_n8 : List.range 8 = [0, 1, 2, 3, 4, 5, 6, 7] := rfl
@[simp] theorem range_n9 : List.range 9 = [0, 1, 2, 3, 4, 5, 6, 7, 8] := rfl
@[simp] theorem range_n10 : List.range 10 = [0, 1, 2, 3, 4, 5, 6, 7, 8, 9] := rfl
@[simp] theorem range_n11 : List.range 11 = [0, 1, 2, 3, 4, 5, 6, 7, 8, 9, 10] := rfl
@[simp] theorem range_n12 : List.range 12 = [0, 1, 2, 3, 4, 5, 6, 7, 8, 9, 10, 11] := rfl
@[simp] theorem range_n13 : List.range 13 = [0, 1, 2, 3, 4, 5, 6, 7, 8, 9, 10, 11, 12] := rfl


section
variable {P : Program} {t e sz : Nat} {bl : Bool} {tag : Tag} {α : Type} {k k' k2 : IntKind} {a b : Int} {u : ByteArray}
theorem bnd_int (h : 0 ≤ a) : bnd (some (.sc (.int k a))) = some (some a.toNat) := by simp [bnd, h]
theorem bnd_neg (h : ¬ 0 ≤ a) : bnd (some (.sc (.int k a))) = none := by simp [bnd, h]
theorem sliceA_none1 {x : AV} {lo hi : Option AV} (h : bnd lo = none) : sliceA P t x lo hi none = none := by unfold sliceA; rw [h]
theorem sliceA_none2 {x : AV} {lo hi : Option AV} {lo' : Option Nat} (h1 : bnd lo = some lo') (h : bnd hi = none) : sliceA P t x lo hi none = none := by unfold sliceA; rw [h1, h]
theorem sliceA_strO {lo hi : Option AV} {lo' hi' : Option Nat} (h1 : bnd lo = some lo') (h2 : bnd hi = some hi') : sliceA P t (.sc (.string u)) lo hi none = match P.underlying t with
    | some .string => if hi'.getD u.size ≤ u.size ∧ lo'.getD 0 ≤ hi'.getD u.size then some (.sc (.string (u.extract (lo'.getD 0) (hi'.getD u.size)))) else none
    | _ => none := by
  unfold sliceA
  rw [h1, h2]
  simp only [bnd]
  generalize P.underlying t = ut
  cases ut with
  | none => rfl
  | some y => cases y <;> first | rfl | (simp only [Option.isNone_none, true_and])
theorem sliceA_lstO {lo hi : Option AV} {lo' hi' : Option Nat} (h1 : bnd lo = some lo') (h2 : bnd hi = some hi') (f : α → AV) (l : List α) (hu : P.underlying t = some (.slice e)) (hl : layOf P e = some (bl, sz)) (hc : ∀ x, (f x).cells.length = sz) :
    sliceA P t (.slice tag (l.map f)) lo hi none = if hi'.getD l.length ≤ l.length ∧ lo'.getD 0 ≤ hi'.getD l.length then some (.slice .frz (((l.take (hi'.getD l.length)).drop (lo'.getD 0)).map f)) else none := by
  have h : headOk sz (l.map f) = true := by
    cases l with
    | nil => rfl
    | cons x l => simp [headOk, hc x]
  unfold sliceA
  rw [h1, h2]
  simp only [bnd, hu, hl, h, and_true, List.length_map]
  simp
@[simp] theorem sliceA_str : sliceA P t (.sc (.string u)) (some (.sc (.int k a))) (some (.sc (.int k' b))) none = match P.underlying t with | some .string => (sslice u a b).map fun s => .sc (.string s) | _ => none := by
  have hz : ∀ ut : Option TypeDesc, (match ut with | some .string => (none : Option AV) | _ => none) = none := fun ut => by cases ut with | none => rfl | some y => cases y <;> rfl
  unfold sslice
  by_cases h1 : 0 ≤ a
  · by_cases h2 : 0 ≤ b
    · rw [sliceA_strO (bnd_int h1) (bnd_int h2)]
      simp only [h1, h2, true_and, Option.getD_some]
      by_cases h3 : b.toNat ≤ u.size ∧ a.toNat ≤ b.toNat
      · rw [if_pos h3, if_pos h3]; rfl
      · rw [if_neg h3, if_neg h3]; rfl
    · rw [sliceA_none2 (bnd_int h1) (bnd_neg h2), if_neg (fun h => h2 h.2.1)]
      exact (hz _).symm
  · rw [sliceA_none1 (bnd_neg h1), if_neg (fun h => h1 h.1)]
    exact (hz _).symm
@[simp] theorem sliceA_strL : sliceA P t (.sc (.string u)) (some (.sc (.int k a))) none none = match P.underlying t with | some .string => (sslice u a (slen u)).map fun s => .sc (.string s) | _ => none := by
  have hz : ∀ ut : Option TypeDesc, (match ut with | some .string => (none : Option AV) | _ => none) = none := fun ut => by cases ut with | none => rfl | some y => cases y <;> rfl
  unfold sslice slen
  by_cases h1 : 0 ≤ a
  · rw [sliceA_strO (bnd_int h1) (hi := none) (hi' := none) rfl]
    simp only [h1, true_and, Option.getD_some, Option.getD_none, Int.toNat_natCast, Int.natCast_nonneg]
    by_cases h3 : u.size ≤ u.size ∧ a.toNat ≤ u.size
    · rw [if_pos h3, if_pos h3]; rfl
    · rw [if_neg h3, if_neg h3]; rfl
  · rw [sliceA_none1 (bnd_neg h1), if_neg (fun h => h1 h.1)]
    exact (hz _).symm
@[simp] theorem sliceA_strH : sliceA P t (.sc (.string u)) none (some (.sc (.int k b))) none = match P.underlying t with | some .string => (sslice u 0 b).map fun s => .sc (.string s) | _ => none := by
  have hz : ∀ ut : Option TypeDesc, (match ut with | some .string => (none : Option AV) | _ => none) = none := fun ut => by cases ut with | none => rfl | some y => cases y <;> rfl
  unfold sslice
  by_cases h2 : 0 ≤ b
  · rw [sliceA_strO (lo := none) (lo' := none) rfl (bnd_int h2)]
    simp only [h2, true_and, Option.getD_some, Option.getD_none, Int.toNat_zero, Int.le_refl]
    by_cases h3 : b.toNat ≤ u.size ∧ 0 ≤ b.toNat
    · rw [if_pos h3, if_pos h3]; rfl
    · rw [if_neg h3, if_neg h3]; rfl
  · rw [sliceA_none2 (lo := none) (lo' := none) rfl (bnd_neg h2), if_neg (fun h => h2 h.2.1)]
    exact (hz _).symm

/-- Parts of slices. -/
theorem sliceA_lst (f : α → AV) (l : List α) (hu : P.underlying t = some (.slice e)) (hl : layOf P e = some (bl, sz)) (hc : ∀ x, (f x).cells.length = sz) :
    sliceA P t (.slice tag (l.map f)) (some (.sc (.int k a))) (some (.sc (.int k' b))) none = (lslice l a b).map fun r => .slice .frz (r.map f) := by
  unfold lslice
  by_cases h1 : 0 ≤ a
  · by_cases h2 : 0 ≤ b
    · rw [sliceA_lstO (bnd_int h1) (bnd_int h2) f l hu hl hc]
      simp only [h1, h2, true_and, Option.getD_some]
      by_cases h3 : b.toNat ≤ l.length ∧ a.toNat ≤ b.toNat
      · rw [if_pos h3, if_pos h3]; rfl
      · rw [if_neg h3, if_neg h3]; rfl
    · rw [sliceA_none2 (bnd_int h1) (bnd_neg h2), if_neg (fun h => h2 h.2.1)]; rfl
  · rw [sliceA_none1 (bnd_neg h1), if_neg (fun h => h1 h.1)]; rfl
theorem sliceA_lstL (f : α → AV) (l : List α) (hu : P.underlying t = some (.slice e)) (hl : layOf P e = some (bl, sz)) (hc : ∀ x, (f x).cells.length = sz) :
    sliceA P t (.slice tag (l.map f)) (some (.sc (.int k a))) none none = (lslice l a (llen l)).map fun r => .slice .frz (r.map f) := by
  unfold lslice llen
  by_cases h1 : 0 ≤ a
  · rw [sliceA_lstO (bnd_int h1) (hi := none) (hi' := none) rfl f l hu hl hc]
    simp only [h1, true_and, Option.getD_some, Option.getD_none, Int.toNat_natCast, Int.natCast_nonneg]
    by_cases h3 : l.length ≤ l.length ∧ a.toNat ≤ l.length
    · rw [if_pos h3, if_pos h3]; rfl
    · rw [if_neg h3, if_neg h3]; rfl
  · rw [sliceA_none1 (bnd_neg h1), if_neg (fun h => h1 h.1)]; rfl
theorem sliceA_lstH (f : α → AV) (l : List α) (hu : P.underlying t = some (.slice e)) (hl : layOf P e = some (bl, sz)) (hc : ∀ x, (f x).cells.length = sz) :
    sliceA P t (.slice tag (l.map f)) none (some (.sc (.int k b))) none = (lslice l 0 b).map fun r => .slice .frz (r.map f) := by
  unfold lslice
  by_cases h2 : 0 ≤ b
  · rw [sliceA_lstO (lo := none) (lo' := none) rfl (bnd_int h2) f l hu hl hc]
    simp only [h2, true_and, Option.getD_some, Option.getD_none, Int.toNat_zero, Int.le_refl]
    by_cases h3 : b.toNat ≤ l.length ∧ 0 ≤ b.toNat
    · rw [if_pos h3, if_pos h3]; rfl
    · rw [if_neg h3, if_neg h3]; rfl
  · rw [sliceA_none2 (lo := none) (lo' := none) rfl (bnd_neg h2), if_neg (fun h => h2 h.2.1)]; rfl
end

/-- A slice that is cut to its own length has no room behind. -/
theorem sliceA_all {P : Program} {t e sz : Nat} {b : Bool} {tag : Tag} {α : Type} (f : α → AV) (l : List α) (hu : P.underlying t = some (.slice e)) (hl : layOf P e = some (b, sz)) (hc : ∀ x, (f x).cells.length = sz) :
    sliceA P t (.slice tag (l.map f)) none (some (.sc (.int .i64 (Go.Mdl.llen l)))) (some (.sc (.int .i64 (Go.Mdl.llen l)))) = some (.slice .full (l.map f)) := by
  have h : headOk sz (l.map f) = true := by
    cases l with
    | nil => rfl
    | cons x l => simp [headOk, hc x]
  simp [sliceA, bnd, hu, hl, h, Go.Mdl.llen, ← List.map_take]

/-! ### maps -/

/-- A map's content. -/
def mapC {α : Type} (f : α → AV) (l : List (Int × α)) : AV := .mapc (l.map fun p => Value.int .i64 p.1) (l.map fun p => f p.2)

@[simp] theorem mapC_nil {α : Type} (f : α → AV) : mapC f [] = .mapc [] [] := rfl

theorem mapC_idx {α : Type} (l : List (Int × α)) (k : Int) : mapIdx (l.map fun p => Value.int .i64 p.1) (.int .i64 k) = l.findIdx? (fun p => p.1 == k) := by
  unfold mapIdx
  rw [List.findIdx?_map]
  rfl

theorem mapC_keys {α : Type} (l : List (Int × α)) : (l.map fun p => Value.int .i64 p.1).all (keyB (.int .i64)) = true := by
  rw [List.all_eq_true]
  intro x hx
  obtain ⟨p, _, rfl⟩ := List.mem_map.1 hx
  rfl

theorem mapC_put {α : Type} (f : α → AV) : ∀ (l : List (Int × α)) (k : Int) (y : α), mapPut (l.map fun p => Value.int .i64 p.1) (l.map fun p => f p.2) (.int .i64 k) (f y) = mapC f (mput l k y)
  | [], k, y => rfl
  | p :: l, k, y => by
    have ih := mapC_put f l k y
    unfold mapPut at ih ⊢
    rw [mapC_idx] at ih ⊢
    rw [List.findIdx?_cons]
    unfold mput
    by_cases h : p.1 = k
    · subst h
      simp [mapC]
    · rw [if_neg (by simpa using h), if_neg h]
      cases hi : l.findIdx? (fun p => p.1 == k) with
      | none =>
        rw [hi] at ih
        simp only [mapC, AV.mapc.injEq] at ih
        simp [mapC, ← ih.1, ← ih.2]
      | some j =>
        rw [hi] at ih
        simp only [mapC, AV.mapc.injEq] at ih
        simp [mapC, ← ih.1, ← ih.2]

theorem mapC_get {α : Type} (f : α → AV) : ∀ (l : List (Int × α)) (k : Int), (l.findIdx? (fun p => p.1 == k) = none → mget l k = none) ∧ ∀ j, l.findIdx? (fun p => p.1 == k) = some j → ∃ y, mget l k = some y ∧ (l.map fun p => f p.2)[j]? = some (f y)
  | [], k => by simp [mget]
  | p :: l, k => by
    obtain ⟨i1, i2⟩ := mapC_get f l k
    rw [List.findIdx?_cons]
    unfold mget
    by_cases h : p.1 = k
    · subst h
      simp
    · rw [if_neg (by simpa using h), if_neg h]
      cases hi : l.findIdx? (fun p => p.1 == k) with
      | none => exact ⟨fun _ => i1 hi, by simp⟩
      | some j =>
        refine ⟨by simp, ?_⟩
        intro j' hj'
        simp at hj'
        subst hj'
        simpa using i2 j hi

section
variable {P : Program} {t kt e : TypeId} {o : Nat} {k : Int} {α : Type} {f : α → AV} {d : Option Nat} {K : Fr → Heap → Prop} {fr : Fr} {H : Heap}

theorem MapU.i64 (l : List (Int × α)) (y : α) {v : AV} (hu : P.underlying t = some (.map kt e)) (hk : P.underlying kt = some (.int .i64)) (ho : H[o]? = some [mapC f l]) (hv : v.norm = f y) (hK : K fr (hset H o [mapC f (mput l k y)])) :
    mapUpdA P t (.mptr o) (.sc (.int .i64 k)) v K fr H := by
  unfold mapUpdA
  simp only [hu, hk, ho]
  refine ⟨rfl, mapC_keys l, ?_⟩
  rw [hv, mapC_put]
  exact hK

theorem LookAt.i64 (l : List (Int × α)) (z : α) (hu : P.underlying t = some (.map kt e)) (hk : P.underlying kt = some (.int .i64)) (ho : H[o]? = some [mapC f l]) (hz : zvalA P e = some (f z)) (hK : K (fr.put d (f (mgetD l k z))) H) :
    LookAt P t (.mptr o) (.sc (.int .i64 k)) false d K fr H := by
  have key : lookupA P H t (.mptr o) (.sc (.int .i64 k)) false = some (f (mgetD l k z)) := by
    unfold lookupA
    simp only [hu, hk, ho, hz, mapC]
    rw [if_pos ⟨rfl, mapC_keys l⟩, mapC_idx]
    obtain ⟨g1, g2⟩ := mapC_get f l k
    cases hi : l.findIdx? (fun p => p.1 == k) with
    | none => simp [mgetD, g1 hi]
    | some j =>
      obtain ⟨y, h1, h2⟩ := g2 j hi
      simp [mgetD, h1, h2]
  unfold LookAt
  rw [key]
  exact hK

theorem LookAt.i64ok (l : List (Int × α)) (z : α) (hu : P.underlying t = some (.map kt e)) (hk : P.underlying kt = some (.int .i64)) (ho : H[o]? = some [mapC f l]) (hz : zvalA P e = some (f z))
    (hK : K (fr.put d (.tuple [f (mgetD l k z), .sc (.bool (mhas l k))])) H) : LookAt P t (.mptr o) (.sc (.int .i64 k)) true d K fr H := by
  have key : lookupA P H t (.mptr o) (.sc (.int .i64 k)) true = some (.tuple [f (mgetD l k z), .sc (.bool (mhas l k))]) := by
    unfold lookupA
    simp only [hu, hk, ho, hz, mapC]
    rw [if_pos ⟨rfl, mapC_keys l⟩, mapC_idx]
    obtain ⟨g1, g2⟩ := mapC_get f l k
    cases hi : l.findIdx? (fun p => p.1 == k) with
    | none => simp [mgetD, mhas, g1 hi]
    | some j =>
      obtain ⟨y, h1, h2⟩ := g2 j hi
      simp [mgetD, mhas, h1, h2]
  unfold LookAt
  rw [key]
  exact hK
end

end Go.Abs
