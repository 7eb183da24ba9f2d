/- The program's functions do what the models say. -/
import Derived.Test.YtgcimcppginchaaGreatDoorRE
import Derived.Test.YtgcimcppginchaaGreatDoorRM
set_option maxRecDepth 20000
set_option maxHeartbeats 4000000
set_option linter.unusedSimpArgs false
set_option linter.unusedVariables false
namespace Go.Proofs.YtgcimcppginchaaGreatDoor
open Go Go.Abs Go.Mdl

theorem r_value_nodes_1 : C1 Tryz.prog 45 value_nodes_1 sB sI := by
 intro T H a0 r hm
 rw [value_nodes_1] at hm
 have e:=trivial
 refine wi mixed Tryz.func45 [] [] 999 ?_
 cases hm;simp[e]


theorem r_slices_IndexFunc_int_int (T : Tabs) {S : Type} {st : S → Heap} {k : Nat} {a0 : (List Int)} {a1 : (S → Int → Option (Bool × S))} {sv0 : S} {r0 : Int} {sv1 : S} {g1 : Nat} {cap1 : List AV} (hF : Fam st k) (hw1 : Does106 T g1 cap1 st a1) (hm : slices_IndexFunc_int_int a0 a1 sv0 = some (r0, sv1)) : ACall Tryz.prog T 59 [sL sI a0, AV.func (.func g1) [] cap1] (st sv0) (sI r0) (st sv1) := by
 rw [slices_IndexFunc_int_int] at hm
 have e:=hF.len
 refine wi mixed Tryz.func59 [] [] 999 ?_
 simp[e]
 refine Wr e hm 999 (fun j1 s2 f h=>h=st s2∧f.1 0=sL sI a0∧f.1 1=AV.func (.func g1) [] cap1∧f.1 7=sI (llen a0)∧f.1 8=sI j1) (by simp[e]) (fun s2 fr3 h3 K4 E m=>?_) (fun j1 x5 s2 fr3 h3 K4 n6 c7 E e m z8 hK9=>?_)
 ·have e:=Aj e E
  dsimp only[sumK_inl]at m
  cases m;simp[e]
 have e:=Aj e E
 obtain ⟨x10,x11,e,m⟩:=Bo2 e m
 simp[e]
 refine CallAt.clo (by rfl) (Does106.at0 hw1 e.2) ?_
 rcases Io e m with ⟨e,m⟩|⟨e,m⟩
 ·cases m;cases z8;simp[e]
 simp[e]
 cases m;exact hK9 _ _ _ (by simp[e]) z8


theorem r_slices_ContainsFunc_int_int (T : Tabs) {S : Type} {st : S → Heap} {k : Nat} {a0 : (List Int)} {a1 : (S → Int → Option (Bool × S))} {sv0 : S} {r0 : Bool} {sv1 : S} {g1 : Nat} {cap1 : List AV} (hF : Fam st k) (hw1 : Does106 T g1 cap1 st a1) (hm : slices_ContainsFunc_int_int a0 a1 sv0 = some (r0, sv1)) : ACall Tryz.prog T 46 [sL sI a0, AV.func (.func g1) [] cap1] (st sv0) (sB r0) (st sv1) := by
 rw [slices_ContainsFunc_int_int] at hm
 have e:=hF.len
 refine wi mixed Tryz.func46 [] [] 999 ?_
 obtain ⟨x1,s2,e,m⟩:=Bo2 e hm
 simp[e]
 refine Cf (r_slices_IndexFunc_int_int T hF hw1 e.2) ?_
 cases m;simp[e]


theorem rg_value_nodes : ∀ (n : Nat), C1 Tryz.prog 33 (value_nodes n) (t2 sI sB) Vl.av := by
  intro n
  induction n with
  | zero =>
    skip
    all_goals (intro _ _;intros;rename_i hm;cases hm)
  | succ n ih =>
 intro T H a0 r hm
 rw [value_nodes] at hm
 have e:=trivial
 refine wi mixed Tryz.func33 [] [] 6 ?_
 simp[e]
 refine Wj hm 999 2 (fun j1 f h=>∃ (v2:Bool),(h=H∧f.1 1=AV.lptr 1 (f.gen 1) 0∧f.1 5=sB v2∧f.box 1=some (Vl.av a0).cells)∧j1 v2=some r) (fun j1 K3 hk4 m=>?_) ?_
 rotate_left
 ·rintro fr5 h5 ⟨v2,E,m⟩
  have e:=Aj e E
  simp[e]
  refine Wj m 999 999 (fun j6 f h=>∃ (v7:Bool) (v8:Int),(h=H∧f.1 5=sB v7∧f.1 6=sI v8)∧j6 v7 v8=some r) (fun j6 K9 hk10 m=>?_) ?_
  rotate_left
  ·rintro fr11 h11 ⟨v7,v8,E,m⟩
   have e:=Aj e E
   cases m;simp[e]
  simp[e]
  refine Wr e m 999 (fun j12 s13 f h=>h=H∧f.1 5=sB s13.1∧f.1 6=sI s13.2∧f.1 82=sL Vl.av a0.args∧f.1 83=sI (llen a0.args)∧f.1 84=sI j12) (by simp[e]) (fun s13 fr14 h14 K15 E m=>?_) (fun j12 x16 s13 fr14 h14 K15 n17 c18 E e m z19 hK20=>?_)
  ·obtain ⟨v21,v22⟩:=s13
   have e:=Aj e E
   dsimp only[sumK_inl,un2_mk]at m
   simp[e]
   exact hk10 _ _ ⟨v21,v22,by simp[e],m⟩
  obtain ⟨v21,v22⟩:=s13
  have e:=Aj e E
  dsimp only[un2_mk]at m
  rcases Io e m with ⟨e,m⟩|⟨e,m⟩
  rotate_left
  ·cases m
   have m:=Qb z19
   dsimp only[un2_mk]at m
   simp[e]
   exact hk10 _ _ ⟨v21,v22,by simp[e],m⟩
  obtain ⟨x23,x24,e,m⟩:=Bo2 e m
  simp[e]
  refine Cf (ih e.2) ?_
  simp[e]
  cases m;exact hK20 _ _ _ (by simp[e]) z19
 rcases Io e m with ⟨e,m⟩|⟨e,m⟩
 ·rcases Io e m with ⟨e,m⟩|⟨e,m⟩
  rotate_left
  ·simp[e]
   exact hk4 _ _ ⟨false,by simp[e],m⟩
  rcases Io e m with ⟨e,m⟩|⟨e,m⟩
  rotate_left
  ·simp[e]
   exact hk4 _ _ ⟨false,by simp[e],m⟩
  simp[e]
  exact hk4 _ _ ⟨(ieq (llen a0.args) 0),by simp[e],m⟩
 rcases Io e m with ⟨e,m⟩|⟨e,m⟩
 ·rcases Io e m with ⟨e,m⟩|⟨e,m⟩
  rotate_left
  ·simp[e]
   exact hk4 _ _ ⟨false,by simp[e],m⟩
  obtain ⟨x25,s26,e,m⟩:=Bo2 e m
  simp[e]
  refine Cf (r_slices_ContainsFunc_int_int T (st:=fun _:Unit => H) (Fam.const _) (fun X _ _ _ _ h => by obtain ⟨h27,rfl⟩:=pureW_some h; exact r_value_nodes_1 h27) e.2) ?_
  rcases Io e m with ⟨e,m⟩|⟨e,m⟩
  ·simp[e]
   exact hk4 _ _ ⟨false,by simp[e],m⟩
  simp[e]
  exact hk4 _ _ ⟨(ieq (llen a0.args) 0),by simp[e],m⟩
 rcases Io e m with ⟨e,m⟩|⟨e,m⟩
 ·rcases Io e m with ⟨e,m⟩|⟨e,m⟩
  rotate_left
  ·simp[e]
   exact hk4 _ _ ⟨false,by simp[e],m⟩
  rcases Io e m with ⟨e,m⟩|⟨e,m⟩
  rotate_left
  ·simp[e]
   exact hk4 _ _ ⟨false,by simp[e],m⟩
  simp[e]
  exact hk4 _ _ ⟨(ieq (llen a0.args) 2),by simp[e],m⟩
 rcases Io e m with ⟨e,m⟩|⟨e,m⟩
 rotate_left
 ·simp[e]
  exact hk4 _ _ ⟨false,by simp[e],m⟩
 rcases Io e m with ⟨e,m⟩|⟨e,m⟩
 rotate_left
 ·simp[e]
  exact hk4 _ _ ⟨false,by simp[e],m⟩
 rcases Io e m with ⟨e,m⟩|⟨e,m⟩
 rotate_left
 ·simp[e]
  exact hk4 _ _ ⟨false,by simp[e],m⟩
 simp[e]
 exact hk4 _ _ ⟨(ieq (llen a0.args) 0),by simp[e],m⟩
theorem r_value_nodes {n : Nat} : C1 Tryz.prog 33 (value_nodes n) (t2 sI sB) Vl.av := (rg_value_nodes n)

theorem r_value_Check : C1 Tryz.prog 19 value_Check sI Vl.av := by
 intro T H a0 r hm
 rw [value_Check] at hm
 have e:=trivial
 refine wi mixed Tryz.func19 [] [] 999 ?_
 obtain ⟨x1,x2,e,m⟩:=Bo2 e hm
 simp[e]
 refine Cf (r_value_nodes e.2) ?_
 rcases Io e m with ⟨e,m⟩|⟨e,m⟩
 rotate_left
 ·cases m;simp[e]
 rcases Io e m with ⟨e,m⟩|⟨e,m⟩
 ·cases m;simp[e]
 cases m;simp[e]

theorem enters29 : entersB Tryz.prog 29 = true := by kernel_rfl
theorem r_strconv_Itoa (T : Tabs) {H : Heap} {a0 : Int} {r0 : ByteArray} (hm : strconv_Itoa a0 = some r0) : ACall Tryz.prog T 29 [AV.sc (.int .i64 a0)] H (AV.sc (.string r0)) H := by
  unfold strconv_Itoa at hm
  split at hm
  case isFalse => cases hm
  rename_i hs
  obtain rfl := Option.some.inj hm
  obtain ⟨i, rfl⟩ : ∃ i : Nat, a0 = i := ⟨a0.toNat, by omega⟩
  refine ACall.ofCalls enters29 fun G F w vs hg ha => ?_
  obtain ⟨v1, rfl, h1⟩ := prepL1 ha
  cases h1
  refine ⟨_, .sc rfl, (Tryz.strconv_Itoa_small i (by omega) w).mono fun e w' ⟨h1, h2⟩ => ⟨h1, h2 ▸ Go.RowKit.Below.refl _ _⟩⟩


theorem enters30 : entersB Tryz.prog 30 = true := by kernel_rfl
theorem str_cells {F : Imm} {G : Nat → Nat} {n : Nat} : ∀ {l : List ByteArray} {vs : List Value}, PRepL F G n ((l.map fun s => AV.sc (.string s)).flatMap AV.cells) vs → ∀ (i : Nat) (t : ByteArray), l[i]? = some t → vs[i]? = some (.string t)
  | [], vs, h, i, t, hi => by simp at hi
  | x :: l, vs, h, i, t, hi => by
    rw [List.map_cons, List.flatMap_cons] at h
    cases h with | cons a1 h =>
    cases a1
    cases i with
    | zero => obtain rfl := Option.some.inj hi; rfl
    | succ i => exact str_cells h i t (by simpa using hi)
theorem r_strings_Join (T : Tabs) {H : Heap} {a0 : List ByteArray} {a1 r0 : ByteArray} (hm : strings_Join a0 a1 = some r0) : ACall Tryz.prog T 30 [AV.slice .frz (List.map (fun s => AV.sc (.string s)) a0), AV.sc (.string a1)] H (AV.sc (.string r0)) H := by
  unfold strings_Join at hm
  split at hm
  case isFalse => cases hm
  rename_i hs
  obtain rfl := Option.some.inj hm
  refine ACall.ofCalls enters30 fun G F w vs hg ha => ?_
  obtain ⟨v1, v2, rfl, g1, g2⟩ := prepL2 ha
  cases g2
  refine ⟨_, .sc rfl, ?_⟩
  cases g1 with
  | @slice _ _ vs b o base cap sz h1 h2 h3 h4 h5 h6 h7 h8 =>
    rw [List.length_map] at h6 ⊢
    have hcell : ∀ (i : Nat) (v : Value), vs[i]? = some v → w.cell? ⟨b, o + i, none⟩ = some v := fun i v hv => hg.imm b _ v (h2 i v hv)
    cases a0 with
    | nil => exact (Tryz.strings_Join_none base cap a1 w).mono fun e w' ⟨e1, e2⟩ => ⟨e1, e2 ▸ Go.RowKit.Below.refl _ _⟩
    | cons x l =>
      obtain rfl := h3 (by simp)
      have hc0 := hcell 0 _ (str_cells h1 0 x rfl)
      have hb : b < w.heap.size := by
        rcases Nat.lt_or_ge b w.heap.size with h' | h'
        · exact h'
        · unfold World.cell? at hc0
          rw [Array.getElem?_eq_none h'] at hc0
          cases hc0
      exact Tryz.strings_Join b o cap (x :: l) a1 w (fun j y hy => hcell j _ (str_cells h1 j y hy)) hb (by have := hs.1; omega) h6 (by have := hs.2; omega)



theorem rg_report_text : ∀ (n : Nat), C1 Tryz.prog 20 (report_text n) sS Vl.av := by
  intro n
  induction n with
  | zero =>
    skip
    all_goals (intro _ _;intros;rename_i hm;cases hm)
  | succ n ih =>
 intro T H a0 r hm
 rw [report_text] at hm
 have e:=trivial
 refine wi mixed Tryz.func20 [] [] 999 ?_
 rcases Io e hm with ⟨e,m⟩|⟨e,m⟩
 ·obtain ⟨x1,e,m⟩:=Bo1 e m
  simp[e]
  refine Cf (r_strconv_Itoa T e.2) ?_
  cases m;simp[e]
 rcases Io e m with ⟨e,m⟩|⟨e,m⟩
 rotate_left
 ·rcases Io e m with ⟨e,m⟩|⟨e,m⟩
  rotate_left
  ·cases m;simp[e]
  obtain ⟨x2,e,m⟩:=Bo1 e m
  obtain ⟨x3,e,m⟩:=Bo1 e m
  simp[e]
  refine Cs (ih e.2) ?_
  obtain ⟨e,m⟩:=Ck e m
  obtain ⟨e,m⟩:=Ck e m
  obtain ⟨x4,e,m⟩:=Bo1 e m
  obtain ⟨x5,e,m⟩:=Bo1 e m
  simp[e]
  refine Cs (ih e.2) ?_
  obtain ⟨e,m⟩:=Ck e m
  obtain ⟨e,m⟩:=Ck e m
  cases m;simp[e]
 simp[e]
 refine Wr e m 999 (fun j6 s7 f h=>∃ (tg0_8:Tag),(h=H∧f.1 3=sT tg0_8 sS s7∧f.1 16=sL sI a0.list∧f.1 17=sI (llen a0.list)∧f.1 18=sI j6)∧Ow f [26] tg0_8 s7) (by exact ⟨.full,by simp[e],OwnT.full⟩) (fun s7 fr8 h8 K9 E m=>?_) (fun j6 x10 s7 fr8 h8 K9 n11 c12 E e m z13 hK14=>?_)
 ·obtain ⟨tg0_8,E,o0_8⟩:=E
  have e:=Aj e E
  dsimp only[sumK_inl]at m
  obtain ⟨x15,e,m⟩:=Bo1 e m
  simp[e]
  refine Cf (r_strings_Join T e.2) ?_
  obtain ⟨e,m⟩:=Ck e m
  obtain ⟨e,m⟩:=Ck e m
  cases m;simp[e]
 obtain ⟨tg0_8,E,o0_8⟩:=E
 have e:=Aj e E
 obtain ⟨x16,e,m⟩:=Bo1 e m
 simp[e]
 refine Cf (r_strconv_Itoa T e.2) ?_
 obtain ⟨e,m⟩:=Ck e m
 simp[e]
 refine Ao (f:=sS) s7 [x16] o0_8 ap42 e.2 ?_
 simp[e]
 cases m;exact hK14 _ _ _ ⟨(.loc 26 (fr8.tgen 26 + 1)),by simp[e],(On 26)⟩ z13
theorem r_report_text {n : Nat} : C1 Tryz.prog 20 (report_text n) sS Vl.av := (rg_report_text n)

theorem r_report_Value : C1 Tryz.prog 9 report_Value (t2 sS sI) Vl.av := by
 intro T H a0 r hm
 rw [report_Value] at hm
 have e:=trivial
 refine wi mixed Tryz.func9 [] [] 999 ?_
 obtain ⟨x1,e,m⟩:=Bo1 e hm
 simp[e]
 refine Cf (r_value_Check e.2) ?_
 rcases Io e m with ⟨e,m⟩|⟨e,m⟩
 ·cases m;simp[e]
 obtain ⟨x2,e,m⟩:=Bo1 e m
 simp[e]
 refine Cf (r_report_text e.2) ?_
 cases m;simp[e]

section
open Go.RowKit Go.Lib
/-- A table that nothing asks for. -/
def tabD : Tabs := fun g => if g = 1000000 then some (.agg []) else none
theorem gw_own {T : Tabs} {G : Nat → Nat} {F : Imm} {H : Heap} {w : World} (hg : GW T G F H w) : GW tabD G F [] w where
  imm := hg.imm
  glob := by intro o cs h; simp at h
  inj := by intro o o' h; exact absurd h (Nat.not_lt_zero _)
  gF := by intro o j h; exact absurd h (Nat.not_lt_zero _)
  fresh := hg.fresh
  tabs := by
    intro g x h
    unfold tabD at h
    split at h
    · cases h
      exact PRep.rptr (x := .agg []) (vs := []) (show PRepL _ _ _ [] [] from .nil) (fun i v hv => by simp at hv) (fun c hc => by cases hc)
    · cases h
  row := by intro h; have := h 1000000; simp [tabD] at this
/-- What is known of memory, and a value in it. -/
structure VIn (F : Imm) (G : Nat → Nat) (n : Nat) (v : Vl) (x : Value) : Prop where
  rep : PRep F G n (Vl.av v) x
theorem value_calls {T : Tabs} {G : Nat → Nat} {F : Imm} {H : Heap} {w w1 : World} (hg : GW T G F H w) (hb : Below w.heap.size w w1) {v : Vl} {x : Value} (hx : PRep F G H.length (Vl.av v) x) {s : ByteArray} {e0 : Int} (hm : report_Value v = some (s, e0)) :
    Calls Tryz.prog 9 #[x] w1 fun e w' => e = .returned (.tuple #[.string s, .int .i64 e0]) ∧ Below w1.heap.size w1 w' := by
  have h := (r_report_Value (T := tabD) (H := []) hm).calls (v := .tuple #[.string s, .int .i64 e0]) (fun F G x h => by
    cases h with
    | tuple h => cases h with | cons h1 h => cases h with | cons h2 h => cases h; cases h1; cases h2; rfl) (gw_own (hg.below hb)) (vs := [x]) (.cons (hx.lower (by simp)) .nil)
  exact h
theorem vl_shape {F : Imm} {G : Nat → Nat} {n : Nat} {v : Vl} {x : Value} (h : PRep F G n (Vl.av v) x) : ∃ y z, x = .agg #[.int .i64 v.kind, .int .i64 v.num, y, z] := by
  rw [Vl.av_eq] at h
  cases h with
  | agg h _ =>
    cases h with | cons h1 h => cases h with | cons h2 h => cases h with | cons h3 h => cases h with | cons h4 h =>
    cases h; cases h1; cases h2
    exact ⟨_, _, rfl⟩
set_option maxHeartbeats 4000000 in
set_option maxRecDepth 1000000 in
/-- line.add, of a value that is right. -/
theorem add_calls {T : Tabs} {G : Nat → Nat} {F : Imm} {H : Heap} {w w1 : World} (hg : GW T G F H w) (hb : Below w.heap.size w w1) {v : Vl} {x : Value} (hx : PRep F G H.length (Vl.av v) x) {s : ByteArray} (hm : report_Value v = some (s, 0))
    {b : Nat} {acc : List UInt8} (hl : IsLine 93 5 w.heap.size b (.int .i64 0) (Lib.byteCells acc) w1) (wd : ByteArray) (hs : s.size ≤ 1000) (hw : wd.size ≤ 1000) (ha : acc.length ≤ 10000000) :
    Calls Tryz.prog 23 #[.pointer (some ⟨b, 0, none⟩), .string wd, x] w1 fun e w' => e = .returned (.tuple #[]) ∧ IsLine 93 5 w.heap.size b (.int .i64 0) (Lib.byteCells (acc ++ wd.data.toList ++ s.data.toList ++ [32])) w' ∧ Below w.heap.size w w' := by
  obtain ⟨y, z, rfl⟩ := vl_shape hx
  have hbw := hb.size
  have hA := hl.alloc (.cells #[.int .i64 v.kind, .int .i64 v.num, y, z] 29)
  have hbA := hb.alloc hbw (.cells #[.int .i64 v.kind, .int .i64 v.num, y, z] 29)
  go_enter Tryz.func23, Tryz.ntmps23
  go_wp2_with (go_at_call 9; refine (value_calls hg hbA hx hm).mono ?_)
  try simp only [and_imp]
  intro e W1 he b1
  subst he
  have hL1 := hA.below b1
  have hb1 : Below w.heap.size w W1 := hbA.trans (b1.mono hbA.size)
  have c2 : W1.cell? ⟨b, 2, none⟩ = some (.int .i64 0) := hL1.cell2
  have f2 : W1.frozen? ⟨b, 2, none⟩ = false := hL1.frozen 2
  have hL2 := hL1.err (.int .i64 0)
  have hb2 : Below w.heap.size w (W1.setCell ⟨b, 2, none⟩ (.int .i64 0)) := hb1.setCell (p := ⟨b, 2, none⟩) hL1.le _
  have hcat : ((wd ++ s ++ (⟨#[32]⟩ : ByteArray)).size) ≤ 2001 := by
    simp only [ByteArray.size_append]
    have : (⟨#[32]⟩ : ByteArray).size = 1 := rfl
    omega
  go_wp2_with (go_at_call 34; refine (Tryz.lwrite w.heap.size b _ _ _ _ hL2 ?hlen hb2.size).mono ?next)
  case hlen => rw [Lib.byteCells_length]; omega
  try simp only [and_imp]
  intro e W3 he h3 b3
  subst he
  have e3 : Lib.byteCells acc ++ Lib.strCells (wd ++ s ++ (⟨#[32]⟩ : ByteArray)) = Lib.byteCells (acc ++ wd.data.toList ++ s.data.toList ++ [32]) := by
    rw [Lib.strCells_eq, ← Lib.byteCells_append]
    simp [ByteArray.data_append]
  rw [e3] at h3
  go_wp2
  go_end0
  exact ⟨rfl, .inr h3, hb2.trans b3⟩
def isSl (v : Value) : Prop := ∃ b n c, v = .slice b n c
theorem isSl_of {F : Imm} {G : Nat → Nat} {n : Nat} {tag : Tag} {l : List AV} {v : Value} (h : PRep F G n (.slice tag l) v) : isSl v := by
  cases h with | slice _ _ _ _ _ _ _ _ => exact ⟨_, _, _, rfl⟩
/-- The values of inputs in memory. -/
theorem vl_cells {F : Imm} {G : Nat → Nat} {n : Nat} : ∀ {l : List Vl} {vs : List Value}, PRepL F G n ((l.map Vl.av).flatMap AV.cells) vs → ∀ (i : Nat) (t : Vl), l[i]? = some t →
    ∃ y z, vs[i * 4]? = some (.int .i64 t.kind) ∧ vs[i * 4 + 1]? = some (.int .i64 t.num) ∧ vs[i * 4 + 2]? = some y ∧ vs[i * 4 + 3]? = some z ∧ PRep F G n (Vl.av t) (.agg #[.int .i64 t.kind, .int .i64 t.num, y, z]) ∧ isSl y ∧ isSl z
  | [], vs, h, i, t, hi => by simp at hi
  | x :: l, vs, h, i, t, hi => by
    rw [List.map_cons, List.flatMap_cons, Vl.cells_av] at h
    cases h with | cons a1 h => cases h with | cons a2 h => cases h with | cons a3 h => cases h with | cons a4 h =>
    cases i with
    | zero =>
      obtain rfl := Option.some.inj hi
      cases a1; cases a2
      refine ⟨_, _, rfl, rfl, rfl, rfl, ?_, isSl_of a3, isSl_of a4⟩
      rw [Vl.av_eq]
      exact .agg (vs := [_, _, _, _]) (.cons (.sc rfl) (.cons (.sc rfl) (.cons a3 (.cons a4 .nil)))) (by simp [AV.isOne])
    | succ i =>
      obtain ⟨y, z, h1, h2, h3, h4, h5⟩ := vl_cells h i t (by simpa using hi)
      refine ⟨y, z, ?_, ?_, ?_, ?_, h5⟩
      all_goals rw [show (i + 1) * 4 = i * 4 + 1 + 1 + 1 + 1 by omega]
      · simpa using h1
      · rw [show i * 4 + 1 + 1 + 1 + 1 + 1 = (i * 4 + 1) + 1 + 1 + 1 + 1 by omega]; simpa using h2
      · rw [show i * 4 + 1 + 1 + 1 + 1 + 2 = (i * 4 + 2) + 1 + 1 + 1 + 1 by omega]; simpa using h3
      · rw [show i * 4 + 1 + 1 + 1 + 1 + 3 = (i * 4 + 3) + 1 + 1 + 1 + 1 by omega]; simpa using h4
set_option maxHeartbeats 4000000 in
set_option maxRecDepth 1000000 in
/-- report.begin. -/
theorem begin_calls {T : Tabs} {G : Nat → Nat} {F : Imm} {H : Heap} {w w0 : World} (hg : GW T G F H w) (hb0 : Below w.heap.size w w0) (l : List Vl) (base : Option Addr) (b o cap : Nat) (hl : l.length ≤ 1000) (hlc : l.length ≤ cap) (hb : l ≠ [] → b < w.heap.size) (hbase : l ≠ [] → base = some ⟨b, o, none⟩)
    (hc : ∀ (i : Nat) (t : Vl), l[i]? = some t → ∃ y z, w.cell? ⟨b, o + i * 4, none⟩ = some (.int .i64 t.kind) ∧ w.cell? ⟨b, o + i * 4 + 1, none⟩ = some (.int .i64 t.num) ∧ w.cell? ⟨b, o + i * 4 + 2, none⟩ = some y ∧ w.cell? ⟨b, o + i * 4 + 3, none⟩ = some z ∧ PRep F G H.length (Vl.av t) (.agg #[.int .i64 t.kind, .int .i64 t.num, y, z]) ∧ isSl y ∧ isSl z)
    {r : List UInt8} (hm : rowIn l [] = some r) :
    Calls Tryz.prog 22 #[.slice base l.length cap] w0 fun e w' => e = .returned (.pointer (some ⟨w0.heap.size, 0, none⟩)) ∧ IsLine 93 5 w.heap.size w0.heap.size (.int .i64 0) (Lib.byteCells (r ++ [45, 62, 32])) w' ∧ Below w.heap.size w w' ∧ r.length ≤ 1001 * 1000 := by
  have hbw := hb0.size
  go_enter Tryz.func22, Tryz.ntmps22
  go_wp2
  go_loopw [10] (fun s10 wr => ∃ (i : Nat) (acc : List UInt8), s10 = .int .i64 i ∧ i ≤ l.length ∧ IsLine 93 5 w.heap.size w0.heap.size (.int .i64 0) (Lib.byteCells acc) wr ∧ Below w.heap.size w wr ∧ acc.length ≤ 1001 * i ∧ rowIn (l.drop i) acc = some r)
    (fun s10 _ => l.length - (RowKit.intOf s10).toNat)
  case atStart =>
    refine ⟨0, [], rfl, Nat.zero_le _, .inl ⟨hbw, .slice none 0 0, heap_alloc_new w0 _, World.ownsRowF_of (World.ownsRow_nil _ _ _ _), by simp [Value.ownBlock]⟩, hb0.alloc hbw _, Nat.zero_le _, hm⟩
  case round =>
    obtain ⟨i, acc, rfl, hi, hI, hbr, hal, hlt⟩ := hrel
    have hsz := hbr.size
    by_cases hin : i < l.length
    · have hin' : (i : Int) < (l.length : Int) := by omega
      obtain ⟨t, ht⟩ : ∃ t, l[i]? = some t := ⟨_, List.getElem?_eq_getElem hin⟩
      obtain ⟨y, z, c0, c1, c2, c3, hx, ⟨y1, y2, y3, rfl⟩, ⟨z1, z2, z3, rfl⟩⟩ := hc i t ht
      have hne : l ≠ [] := by rintro rfl; simp at hin
      have hbl : b < w.heap.size := hb hne
      obtain rfl := hbase hne
      rw [← hbr.cell hbl] at c0 c1 c2 c3
      have hA := hI.alloc (.cells #[.int .i64 t.kind, .int .i64 t.num, .slice y1 y2 y3, .slice z1 z2 z3] 29)
      have hbA := hbr.alloc hsz (.cells #[.int .i64 t.kind, .int .i64 t.num, .slice y1 y2 y3, .slice z1 z2 z3] 29)
      rw [List.drop_eq_getElem_cons hin, (List.getElem?_eq_some_iff.1 ht).2] at hlt
      unfold rowIn at hlt
      cases hv : report_Value t with
      | none => rw [hv] at hlt; cases hlt
      | some q =>
        obtain ⟨s1, e1⟩ := q
        rw [hv] at hlt
        simp only at hlt
        split at hlt
        case isFalse => cases hlt
        rename_i hs1
        obtain ⟨rfl, hs1⟩ := hs1
        go_wp2_with (go_at_call 23; refine (add_calls hg hbA hx hv hA _ hs1 ?hw1 (by omega)).mono ?next1)
        try simp only [and_imp]
        intro e W1 he hL hb1
        subst he
        go_wp2
        go_roundw
        case rel => exact ⟨i + 1, acc ++ s1.data.toList ++ [32], by simp, by omega, by simpa using hL, hb1, by
            have hs2 : s1.data.toList.length = s1.size := (Lib.size_eq s1).symm
            simp only [List.length_append, hs2, List.length_cons, List.length_nil]
            omega, hlt⟩
        case measure => simp [RowKit.intOf]; omega
    · have hin' : ¬ (i : Int) < (l.length : Int) := by omega
      rw [List.drop_eq_nil_of_le (by omega)] at hlt
      obtain rfl := Option.some.inj hlt
      go_wp2_with (go_at_call 34; refine (Tryz.lwrite w.heap.size w0.heap.size _ _ _ _ hI ?hlen2 hsz).mono ?next2)
      case hlen2 => rw [Lib.byteCells_length]; have : (⟨#[45, 62, 32]⟩ : ByteArray).size = 3 := rfl; omega
      try simp only [and_imp]
      intro e W1 he h1 b1
      subst he
      go_wp2
      go_ret
      refine ⟨rfl, .inr ?_, hbr.trans b1, by omega⟩
      rw [Lib.byteCells_append]
      exact h1
set_option maxHeartbeats 4000000 in
set_option maxRecDepth 1000000 in
/-- line.end. -/
theorem end_calls {w w1 : World} (hb : Below w.heap.size w w1) {b : Nat} {acc : List UInt8} (hl : IsLine 93 5 w.heap.size b (.int .i64 0) (Lib.byteCells acc) w1) (h0 : acc ≠ []) (wd : ByteArray) (hw : wd.size ≤ 1000) (ha : acc.length ≤ 10000000) :
    Calls Tryz.prog 24 #[.pointer (some ⟨b, 0, none⟩), .string wd] w1 fun e w' => e = .returned (.tuple #[.string ⟨(acc ++ wd.data.toList).toArray⟩, .int .i64 0]) ∧ Below w.heap.size w w' := by
  have c2 : w1.cell? ⟨b, 2, none⟩ = some (.int .i64 0) := hl.cell2
  have hsz : ((⟨acc.toArray⟩ : ByteArray) ++ wd).size ≤ 10001000 := by
    simp only [ByteArray.size_append]
    have : (⟨acc.toArray⟩ : ByteArray).size = acc.length := by simp [ByteArray.size]
    omega
  go_enter Tryz.func24, Tryz.ntmps24
  go_wp2_with (go_at_call 35; refine (Tryz.lString w.heap.size b _ acc _ hl h0).mono ?_)
  try simp only [and_imp]
  intro e W1 he b1
  subst he
  go_wp2
  go_ret2
  have e1 : (⟨acc.toArray⟩ : ByteArray) ++ wd = ⟨(acc ++ wd.data.toList).toArray⟩ := by
    have : ∀ (s t : ByteArray), s.data.toList = t.data.toList → s = t := by
      rintro ⟨⟨s⟩⟩ ⟨⟨t⟩⟩ h
      simp only at h
      subst h
      rfl
    exact this _ _ (by simp [ByteArray.data_append])
  rw [← e1]
  exact ⟨rfl, hb.trans b1⟩
set_option maxHeartbeats 600000 in
set_option maxRecDepth 1000000 in
theorem row_calls {T : Tabs} {G : Nat → Nat} {F : Imm} {H : Heap} {w : World} (hg : GW T G F H w) (l : List Vl) (base : Option Addr) (b o cap : Nat) (hl : l.length ≤ 1000) (hlc : l.length ≤ cap) (hb : l ≠ [] → b < w.heap.size) (hbase : l ≠ [] → base = some ⟨b, o, none⟩)
    (hc : ∀ (i : Nat) (t : Vl), l[i]? = some t → ∃ y z, w.cell? ⟨b, o + i * 4, none⟩ = some (.int .i64 t.kind) ∧ w.cell? ⟨b, o + i * 4 + 1, none⟩ = some (.int .i64 t.num) ∧ w.cell? ⟨b, o + i * 4 + 2, none⟩ = some y ∧ w.cell? ⟨b, o + i * 4 + 3, none⟩ = some z ∧ PRep F G H.length (Vl.av t) (.agg #[.int .i64 t.kind, .int .i64 t.num, y, z]) ∧ isSl y ∧ isSl z)
    {r : List UInt8} (hm : rowIn l [] = some r) {v : Vl} {y1 y2 y3 z1 z2 z3} (hx : PRep F G H.length (Vl.av v) (.agg #[.int .i64 v.kind, .int .i64 v.num, .slice y1 y2 y3, .slice z1 z2 z3])) {s : ByteArray} (hv : report_Value v = some (s, 0)) (hs : s.size ≤ 1000) (tb : Bool) (wk : Int) :
    Calls Tryz.prog 11 #[.agg #[.slice base l.length cap, .int .i64 v.kind, .int .i64 v.num, .slice y1 y2 y3, .slice z1 z2 z3, .bool tb, .int .i64 wk]] w fun e w' => e = .returned (.tuple #[.string ⟨(r ++ [45, 62, 32] ++ s.data.toList ++ [32] ++ (if tb then [116, 114, 117, 101] else [102, 97, 108, 115, 101])).toArray⟩, .int .i64 0]) ∧ Below w.heap.size w w' := by
  have hb0 : Below w.heap.size w (w.alloc (.cells #[.slice base l.length cap, .int .i64 v.kind, .int .i64 v.num, .slice y1 y2 y3, .slice z1 z2 z3, .bool tb, .int .i64 wk] 41)) := (Below.refl _ w).alloc (Nat.le_refl _) _
  have hg0 := hg.below hb0
  have hz0 : w.heap.size ≤ (w.alloc (.cells #[.slice base l.length cap, .int .i64 v.kind, .int .i64 v.num, .slice y1 y2 y3, .slice z1 z2 z3, .bool tb, .int .i64 wk] 41)).heap.size := hb0.size
  have q0 : w.heap.size < (w.alloc (.cells #[.slice base l.length cap, .int .i64 v.kind, .int .i64 v.num, .slice y1 y2 y3, .slice z1 z2 z3, .bool tb, .int .i64 wk] 41)).heap.size := by simp
  have hc0 : ∀ (i : Nat) (t : Vl), l[i]? = some t → ∃ y z, (w.alloc (.cells #[.slice base l.length cap, .int .i64 v.kind, .int .i64 v.num, .slice y1 y2 y3, .slice z1 z2 z3, .bool tb, .int .i64 wk] 41)).cell? ⟨b, o + i * 4, none⟩ = some (.int .i64 t.kind) ∧ (w.alloc (.cells #[.slice base l.length cap, .int .i64 v.kind, .int .i64 v.num, .slice y1 y2 y3, .slice z1 z2 z3, .bool tb, .int .i64 wk] 41)).cell? ⟨b, o + i * 4 + 1, none⟩ = some (.int .i64 t.num) ∧ (w.alloc (.cells #[.slice base l.length cap, .int .i64 v.kind, .int .i64 v.num, .slice y1 y2 y3, .slice z1 z2 z3, .bool tb, .int .i64 wk] 41)).cell? ⟨b, o + i * 4 + 2, none⟩ = some y ∧ (w.alloc (.cells #[.slice base l.length cap, .int .i64 v.kind, .int .i64 v.num, .slice y1 y2 y3, .slice z1 z2 z3, .bool tb, .int .i64 wk] 41)).cell? ⟨b, o + i * 4 + 3, none⟩ = some z ∧ PRep F G H.length (Vl.av t) (.agg #[.int .i64 t.kind, .int .i64 t.num, y, z]) ∧ isSl y ∧ isSl z := by
    intro i t ht
    obtain ⟨y, z, h1, h2, h3, h4, h5⟩ := hc i t ht
    have hbl : b < w.heap.size := hb (by rintro rfl; simp at ht)
    rw [← hb0.cell hbl] at h1 h2 h3 h4
    exact ⟨y, z, h1, h2, h3, h4, h5⟩
  have hk : ∀ {W : World}, Below (w.alloc (.cells #[.slice base l.length cap, .int .i64 v.kind, .int .i64 v.num, .slice y1 y2 y3, .slice z1 z2 z3, .bool tb, .int .i64 wk] 41)).heap.size (w.alloc (.cells #[.slice base l.length cap, .int .i64 v.kind, .int .i64 v.num, .slice y1 y2 y3, .slice z1 z2 z3, .bool tb, .int .i64 wk] 41)) W → ∀ j x, (#[.slice base l.length cap, .int .i64 v.kind, .int .i64 v.num, .slice y1 y2 y3, .slice z1 z2 z3, .bool tb, .int .i64 wk] : Array Value)[j]? = some x → W.cell? ⟨w.heap.size, j, none⟩ = some x := by
    intro W hW j x hj
    rw [hW.cell (p := ⟨w.heap.size, j, none⟩) q0, World.cell?_alloc_new]
    exact hj
  go_enter Tryz.func11, Tryz.ntmps11
  go_wp2_with (go_at_call 22; refine (begin_calls hg0 (Below.refl _ _) l base b o cap hl hlc (fun h => Nat.lt_of_lt_of_le (hb h) hz0) hbase hc0 hm).mono ?next1)
  try simp only [and_imp]
  intro e W1 he hL1 b1 hr
  subst he
  generalize hw0 : w.alloc (.cells #[.slice base l.length cap, .int .i64 v.kind, .int .i64 v.num, .slice y1 y2 y3, .slice z1 z2 z3, .bool tb, .int .i64 wk] 41) = w0 at hb0 hg0 hz0 q0 hc0 hk hL1 b1 hr
  have k1 := hk b1 1 _ rfl
  have k2 := hk b1 2 _ rfl
  have k3 := hk b1 3 _ rfl
  have k4 := hk b1 4 _ rfl
  go_wp2_with (go_at_call 23; refine (add_calls hg0 b1 hx hv hL1 _ hs ?hw2 ?hw3).mono ?next2)
  case hw2 => decide
  case hw3 => simp; omega
  try simp only [and_imp]
  intro e W2 he hL2 b2
  subst he
  have m5 := hk b2 5 _ rfl
  go_wp2_with (go_at_call 25; refine (Tryz.strconv_FormatBool tb _).mono ?next3)
  rintro e W3 ⟨he, hw3⟩
  subst he hw3
  go_wp2_with (go_at_call 24; refine (end_calls b2 hL2 (by simp) _ ?hw4 ?hw5).mono ?next4)
  case hw4 => cases tb <;> decide
  case hw5 => simp; omega
  try simp only [and_imp]
  intro e W4 he b3
  subst he
  have hf1 : Lib.formatBool true = [116, 114, 117, 101] := by kernel_rfl
  have hf2 : Lib.formatBool false = [102, 97, 108, 115, 101] := by kernel_rfl
  go_wp2
  all_goals go_ret2
  all_goals refine ⟨?_, hb0.trans (b3.mono hz0)⟩
  all_goals rfl
theorem enters11 : entersB Tryz.prog 11 = true := by kernel_rfl
theorem r_report_Row (T : Tabs) {H : Heap} {a0 : Sapi_Row} {r0 : ByteArray} {r1 : Int} (hm : report_Row a0 = some (r0, r1)) : ACall Tryz.prog T 11 [Sapi_Row.av a0] H (AV.tuple [AV.sc (.string r0), AV.sc (.int .i64 r1)]) H := by
  unfold report_Row at hm
  split at hm
  case isFalse => cases hm
  rename_i hl
  split at hm
  case h_2 => cases hm
  rename_i acc hr
  split at hm
  case h_2 => cases hm
  rename_i s e hv
  split at hm
  case isFalse => cases hm
  rename_i hs
  obtain ⟨rfl, hs⟩ := hs
  obtain ⟨e1, e2⟩ := Prod.mk.inj (Option.some.inj hm)
  rw [← e1, ← e2]
  refine ACall.ofCalls enters11 fun G F w vs hg ha => ?_
  obtain ⟨v1, rfl, h1⟩ := prepL1 ha
  refine ⟨_, .tuple (.cons (.sc rfl) (.cons (.sc rfl) .nil)), ?_⟩
  rw [Sapi_Row.av_eq] at h1
  cases h1 with
  | agg h1 _ =>
    cases h1 with | cons a1 h1 => cases h1 with | cons a2 h1 => cases h1 with | cons a3 h1 => cases h1 with | cons a4 h1 => cases h1 with | cons a5 h1 => cases h1 with | cons a6 h1 => cases h1 with | cons a7 h1 =>
    cases h1; cases a2; cases a3; cases a6; cases a7
    obtain ⟨y1, y2, y3, rfl⟩ := isSl_of a4
    obtain ⟨z1, z2, z3, rfl⟩ := isSl_of a5
    have hx : PRep F G H.length (Vl.av a0.result) (.agg #[.int .i64 a0.result.kind, .int .i64 a0.result.num, .slice y1 y2 y3, .slice z1 z2 z3]) := by
      rw [Vl.av_eq]
      exact .agg (vs := [_, _, _, _]) (.cons (.sc rfl) (.cons (.sc rfl) (.cons a4 (.cons a5 .nil)))) (by simp [AV.isOne])
    cases a1 with
    | @slice _ _ vs b o base cap sz h1 h2 h3 h4 h5 h6 h7 h8 =>
      rw [List.length_map] at h6 ⊢
      have hcell : ∀ (i : Nat) (v : Value), vs[i]? = some v → w.cell? ⟨b, o + i, none⟩ = some v := fun i v hv => hg.imm b _ v (h2 i v hv)
      refine row_calls hg a0.inputs base b o cap hl h6 (fun hne => ?_) (fun hne => h3 (by simpa using hne)) (fun i t ht => ?_) hr hx hv hs a0.trueF a0.work
      · obtain ⟨t, ht⟩ : ∃ t, a0.inputs[0]? = some t := ⟨_, List.getElem?_eq_getElem (List.length_pos_iff.2 hne)⟩
        obtain ⟨y, z, c0, _⟩ := vl_cells h1 0 t ht
        have hc := hcell _ _ c0
        rcases Nat.lt_or_ge b w.heap.size with h' | h'
        · exact h'
        · unfold World.cell? at hc
          rw [Array.getElem?_eq_none h'] at hc
          cases hc
      · obtain ⟨y, z, c0, c1, c2, c3, c4⟩ := vl_cells h1 i t ht
        exact ⟨y, z, hcell _ _ c0, hcell _ _ c1, hcell _ _ c2, hcell _ _ c3, c4⟩
end


theorem r_theory_form (T : Tabs) {H : Heap} {a0 : List Dcl} {a1 : Int} {r0 : Int} (hm : theory_form a0 a1 = some r0) : ACall Tryz.prog T 48 [(sL Dcl.av) a0, sI a1] H (AV.sc (.int .i64 r0)) H := by cases hm


theorem r_theory_formulas : C1 Tryz.prog 50 theory_formulas (sL Fm.av) (sL Dcl.av) := by
 intro T H a0 r hm
 rw [theory_formulas] at hm
 have e:=trivial
 refine wi mixed Tryz.func50 [] [] 999 ?_
 simp[e]
 refine Wr e hm 999 (fun j1 s2 f h=>∃ (tg0_3:Tag),(h=H∧f.1 3=sT tg0_3 Fm.av s2∧f.1 6=sL Dcl.av a0∧f.1 7=sI (llen a0)∧f.1 8=sI j1)∧Ow f [16] tg0_3 s2) (by exact ⟨.full,by simp[e],OwnT.full⟩) (fun s2 fr3 h3 K4 E m=>?_) (fun j1 x5 s2 fr3 h3 K4 n6 c7 E e m z8 hK9=>?_)
 ·obtain ⟨tg0_3,E,o0_3⟩:=E
  have e:=Aj e E
  dsimp only[sumK_inl]at m
  cases m;simp[e]
 obtain ⟨tg0_3,E,o0_3⟩:=E
 have e:=Aj e E
 obtain ⟨e,m⟩:=Ck e m
 simp[e]
 refine Ao (f:=Fm.av) s2 [x5.formula] o0_3 ap65 e.2 ?_
 simp[e]
 cases m;exact hK9 _ _ _ ⟨(.loc 16 (fr3.tgen 16 + 1)),by simp[e],(On 16)⟩ z8

end Go.Proofs.YtgcimcppginchaaGreatDoor
