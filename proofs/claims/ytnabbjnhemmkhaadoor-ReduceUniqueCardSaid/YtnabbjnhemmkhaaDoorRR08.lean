/- The program's functions do what the models say. -/
import Derived.Test.YtnabbjnhemmkhaaDoorRR07
import Derived.Test.YtnabbjnhemmkhaaDoorRM
set_option maxRecDepth 20000
set_option maxHeartbeats 4000000
set_option linter.unusedSimpArgs false
set_option linter.unusedVariables false
namespace Go.Proofs.YtnabbjnhemmkhaaDoor
open Go Go.Abs Go.Mdl

theorem enters26 : entersB Tryd.prog 26 = true := by kernel_rfl

theorem r_reduce_Match (T : Tabs) (hT : T 0 = some (AV.agg (List.map (fun n => AV.sc (Value.int .i64 n)) tree_arities))) {H : Heap} {a0 : Tm} {a1 : Tm} {a2 : Int} {r0 : Int} (hm : reduce_Match a0 a1 a2 = some r0) : ACall Tryd.prog T 26 [Tm.av a0, Tm.av a1, AV.sc (.int .i64 a2)] H (AV.sc (.int .i64 r0)) H := by
  rw [reduce_Match] at hm
  refine ACallP.intro (fn := Tryd.f26) Tryd.func26 rfl enters26 (Nat.le_of_ble_eq_true rfl) ?_
  refine AWp.sr [] fun K1 hk2 => ?_
  simp [hT]
  apply hk2
  refine AWp.seqK fun K3 hk4 => ?_
  refine AWp.sr [] fun K5 hk6 => ?_
  obtain ⟨x7, hx8, hm9⟩ := bind1_some hm
  clear hm
  try dsimp only at hm9
  simp [hT]
  refine CallAt.fn (r_terms_Check T hT hx8) ?_
  simp [hT]
  apply hk6
  refine AWp.sr [] fun K10 hk11 => ?_
  simp [hT]
  apply hk11
  refine AWp.condK fun A12 B13 ga14 gb15 => ?_
  rcases ite_some hm9 with ⟨hc16, hm17⟩ | ⟨hc16, hm18⟩
  · clear hm9
    simp [hT, hc16]
    apply ga14
    refine AWp.sr [] fun K19 hk20 => ?_
    simp [hT, hc16]
    apply hk20
    refine AWp.ret ?_
    obtain rfl := Option.some.inj hm17
    simp [retQ, hT, hc16]
  clear hm9
  simp [hT, hc16]
  apply gb15
  refine AWp.skip ?_
  apply hk4
  refine AWp.seqK fun K21 hk22 => ?_
  refine AWp.sr [] fun K23 hk24 => ?_
  obtain ⟨x25, hx26, hm27⟩ := bind1_some hm18
  clear hm18
  try dsimp only at hm27
  simp [hT, hc16]
  refine CallAt.fn (r_terms_Check T hT hx26) ?_
  simp [hT, hc16]
  apply hk24
  refine AWp.sr [] fun K28 hk29 => ?_
  simp [hT, hc16]
  apply hk29
  refine AWp.condK fun A30 B31 ga32 gb33 => ?_
  rcases ite_some hm27 with ⟨hc34, hm35⟩ | ⟨hc34, hm36⟩
  · clear hm27
    simp [hT, hc16, hc34]
    apply ga32
    refine AWp.sr [] fun K37 hk38 => ?_
    simp [hT, hc16, hc34]
    apply hk38
    refine AWp.ret ?_
    obtain rfl := Option.some.inj hm35
    simp [retQ, hT, hc16, hc34]
  clear hm27
  simp [hT, hc16, hc34]
  apply gb33
  refine AWp.skip ?_
  apply hk22
  refine AWp.seqK fun K39 hk40 => ?_
  refine AWp.sr [] fun K41 hk42 => ?_
  obtain ⟨x43, hx44, hm45⟩ := bind1_some hm36
  clear hm36
  try dsimp only at hm45
  simp [hT, hc16, hc34]
  refine CallAt.fn (r_terms_Same T hx44) ?_
  simp [hT, hc16, hc34]
  apply hk42
  refine AWp.condK fun A46 B47 ga48 gb49 => ?_
  rcases ite_some hm45 with ⟨hc50, hm51⟩ | ⟨hc50, hm52⟩
  · clear hm45
    simp [hT, hc16, hc34, hc50]
    apply ga48
    refine AWp.sr [] fun K53 hk54 => ?_
    simp [hT, hc16, hc34, hc50]
    apply hk54
    refine AWp.ret ?_
    obtain rfl := Option.some.inj hm51
    simp [retQ, hT, hc16, hc34, hc50]
  clear hm45
  simp [hT, hc16, hc34, hc50]
  apply gb49
  refine AWp.skip ?_
  apply hk40
  refine AWp.sr [] fun K55 hk56 => ?_
  obtain ⟨x57, x58, x59, hx60, hm61⟩ := bind3_some hm52
  clear hm52
  try dsimp only at hm61
  simp [hT, hc16, hc34, hc50]
  refine CallAt.fn (r_reduce_Normal T hT hx60) ?_
  simp [hT, hc16, hc34, hc50]
  apply hk56
  refine AWp.seqK fun K62 hk63 => ?_
  refine AWp.sr [] fun K64 hk65 => ?_
  simp [hT, hc16, hc34, hc50]
  apply hk65
  refine AWp.condK fun A66 B67 ga68 gb69 => ?_
  rcases ite_some hm61 with ⟨hc70, hm71⟩ | ⟨hc70, hm72⟩
  · clear hm61
    simp [hT, hc16, hc34, hc50, hc70]
    apply ga68
    refine AWp.sr [] fun K73 hk74 => ?_
    simp [hT, hc16, hc34, hc50, hc70]
    apply hk74
    refine AWp.ret ?_
    obtain rfl := Option.some.inj hm71
    simp [retQ, hT, hc16, hc34, hc50, hc70]
  clear hm61
  simp [hT, hc16, hc34, hc50, hc70]
  apply gb69
  refine AWp.skip ?_
  apply hk63
  refine AWp.sr [] fun K75 hk76 => ?_
  obtain ⟨x77, x78, x79, hx80, hm81⟩ := bind3_some hm72
  clear hm72
  try dsimp only at hm81
  simp [hT, hc16, hc34, hc50, hc70]
  refine CallAt.fn (r_reduce_Normal T hT hx80) ?_
  simp [hT, hc16, hc34, hc50, hc70]
  apply hk76
  refine AWp.seqK fun K82 hk83 => ?_
  refine AWp.sr [] fun K84 hk85 => ?_
  simp [hT, hc16, hc34, hc50, hc70]
  apply hk85
  refine AWp.condK fun A86 B87 ga88 gb89 => ?_
  rcases ite_some hm81 with ⟨hc90, hm91⟩ | ⟨hc90, hm92⟩
  · clear hm81
    simp [hT, hc16, hc34, hc50, hc70, hc90]
    apply ga88
    refine AWp.sr [] fun K93 hk94 => ?_
    simp [hT, hc16, hc34, hc50, hc70, hc90]
    apply hk94
    refine AWp.ret ?_
    obtain rfl := Option.some.inj hm91
    simp [retQ, hT, hc16, hc34, hc50, hc70, hc90]
  clear hm81
  simp [hT, hc16, hc34, hc50, hc70, hc90]
  apply gb89
  refine AWp.skip ?_
  apply hk83
  refine AWp.seqK fun K95 hk96 => ?_
  refine AWp.sr [] fun K97 hk98 => ?_
  obtain ⟨x99, hx100, hm101⟩ := bind1_some hm92
  clear hm92
  try dsimp only at hm101
  simp [hT, hc16, hc34, hc50, hc70, hc90]
  refine CallAt.fn (r_terms_Same T hx100) ?_
  simp [hT, hc16, hc34, hc50, hc70, hc90]
  apply hk98
  refine AWp.condK fun A102 B103 ga104 gb105 => ?_
  rcases ite_some hm101 with ⟨hc106, hm107⟩ | ⟨hc106, hm108⟩
  rotate_left
  · clear hm101
    simp [hT, hc16, hc34, hc50, hc70, hc90, hc106]
    apply ga104
    refine AWp.sr [] fun K109 hk110 => ?_
    simp [hT, hc16, hc34, hc50, hc70, hc90, hc106]
    apply hk110
    refine AWp.ret ?_
    obtain rfl := Option.some.inj hm108
    simp [retQ, hT, hc16, hc34, hc50, hc70, hc90, hc106]
  clear hm101
  simp [hT, hc16, hc34, hc50, hc70, hc90, hc106]
  apply gb105
  refine AWp.skip ?_
  apply hk96
  refine AWp.sr [] fun K111 hk112 => ?_
  simp [hT, hc16, hc34, hc50, hc70, hc90, hc106]
  apply hk112
  refine AWp.ret ?_
  obtain rfl := Option.some.inj hm107
  simp [retQ, hT, hc16, hc34, hc50, hc70, hc90, hc106]

theorem enters65 : entersB Tryd.prog 65 = true := by kernel_rfl

theorem r_graph_Node_Redex (T : Tabs) {H : Heap} {a0 : (Option Nat)} {nh : List HC} {r0 : Bool} (hm : graph_Node_Redex a0 nh = some r0) : ACall Tryd.prog T 65 [pav (List.length H) a0] (H ++ hmap (List.length H) nh) (AV.sc (.bool r0)) (H ++ hmap (List.length H) nh) := by
  rw [graph_Node_Redex] at hm
  refine ACallP.intro (fn := Tryd.f65) Tryd.func65 rfl enters65 (Nat.le_of_ble_eq_true rfl) ?_
  refine AWp.sr [] fun K1 hk2 => ?_
  simp
  apply hk2
  refine AWp.sr [] fun K3 hk4 => ?_
  obtain ⟨x5, hx6, hm7⟩ := bind1_some hm
  clear hm
  try dsimp only at hm7
  simp
  refine CallAt.fn (r_graph_Node_redex T (H := H) hx6) ?_
  simp
  apply hk4
  refine AWp.ret ?_
  obtain rfl := Option.some.inj hm7
  simp [retQ]

theorem enters28 : entersB Tryd.prog 28 = true := by kernel_rfl

theorem r_reduce_Redex (T : Tabs) (hT : T 0 = some (AV.agg (List.map (fun n => AV.sc (Value.int .i64 n)) tree_arities))) {H : Heap} {a0 : Tm} {r0 : Bool} {r1 : Int} (hm : reduce_Redex a0 = some (r0, r1)) : ACall Tryd.prog T 28 [Tm.av a0] H (AV.tuple [AV.sc (.bool r0), AV.sc (.int .i64 r1)]) H := by
  rw [reduce_Redex] at hm
  refine ACallP.drop0 (Post := fun x K => x = AV.tuple [AV.sc (.bool r0), AV.sc (.int .i64 r1)] ∧ ∃ X, K = H ++ X) ?_ (fun _ _ h => ⟨_, h.2.choose_spec, by rw [h.1]; simp [AV.low, AV.lowL], h.1, rfl⟩)
  refine ACallP.nh0 (c := HC.cells) ?_
  refine ACallP.intro (fn := Tryd.f28) Tryd.func28 rfl enters28 (Nat.le_of_ble_eq_true rfl) ?_
  refine AWp.sr [] fun K1 hk2 => ?_
  simp [hT]
  apply hk2
  refine AWp.seqK fun K3 hk4 => ?_
  refine AWp.sr [] fun K5 hk6 => ?_
  obtain ⟨x7, hx8, hm9⟩ := bind1_some hm
  clear hm
  try dsimp only at hm9
  simp [hT]
  refine CallAt.fn (r_terms_Check T hT hx8) ?_
  simp [hT]
  apply hk6
  refine AWp.sr [] fun K10 hk11 => ?_
  simp [hT]
  apply hk11
  refine AWp.condK fun A12 B13 ga14 gb15 => ?_
  rcases ite_some hm9 with ⟨hc16, hm17⟩ | ⟨hc16, hm18⟩
  · clear hm9
    simp [hT, hc16]
    apply ga14
    refine AWp.sr [] fun K19 hk20 => ?_
    simp [hT, hc16]
    apply hk20
    refine AWp.ret ?_
    simp only [Option.some.injEq, Prod.mk.injEq] at hm17
    obtain ⟨rfl, rfl⟩ := hm17
    simp [retQ, hT, hc16]
  clear hm9
  simp [hT, hc16]
  apply gb15
  refine AWp.skip ?_
  apply hk4
  refine AWp.sr [] fun K21 hk22 => ?_
  obtain ⟨x23, nh24, hx25, hm26⟩ := bind2_some hm18
  clear hm18
  try dsimp only at hm26
  simp [hT, hc16]
  refine CallAt.fn (r_graph_From T (H := H) hx25) ?_
  obtain ⟨x27, hx28, hm29⟩ := bind1_some hm26
  clear hm26
  try dsimp only at hm29
  simp [hT, hc16]
  refine CallAt.fn (r_graph_Node_Redex T (H := H) hx28) ?_
  simp [hT, hc16]
  apply hk22
  refine AWp.ret ?_
  simp only [Option.some.injEq, Prod.mk.injEq] at hm29
  obtain ⟨rfl, rfl⟩ := hm29
  simp [retQ, hT, hc16]

theorem enters67 : entersB Tryd.prog 67 = true := by kernel_rfl

theorem r_graph_Node_Contract (T : Tabs) {H : Heap} {a0 : (Option Nat)} {nh : List HC} {r0 : (Option Nat)} {r1 : Bool} {nh1 : List HC} (hm : graph_Node_Contract a0 nh = some (r0, r1, nh1)) : ACall Tryd.prog T 67 [pav (List.length H) a0] (H ++ hmap (List.length H) nh) (AV.tuple [pav (List.length H) r0, AV.sc (.bool r1)]) (H ++ hmap (List.length H) nh1) := by
  rw [graph_Node_Contract] at hm
  refine ACallP.intro (fn := Tryd.f67) Tryd.func67 rfl enters67 (Nat.le_of_ble_eq_true rfl) ?_
  refine AWp.sr [] fun K1 hk2 => ?_
  simp
  apply hk2
  refine AWp.seqK fun K3 hk4 => ?_
  refine AWp.sr [] fun K5 hk6 => ?_
  obtain ⟨x7, hx8, hm9⟩ := bind1_some hm
  clear hm
  try dsimp only at hm9
  simp
  refine CallAt.fn (r_graph_Node_grownR T (H := H) hx8) ?_
  simp
  apply hk6
  refine AWp.condK fun A10 B11 ga12 gb13 => ?_
  rcases ite_some hm9 with ⟨hc14, hm15⟩ | ⟨hc14, hm16⟩
  · clear hm9
    simp [hc14]
    apply ga12
    refine AWp.sr [] fun K17 hk18 => ?_
    simp [hc14]
    apply hk18
    refine AWp.ret ?_
    simp only [Option.some.injEq, Prod.mk.injEq] at hm15
    obtain ⟨rfl, rfl, rfl⟩ := hm15
    simp [retQ, hc14]
  clear hm9
  simp [hc14]
  apply gb13
  refine AWp.skip ?_
  apply hk4
  refine AWp.sr [] fun K19 hk20 => ?_
  obtain ⟨x21, nh22, hx23, hm24⟩ := bind2_some hm16
  clear hm16
  try dsimp only at hm24
  simp [hc14]
  refine CallAt.fn (r_graph_Node_contract T (H := H) hx23) ?_
  simp [hc14]
  apply hk20
  refine AWp.ret ?_
  simp only [Option.some.injEq, Prod.mk.injEq] at hm24
  obtain ⟨rfl, rfl, rfl⟩ := hm24
  simp [retQ, hc14]

theorem enters30 : entersB Tryd.prog 30 = true := by kernel_rfl

theorem r_reduce_Contract (T : Tabs) (hT : T 0 = some (AV.agg (List.map (fun n => AV.sc (Value.int .i64 n)) tree_arities))) {H : Heap} {a0 : Tm} {r0 : Tm} {r1 : Int} (hm : reduce_Contract a0 = some (r0, r1)) : ACall Tryd.prog T 30 [Tm.av a0] H (AV.tuple [Tm.av r0, AV.sc (.int .i64 r1)]) H := by
  rw [reduce_Contract] at hm
  refine ACallP.drop0 (Post := fun x K => x = AV.tuple [Tm.av r0, AV.sc (.int .i64 r1)] ∧ ∃ X, K = H ++ X) ?_ (fun _ _ h => ⟨_, h.2.choose_spec, by rw [h.1]; simp [AV.low, AV.lowL], h.1, rfl⟩)
  refine ACallP.nh0 (c := HC.cells) ?_
  refine ACallP.intro (fn := Tryd.f30) Tryd.func30 rfl enters30 (Nat.le_of_ble_eq_true rfl) ?_
  refine AWp.sr [] fun K1 hk2 => ?_
  simp [hT]
  apply hk2
  refine AWp.sr [] fun K3 hk4 => ?_
  obtain ⟨x5, x6, hx7, hm8⟩ := bind2_some hm
  clear hm
  try dsimp only at hm8
  simp [hT]
  refine CallAt.fn (r_reduce_Redex T hT hx7) ?_
  simp [hT]
  apply hk4
  refine AWp.seqK fun K9 hk10 => ?_
  refine AWp.blockK fun Q11 nn12 ne13 nx14 nr15 => ?_
  refine AWp.sr [] fun K16 hk17 => ?_
  simp [hT]
  apply hk17
  refine AWp.condK fun A18 B19 ga20 gb21 => ?_
  rcases ite_some hm8 with ⟨hc22, hm23⟩ | ⟨hc22, hm24⟩
  · clear hm8
    simp [hT, hc22]
    apply ga20
    refine AWp.sr [] fun K25 hk26 => ?_
    simp [hT, hc22]
    apply hk26
    refine AWp.ret ?_
    apply nr15
    simp only [Option.some.injEq, Prod.mk.injEq] at hm23
    obtain ⟨rfl, rfl⟩ := hm23
    simp [retQ, hT, hc22]
  clear hm8
  simp [hT, hc22]
  apply gb21
  refine AWp.sr [] fun K27 hk28 => ?_
  simp [hT, hc22]
  apply hk28
  refine AWp.condK fun A29 B30 ga31 gb32 => ?_
  rcases ite_some hm24 with ⟨hc33, hm34⟩ | ⟨hc33, hm35⟩
  rotate_left
  · clear hm24
    simp [hT, hc22, hc33]
    apply ga31
    refine AWp.sr [] fun K36 hk37 => ?_
    simp [hT, hc22, hc33]
    apply hk37
    refine AWp.ret ?_
    apply nr15
    simp only [Option.some.injEq, Prod.mk.injEq] at hm35
    obtain ⟨rfl, rfl⟩ := hm35
    simp [retQ, hT, hc22, hc33]
  clear hm24
  simp [hT, hc22, hc33]
  apply gb32
  refine AWp.sr [] fun K38 hk39 => ?_
  obtain ⟨x40, hx41, hm42⟩ := bind1_some hm34
  clear hm34
  try dsimp only at hm42
  simp [hT, hc22, hc33]
  refine CallAt.fn (r_tree_Near T hx41) ?_
  simp [hT, hc22, hc33]
  apply hk39
  refine AWp.condK fun A43 B44 ga45 gb46 => ?_
  rcases ite_some hm42 with ⟨hc47, hm48⟩ | ⟨hc47, hm49⟩
  rotate_left
  · clear hm42
    simp [hT, hc22, hc33, hc47]
    apply ga45
    refine AWp.sr [] fun K50 hk51 => ?_
    simp [hT, hc22, hc33, hc47]
    apply hk51
    refine AWp.ret ?_
    apply nr15
    simp only [Option.some.injEq, Prod.mk.injEq] at hm49
    obtain ⟨rfl, rfl⟩ := hm49
    simp [retQ, hT, hc22, hc33, hc47]
  clear hm42
  simp [hT, hc22, hc33, hc47]
  apply gb46
  refine AWp.skip ?_
  apply nn12
  apply hk10
  refine AWp.sr [] fun K52 hk53 => ?_
  obtain ⟨x54, nh55, hx56, hm57⟩ := bind2_some hm48
  clear hm48
  try dsimp only at hm57
  simp [hT, hc22, hc33, hc47]
  refine CallAt.fn (r_graph_From T (H := H) hx56) ?_
  obtain ⟨x58, x59, nh60, hx61, hm62⟩ := bind3_some hm57
  clear hm57
  try dsimp only at hm62
  simp [hT, hc22, hc33, hc47]
  refine CallAt.fn (r_graph_Node_Contract T (H := H) hx61) ?_
  simp [hT, hc22, hc33, hc47]
  apply hk53
  refine AWp.seqK fun K63 hk64 => ?_
  refine AWp.sr [] fun K65 hk66 => ?_
  simp [hT, hc22, hc33, hc47]
  apply hk66
  refine AWp.condK fun A67 B68 ga69 gb70 => ?_
  rcases ite_some hm62 with ⟨hc71, hm72⟩ | ⟨hc71, hm73⟩
  rotate_left
  · clear hm62
    simp [hT, hc22, hc33, hc47, hc71]
    apply ga69
    refine AWp.sr [] fun K74 hk75 => ?_
    simp [hT, hc22, hc33, hc47, hc71]
    apply hk75
    refine AWp.ret ?_
    simp only [Option.some.injEq, Prod.mk.injEq] at hm73
    obtain ⟨rfl, rfl⟩ := hm73
    simp [retQ, hT, hc22, hc33, hc47, hc71]
  clear hm62
  simp [hT, hc22, hc33, hc47, hc71]
  apply gb70
  refine AWp.skip ?_
  apply hk64
  refine AWp.sr [] fun K76 hk77 => ?_
  obtain ⟨x78, hx79, hm80⟩ := bind1_some hm72
  clear hm72
  try dsimp only at hm80
  simp [hT, hc22, hc33, hc47, hc71]
  refine CallAt.fn (r_graph_Node_Term T (H := H) hx79) ?_
  simp [hT, hc22, hc33, hc47, hc71]
  apply hk77
  refine AWp.ret ?_
  simp only [Option.some.injEq, Prod.mk.injEq] at hm80
  obtain ⟨rfl, rfl⟩ := hm80
  simp [retQ, hT, hc22, hc33, hc47, hc71]

end Go.Proofs.YtnabbjnhemmkhaaDoor
