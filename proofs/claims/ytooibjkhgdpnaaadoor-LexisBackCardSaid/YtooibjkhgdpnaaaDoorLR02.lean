/- The program's functions do what the models say. -/
import Derived.Test.YtooibjkhgdpnaaaDoorLR01
import Derived.Test.YtooibjkhgdpnaaaDoorLM
set_option maxRecDepth 20000
set_option maxHeartbeats 4000000
set_option linter.unusedSimpArgs false
set_option linter.unusedVariables false
namespace Go.Proofs.YtooibjkhgdpnaaaDoor
open Go Go.Abs Go.Mdl

theorem enters22 : entersB Tryd.prog 22 = true := by kernel_rfl

theorem r_mk_Mod (T : Tabs) {H : Heap} {a0 : Int} {a1 : Int} {r0 : Int} (hm : mk_Mod a0 a1 = some r0) : ACall Tryd.prog T 22 [AV.sc (.int .i64 a0), AV.sc (.int .i64 a1)] H (AV.sc (.int .i64 r0)) H := by
  rw [mk_Mod] at hm
  refine ACallP.intro (fn := Tryd.f22) Tryd.func22 rfl enters22 (Nat.le_of_ble_eq_true rfl) ?_
  refine AWp.sr [] fun K1 hk2 => ?_
  simp
  apply hk2
  refine AWp.sr [] fun K3 hk4 => ?_
  obtain ⟨hx5, hm6⟩ := chk_some hm
  clear hm
  obtain ⟨hx7, hm8⟩ := chk_some hm6
  clear hm6
  simp [hx5, hx7]
  apply hk4
  refine AWp.ret ?_
  obtain rfl := Option.some.inj hm8
  simp [retQ, hx5, hx7]

theorem enters11 : entersB Tryd.prog 11 = true := by kernel_rfl

theorem r_mk_Deck_Next (T : Tabs) {H : Heap} {a0 : Smk_Deck} {a1 : Int} {r0 : Int} {do0 : Smk_Deck} {o0 : Nat} (ho0 : H[o0]? = some [AV.slice .frz (List.map (fun n => AV.sc (Value.int .i64 n)) a0.l), AV.sc (.int .i64 a0.atF)]) (hm : mk_Deck_Next a0 a1 = some (r0, do0)) : ACall Tryd.prog T 11 [AV.gptr o0 0, AV.sc (.int .i64 a1)] H (AV.sc (.int .i64 r0)) (hset H o0 [AV.slice .frz (List.map (fun n => AV.sc (Value.int .i64 n)) do0.l), AV.sc (.int .i64 do0.atF)]) := by
  rw [mk_Deck_Next] at hm
  have lo0 := inb_of_get ho0
  refine ACallP.at1 ho0 ?_
  refine ACallP.intro (fn := Tryd.f11) Tryd.func11 rfl enters11 (Nat.le_of_ble_eq_true rfl) ?_
  refine AWp.sr [] fun K1 hk2 => ?_
  simp [lo0]
  apply hk2
  refine AWp.seqK fun K3 hk4 => ?_
  refine AWp.seqP (fun fr h => hset H o0 [AV.slice .frz (List.map (fun n => AV.sc (Value.int .i64 n)) a0.l), AV.sc (.int .i64 a0.atF)] = h ∧ (fr.env 0 = AV.gptr o0 0 ∧ fr.env 1 = AV.sc (.int .i64 a1) ∧ fr.env 19 = AV.sc (.bool (sel (ilt a1 1) true (ige a0.atF (llen a0.l)))))) (fun K5 hk6 => ?_) ?_
  · refine AWp.regionD [] true mixed (by decide +kernel) (by decide +kernel) ?_
    rcases Bool.eq_false_or_eq_true (ilt a1 1) with hc7 | hc7
    · simp [lo0, hc7]
      refine hk6 _ _ ⟨?_, ⟨?_, ?_, ?_⟩⟩ <;> first | rfl | simp [lo0, hc7]
    simp [lo0, hc7]
    refine hk6 _ _ ⟨?_, ⟨?_, ?_, ?_⟩⟩ <;> first | rfl | simp [lo0, hc7]
  rintro fr8 h8 ⟨rfl, E8⟩
  refine AWp.condK fun A9 B10 ga11 gb12 => ?_
  rcases ite_some hm with ⟨hc13, hm14⟩ | ⟨hc13, hm15⟩
  · clear hm
    simp [E8, lo0, hc13]
    apply ga11
    refine AWp.sr [] fun K16 hk17 => ?_
    simp [E8, lo0, hc13]
    apply hk17
    refine AWp.ret ?_
    simp only [Option.some.injEq, Prod.mk.injEq] at hm14
    obtain ⟨rfl, rfl⟩ := hm14
    simp [retQ, E8, lo0, hc13]
  clear hm
  simp [E8, lo0, hc13]
  apply gb12
  refine AWp.skip ?_
  apply hk4
  refine AWp.seqK fun K18 hk19 => ?_
  refine AWp.regionD [] true mixed (by decide +kernel) (by decide +kernel) ?_
  obtain ⟨x20, hx21, hm22⟩ := bind1_some hm15
  clear hm15
  try dsimp only at hm22
  simp [E8, lo0, hx21, hc13]
  apply hk19
  refine AWp.sr [] fun K23 hk24 => ?_
  simp [E8, lo0, hx21, hc13]
  apply hk24
  refine AWp.sr [] fun K25 hk26 => ?_
  obtain ⟨x27, hx28, hm29⟩ := bind1_some hm22
  clear hm22
  try dsimp only at hm29
  simp [E8, lo0, hx21, hc13]
  refine CallAt.fn (r_mk_Mod T hx28) ?_
  simp [E8, lo0, hx21, hc13]
  apply hk26
  refine AWp.ret ?_
  simp only [Option.some.injEq, Prod.mk.injEq] at hm29
  obtain ⟨rfl, rfl⟩ := hm29
  simp [retQ, E8, lo0, hx21, hc13]

theorem enters3 : entersB Tryd.prog 3 = true := by kernel_rfl

theorem r_law14_LexisNames (T : Tabs) (hT : LexT T) {a0 : ByteArray} {a1 : (List Int)} {r0 : Bool} (hm : law14_LexisNames a0 a1 = some r0) : ACallP Tryd.prog T 3 [AV.sc (.string a0), AV.slice .frz (List.map (fun n => AV.sc (Value.int .i64 n)) a1)] [] (fun x _ => x = AV.sc (.bool r0)) := by
  rw [law14_LexisNames] at hm
  refine ACallP.intro (fn := Tryd.f3) Tryd.func3 rfl enters3 (Nat.le_of_ble_eq_true rfl) ?_
  refine AWp.sr [] fun K1 hk2 => ?_
  simp [hT]
  apply hk2
  refine AWp.seqK fun K3 hk4 => ?_
  refine AWp.sr [] fun K5 hk6 => ?_
  obtain ⟨x7, hx8, hm9⟩ := bind1_some hm
  clear hm
  try dsimp only at hm9
  simp [hT]
  refine CallAt.fn (r_law14_sane T hT hx8) ?_
  simp [hT]
  apply hk6
  refine AWp.condK fun A10 B11 ga12 gb13 => ?_
  rcases ite_some hm9 with ⟨hc14, hm15⟩ | ⟨hc14, hm16⟩
  rotate_left
  · clear hm9
    simp [hT, hc14]
    apply ga12
    refine AWp.sr [] fun K17 hk18 => ?_
    simp [hT, hc14]
    apply hk18
    refine AWp.ret ?_
    obtain rfl := Option.some.inj hm16
    simp [retQ, hT, hc14]
  clear hm9
  simp [hT, hc14]
  apply gb13
  refine AWp.skip ?_
  apply hk4
  refine AWp.seqK fun K19 hk20 => ?_
  obtain ⟨j21, hj22, hm23⟩ := joinB_some hm15
  clear hm15
  refine AWp.seqP (fun fr h => ∃ (v24 : Bool), ([] : Heap) = h ∧ (fr.env 0 = AV.sc (.string a0) ∧ fr.env 1 = AV.slice .frz (List.map (fun n => AV.sc (Value.int .i64 n)) a1) ∧ fr.env 22 = AV.sc (.bool v24)) ∧ j21 v24 = some r0) (fun K25 hk26 => ?_) ?_
  · refine AWp.region [] (by decide +kernel) ?_
    obtain ⟨x27, hx28, hm29⟩ := bind1_some hm23
    clear hm23
    try dsimp only at hm29
    simp [hT, hc14]
    refine CallAt.fn (r_mk_Few T hx28) ?_
    rcases ite_some hm29 with ⟨hc30, hm31⟩ | ⟨hc30, hm32⟩
    rotate_left
    · clear hm29
      simp [hT, hc14, hc30]
      refine hk26 _ _ ⟨true, ?_, ⟨?_, ?_, ?_⟩, hm32⟩ <;> first | rfl | simp [hT, hc14, hc30]
    clear hm29
    simp [hT, hc14, hc30]
    refine hk26 _ _ ⟨(igt (slen a0) 200), ?_, ⟨?_, ?_, ?_⟩, hm31⟩ <;> first | rfl | simp [hT, hc14, hc30]
  clear hm23
  rintro fr33 h33 ⟨v24, rfl, E33, hm34⟩
  subst hj22
  refine AWp.condK fun A35 B36 ga37 gb38 => ?_
  rcases ite_some hm34 with ⟨hc39, hm40⟩ | ⟨hc39, hm41⟩
  · clear hm34
    simp [E33, hT, hc14, hc39]
    apply ga37
    refine AWp.sr [] fun K42 hk43 => ?_
    simp [E33, hT, hc14, hc39]
    apply hk43
    refine AWp.ret ?_
    obtain rfl := Option.some.inj hm40
    simp [retQ, E33, hT, hc14, hc39]
  clear hm34
  simp [E33, hT, hc14, hc39]
  apply gb38
  refine AWp.skip ?_
  apply hk20
  refine AWp.sr [] fun K44 hk45 => ?_
  obtain ⟨x46, hx47, hm48⟩ := bind1_some hm41
  clear hm41
  try dsimp only at hm48
  simp [E33, hT, hc14, hc39]
  refine CallAt.fn (r_mk_New T hx47) ?_
  simp [E33, hT, hc14, hc39]
  apply hk45
  refine AWp.sr [] fun K49 hk50 => ?_
  simp [E33, hT, hc14, hc39]
  apply hk50
  refine AWp.seqK fun K51 hk52 => ?_
  refine AWp.sr [] fun K53 hk54 => ?_
  obtain ⟨x55, d56, hx57, hm58⟩ := bind2_some hm48
  clear hm48
  try dsimp only at hm58
  simp [E33, hT, hc14, hc39]
  refine CallAt.fn (r_mk_Deck_Next T (by simp) hx57) ?_
  simp [E33, hT, hc14, hc39]
  apply hk54
  obtain ⟨F59, hF60, hm61⟩ := joinB_some hm58
  clear hm58
  try dsimp only at hm61
  obtain ⟨out62, hl63, hmB64⟩ := bind1_some hm61
  clear hm61
  refine AWp.blockK fun Q65 nn66 ne67 nx68 nr69 => ?_
  refine AWp.loopF (fun n70 fr h => ∃ (v71 : ByteArray) (v72 : Int) (v73 : Smk_Deck), hset [[]] 0 [AV.slice .frz (List.map (fun n => AV.sc (Value.int .i64 n)) v73.l), AV.sc (.int .i64 v73.atF)] = h ∧ (fr.env 0 = AV.sc (.string a0) ∧ fr.env 5 = AV.gptr 0 0 ∧ fr.env 6 = AV.sc (.string v71) ∧ fr.env 7 = AV.sc (.int .i64 v72)) ∧ loopN F59 n70 (v71, v72, v73) = some out62) FU ?_ ?_
  · refine ⟨(ByteArray.mk #[]), x55, d56, ?_, ⟨?_, ?_, ?_, ?_⟩, hl63⟩ <;> first | rfl | simp [E33, hT, hc14, hc39]
  rintro n70 fr74 h74 ⟨v71, v72, v73, rfl, E74, hl63⟩ K75 hK76
  rcases n70 with _ | n70
  · rw [loopN_zero] at hl63
    cases hl63
  rw [loopN_succ] at hl63
  obtain ⟨c77, hb78, hk79⟩ := bind1_some hl63
  clear hl63
  rw [hF60] at hb78
  try dsimp only at hb78
  rw [un3_mk] at hb78
  try dsimp only at hb78
  refine AWp.seqK fun K80 hk81 => ?_
  refine AWp.sr [] fun K82 hk83 => ?_
  simp [E74, hT, hc14, hc39]
  apply hk83
  refine AWp.condK fun A84 B85 ga86 gb87 => ?_
  rcases ite_some hb78 with ⟨hc88, hm89⟩ | ⟨hc88, hm90⟩
  · clear hb78
    simp [E74, hT, hc14, hc39, hc88]
    apply ga86
    refine AWp.skip ?_
    apply hk81
    refine AWp.seqK fun K91 hk92 => ?_
    refine AWp.blockK fun Q93 nn94 ne95 nx96 nr97 => ?_
    refine AWp.region [] (by decide +kernel) ?_
    obtain ⟨x98, d99, hx100, hm101⟩ := bind2_some hm89
    clear hm89
    try dsimp only at hm101
    simp [E74, hT, hc14, hc39, hc88]
    refine CallAt.fn (r_mk_Deck_Next T (by simp) hx100) ?_
    obtain ⟨hx102, hm103⟩ := chk_some hm101
    clear hm101
    simp [E74, hT, hx102, hc14, hc39, hc88]
    apply nn94
    apply hk92
    refine AWp.region [] (by decide +kernel) ?_
    simp [E74, hT, hx102, hc14, hc39, hc88]
    obtain rfl := Option.some.inj hm103
    rw [ctlK_next] at hk79
    refine hK76 _ _ n70 (Nat.lt_succ_self _) ⟨(v71 ++ (bstr [(conv .u8 (iadd .i64 97 x98))])), (isub .i64 v72 1), d99, ?_, ⟨?_, ?_, ?_, ?_⟩, hk79⟩ <;> first | rfl | simp [E74, hT, hx102, hc14, hc39, hc88]
  clear hb78
  simp [E74, hT, hc14, hc39, hc88]
  apply gb87
  refine AWp.exit ?_
  apply ne67
  obtain rfl := Option.some.inj hm90
  rw [ctlK_brk] at hk79
  obtain rfl := Option.some.inj hk79
  rw [sumK_inl, un3_mk] at hmB64
  try dsimp only at hmB64
  apply hk52
  refine AWp.seqK fun K104 hk105 => ?_
  refine AWp.sr [] fun K106 hk107 => ?_
  obtain ⟨hx108, hm109⟩ := chk_some hmB64
  clear hmB64
  obtain ⟨hx110, hm111⟩ := chk_some hm109
  clear hm109
  simp [E74, hT, hx108, hx110, hc14, hc39, hc88]
  apply hk107
  obtain ⟨L112, hL113, hm114⟩ := joinB_some hm111
  clear hm111
  try dsimp only at hm114
  obtain ⟨hok115, hm116⟩ := chk_some hm114
  clear hm114
  obtain ⟨F117, hF118, hm119⟩ := joinB_some hm116
  clear hm116
  try dsimp only at hm119
  obtain ⟨out120, hl121, hmB122⟩ := bind1_some hm119
  clear hm119
  refine AWp.blockK fun Q123 nn124 ne125 nx126 nr127 => ?_
  refine AWp.loopF (fun n128 fr h => ∃ (i129 : Nat) (j130 : Int), hset [[]] 0 [AV.slice .frz (List.map (fun n => AV.sc (Value.int .i64 n)) v73.l), AV.sc (.int .i64 v73.atF)] = h ∧ (fr.env 6 = AV.sc (.string v71) ∧ fr.env 45 = AV.slice .full (List.map (fun s => AV.sc (Value.string s)) L112) ∧ fr.env 46 = AV.sc (.int .i64 (llen L112)) ∧ fr.env 47 = AV.sc (.int .i64 j130)) ∧ j130 = (i129 : Int) ∧ i129 + n128 = List.length L112 ∧ forR F117 (List.drop i129 L112) i129 () = some out120) (List.length L112) ?_ ?_
  · refine ⟨0, 0, ?_, ⟨?_, ?_, ?_, ?_⟩, rfl, (by simp), hl121⟩ <;> first | rfl | (rw [hL113]; rfl) | simp [E74, hT, hx108, hx110, hL113, llen, hc14, hc39, hc88, hL113]
  rintro n128 fr131 h131 ⟨i129, j130, rfl, E131, hj132, hi133, hl121⟩ K134 hK135
  rcases n128 with _ | n128
  · have hlt136 := ilt_notJ (l := L112) hj132 (by omega)
    refine AWp.sr [] fun K137 hk138 => ?_
    simp [E131, hT, hx108, hx110, hlt136, hc14, hc39, hc88]
    apply hk138
    refine AWp.seqK fun K139 hk140 => ?_
    refine AWp.condK fun A141 B142 ga143 gb144 => ?_
    simp [E131, hT, hx108, hx110, hlt136, hc14, hc39, hc88]
    apply gb144
    refine AWp.exit ?_
    apply ne125
    rw [List.drop_eq_nil_of_le (by omega), forR_nil] at hl121
    obtain rfl := Option.some.inj hl121
    rw [sumK_inl] at hmB122
    try dsimp only at hmB122
    apply hk105
    obtain ⟨j145, hj146, hm147⟩ := joinB_some hmB122
    clear hmB122
    refine AWp.seqP (fun fr h => ∃ (v148 : Bool), hset [[]] 0 [AV.slice .frz (List.map (fun n => AV.sc (Value.int .i64 n)) v73.l), AV.sc (.int .i64 v73.atF)] = h ∧ fr.env 4 = AV.sc (.bool v148) ∧ j145 v148 = some r0) (fun K149 hk150 => ?_) ?_
    rotate_left
    · clear hm147
      rintro fr151 h151 ⟨v148, rfl, E151, hm152⟩
      subst hj146
      refine AWp.ret ?_
      obtain rfl := Option.some.inj hm152
      simp [retQ, E151, hT, hx108, hx110, hlt136, hc14, hc39, hc88]
    refine AWp.region [] (by decide +kernel) ?_
    obtain ⟨x153, hx154, hm155⟩ := bind1_some hm147
    clear hm147
    try dsimp only at hm155
    simp [E131, hT, hx108, hx110, hlt136, hc14, hc39, hc88]
    refine CallAt.fn (r_lexis_Name T hT hx154) ?_
    rcases ite_some hm155 with ⟨hc156, hm157⟩ | ⟨hc156, hm158⟩
    rotate_left
    · clear hm155
      simp [E131, hT, hx108, hx110, hlt136, hc14, hc39, hc88, hc156]
      refine hk150 _ _ ⟨(beqB x153 false), ?_, ?_, hm158⟩ <;> first | rfl | simp [E131, hT, hx108, hx110, hlt136, hc14, hc39, hc88, hc156]
    clear hm155
    simp [E131, hT, hx108, hx110, hlt136, hc14, hc39, hc88, hc156]
    refine hk150 _ _ ⟨(beqB x153 (ile (slen v71) 16)), ?_, ?_, hm157⟩ <;> first | rfl | simp [E131, hT, hx108, hx110, hlt136, hc14, hc39, hc88, hc156]
  have hlt136 := ilt_ofJ (l := L112) hj132 (by omega)
  obtain ⟨x159, hdn128, hg160⟩ := drop_ltJ (l := L112) hj132 (by omega)
  rw [hdn128, forR_cons] at hl121
  obtain ⟨c161, hb162, hk163⟩ := bind1_some hl121
  clear hl121
  rw [hF118, ← hj132] at hb162
  try dsimp only at hb162
  refine AWp.sr [] fun K164 hk165 => ?_
  simp [E131, hT, hx108, hx110, hlt136, hg160, hc14, hc39, hc88]
  apply hk165
  refine AWp.seqK fun K166 hk167 => ?_
  refine AWp.condK fun A168 B169 ga170 gb171 => ?_
  simp [E131, hT, hx108, hx110, hlt136, hg160, hc14, hc39, hc88]
  apply ga170
  refine AWp.skip ?_
  apply hk167
  refine AWp.seqK fun K172 hk173 => ?_
  refine AWp.blockK fun Q174 nn175 ne176 nx177 nr178 => ?_
  refine AWp.sr [] fun K179 hk180 => ?_
  simp [E131, hT, hx108, hx110, hlt136, hg160, hc14, hc39, hc88]
  apply hk180
  refine AWp.sr [] fun K181 hk182 => ?_
  obtain ⟨x183, x184, hx185, hm186⟩ := bind2_some hb162
  clear hb162
  try dsimp only at hm186
  simp [E131, hT, hx108, hx110, hlt136, hg160, hc14, hc39, hc88]
  refine CallAt.fn (r_lexis_Tokens T hT hx185) ?_
  simp [E131, hT, hx108, hx110, hlt136, hg160, hc14, hc39, hc88]
  apply hk182
  obtain ⟨j187, hj188, hm189⟩ := joinB_some hm186
  clear hm186
  refine AWp.seqP (fun fr h => ∃ (v190 : Bool), hset [[]] 0 [AV.slice .frz (List.map (fun n => AV.sc (Value.int .i64 n)) v73.l), AV.sc (.int .i64 v73.atF)] = h ∧ (fr.env 6 = AV.sc (.string v71) ∧ fr.env 9 = AV.sc (.string x159) ∧ fr.env 12 = AV.sc (.bool v190) ∧ fr.env 45 = AV.slice .full (List.map (fun s => AV.sc (Value.string s)) L112) ∧ fr.env 46 = AV.sc (.int .i64 (llen L112)) ∧ fr.env 47 = AV.sc (.int .i64 j130)) ∧ j187 v190 = some c161) (fun K191 hk192 => ?_) ?_
  · refine AWp.region [] (by decide +kernel) ?_
    rcases ite_some hm189 with ⟨hc193, hm194⟩ | ⟨hc193, hm195⟩
    rotate_left
    · clear hm189
      simp [E131, hT, hx108, hx110, hlt136, hg160, hc14, hc39, hc88, hc193]
      refine hk192 _ _ ⟨false, ?_, ⟨?_, ?_, ?_, ?_, ?_, ?_⟩, hm195⟩ <;> first | rfl | simp [E131, hT, hx108, hx110, hlt136, hg160, hc14, hc39, hc88, hc193]
    clear hm189
    rcases ite_some hm194 with ⟨hc196, hm197⟩ | ⟨hc196, hm198⟩
    rotate_left
    · clear hm194
      simp [E131, hT, hx108, hx110, hlt136, hg160, hc14, hc39, hc88, hc193, hc196]
      refine hk192 _ _ ⟨false, ?_, ⟨?_, ?_, ?_, ?_, ?_, ?_⟩, hm198⟩ <;> first | rfl | simp [E131, hT, hx108, hx110, hlt136, hg160, hc14, hc39, hc88, hc193, hc196]
    clear hm194
    obtain ⟨x199, hx200, hm201⟩ := bind1_some hm197
    clear hm197
    try dsimp only at hm201
    rcases ite_some hm201 with ⟨hc202, hm203⟩ | ⟨hc202, hm204⟩
    rotate_left
    · clear hm201
      simp [E131, hT, hx108, hx110, hlt136, hg160, hx200, hc14, hc39, hc88, hc193, hc196, hc202]
      refine hk192 _ _ ⟨false, ?_, ⟨?_, ?_, ?_, ?_, ?_, ?_⟩, hm204⟩ <;> first | rfl | simp [E131, hT, hx108, hx110, hlt136, hg160, hx200, hc14, hc39, hc88, hc193, hc196, hc202]
    clear hm201
    simp [E131, hT, hx108, hx110, hlt136, hg160, hx200, hc14, hc39, hc88, hc193, hc196, hc202]
    refine hk192 _ _ ⟨(seq x199.text x159), ?_, ⟨?_, ?_, ?_, ?_, ?_, ?_⟩, hm203⟩ <;> first | rfl | simp [E131, hT, hx108, hx110, hlt136, hg160, hx200, hc14, hc39, hc88, hc193, hc196, hc202]
  clear hm189
  rintro fr205 h205 ⟨v190, rfl, E205, hm206⟩
  subst hj188
  refine AWp.sr [] fun K207 hk208 => ?_
  obtain ⟨x209, hx210, hm211⟩ := bind1_some hm206
  clear hm206
  try dsimp only at hm211
  simp [E205, hT, hx108, hx110, hlt136, hg160, hc14, hc39, hc88]
  refine CallAt.fn (r_lexis_Name T hT hx210) ?_
  simp [E205, hT, hx108, hx110, hlt136, hg160, hc14, hc39, hc88]
  apply hk208
  refine AWp.condK fun A212 B213 ga214 gb215 => ?_
  rcases ite_some hm211 with ⟨hc216, hm217⟩ | ⟨hc216, hm218⟩
  · clear hm211
    simp [E205, hT, hx108, hx110, hlt136, hg160, hc14, hc39, hc88, hc216]
    apply ga214
    refine AWp.sr [] fun K219 hk220 => ?_
    simp [E205, hT, hx108, hx110, hlt136, hg160, hc14, hc39, hc88, hc216]
    apply hk220
    refine AWp.ret ?_
    apply nr178
    apply nr127
    obtain rfl := Option.some.inj hm217
    rw [ctlK_ret] at hk163
    obtain rfl := Option.some.inj hk163
    rw [sumK_inr] at hmB122
    try dsimp only at hmB122
    obtain rfl := Option.some.inj hmB122
    simp [retQ, E205, hT, hx108, hx110, hlt136, hg160, hc14, hc39, hc88, hc216]
  clear hm211
  simp [E205, hT, hx108, hx110, hlt136, hg160, hc14, hc39, hc88, hc216]
  apply gb215
  refine AWp.skip ?_
  apply nn175
  apply hk173
  refine AWp.region [] (by decide +kernel) ?_
  simp [E205, hT, hx108, hx110, hlt136, hg160, hc14, hc39, hc88, hc216]
  obtain rfl := Option.some.inj hm218
  rw [ctlK_next] at hk163
  refine hK135 _ _ n128 (Nat.lt_succ_self _) ⟨(i129 + 1), (iadd .i64 j130 1), ?_, ⟨?_, ?_, ?_, ?_⟩, (iadd_idxJ hj132 (by omega) hok115), (by omega), hk163⟩ <;> first | rfl | simp [E205, hT, hx108, hx110, hlt136, hg160, hc14, hc39, hc88, hc216]

theorem enters33 : entersB Tryd.prog 33 = true := by kernel_rfl

theorem r_ref14_letter (T : Tabs) {H : Heap} {a0 : Int} {r0 : Bool} (hm : ref14_letter a0 = some r0) : ACall Tryd.prog T 33 [AV.sc (.int .u8 a0)] H (AV.sc (.bool r0)) H := by
  rw [ref14_letter] at hm
  refine ACallP.intro (fn := Tryd.f33) Tryd.func33 rfl enters33 (Nat.le_of_ble_eq_true rfl) ?_
  refine AWp.sr [] fun K1 hk2 => ?_
  simp
  apply hk2
  refine AWp.seqP (fun fr h => H = h ∧ fr.env 2 = AV.sc (.bool (sel (ige a0 97) (ile a0 122) false))) (fun K3 hk4 => ?_) ?_
  rotate_left
  · rintro fr5 h5 ⟨rfl, E5⟩
    refine AWp.ret ?_
    obtain rfl := Option.some.inj hm
    simp [retQ, E5]
  refine AWp.region [] (by decide +kernel) ?_
  rcases Bool.eq_false_or_eq_true (ige a0 97) with hc6 | hc6
  · simp [hc6]
    refine hk4 _ _ ⟨?_, ?_⟩ <;> first | rfl | simp [hc6]
  simp [hc6]
  refine hk4 _ _ ⟨?_, ?_⟩ <;> first | rfl | simp [hc6]

theorem enters19 : entersB Tryd.prog 19 = true := by kernel_rfl

theorem r_ref14_Name (T : Tabs) {H : Heap} {a0 : ByteArray} {r0 : Bool} (hm : ref14_Name a0 = some r0) : ACall Tryd.prog T 19 [AV.sc (.string a0)] H (AV.sc (.bool r0)) H := by
  rw [ref14_Name] at hm
  refine ACallP.intro (fn := Tryd.f19) Tryd.func19 rfl enters19 (Nat.le_of_ble_eq_true rfl) ?_
  refine AWp.sr [] fun K1 hk2 => ?_
  simp
  apply hk2
  refine AWp.seqK fun K3 hk4 => ?_
  refine AWp.seqP (fun fr h => H = h ∧ (fr.env 0 = AV.sc (.string a0) ∧ fr.env 11 = AV.sc (.bool (sel (ilt (slen a0) 1) true (igt (slen a0) 16))))) (fun K5 hk6 => ?_) ?_
  · refine AWp.region [] (by decide +kernel) ?_
    rcases Bool.eq_false_or_eq_true (ilt (slen a0) 1) with hc7 | hc7
    · simp [hc7]
      refine hk6 _ _ ⟨?_, ⟨?_, ?_⟩⟩ <;> first | rfl | simp [hc7]
    simp [hc7]
    refine hk6 _ _ ⟨?_, ⟨?_, ?_⟩⟩ <;> first | rfl | simp [hc7]
  rintro fr8 h8 ⟨rfl, E8⟩
  refine AWp.condK fun A9 B10 ga11 gb12 => ?_
  rcases ite_some hm with ⟨hc13, hm14⟩ | ⟨hc13, hm15⟩
  · clear hm
    simp [E8, hc13]
    apply ga11
    refine AWp.sr [] fun K16 hk17 => ?_
    simp [E8, hc13]
    apply hk17
    refine AWp.ret ?_
    obtain rfl := Option.some.inj hm14
    simp [retQ, E8, hc13]
  clear hm
  simp [E8, hc13]
  apply gb12
  refine AWp.skip ?_
  apply hk4
  refine AWp.seqK fun K18 hk19 => ?_
  refine AWp.sr [] fun K20 hk21 => ?_
  simp [E8, hc13]
  apply hk21
  obtain ⟨F22, hF23, hm24⟩ := joinB_some hm15
  clear hm15
  try dsimp only at hm24
  obtain ⟨out25, hl26, hmB27⟩ := bind1_some hm24
  clear hm24
  refine AWp.blockK fun Q28 nn29 ne30 nx31 nr32 => ?_
  refine AWp.loopF (fun n33 fr h => ∃ (v34 : Int), H = h ∧ (fr.env 0 = AV.sc (.string a0) ∧ fr.env 3 = AV.sc (.int .i64 v34)) ∧ loopN F22 n33 v34 = some out25) FU ?_ ?_
  · refine ⟨0, ?_, ⟨?_, ?_⟩, hl26⟩ <;> first | rfl | simp [E8, hc13]
  rintro n33 fr35 h35 ⟨v34, rfl, E35, hl26⟩ K36 hK37
  rcases n33 with _ | n33
  · rw [loopN_zero] at hl26
    cases hl26
  rw [loopN_succ] at hl26
  obtain ⟨c38, hb39, hk40⟩ := bind1_some hl26
  clear hl26
  rw [hF23] at hb39
  try dsimp only at hb39
  refine AWp.seqK fun K41 hk42 => ?_
  refine AWp.sr [] fun K43 hk44 => ?_
  simp [E35, hc13]
  apply hk44
  refine AWp.condK fun A45 B46 ga47 gb48 => ?_
  rcases ite_some hb39 with ⟨hc49, hm50⟩ | ⟨hc49, hm51⟩
  rotate_left
  · clear hb39
    simp [E35, hc13, hc49]
    apply gb48
    refine AWp.exit ?_
    apply ne30
    obtain rfl := Option.some.inj hm51
    rw [ctlK_brk] at hk40
    obtain rfl := Option.some.inj hk40
    rw [sumK_inl] at hmB27
    try dsimp only at hmB27
    apply hk19
    refine AWp.sr [] fun K52 hk53 => ?_
    simp [E35, hc13, hc49]
    apply hk53
    refine AWp.ret ?_
    obtain rfl := Option.some.inj hmB27
    simp [retQ, E35, hc13, hc49]
  clear hb39
  simp [E35, hc13, hc49]
  apply ga47
  refine AWp.skip ?_
  apply hk42
  refine AWp.seqK fun K54 hk55 => ?_
  refine AWp.blockK fun Q56 nn57 ne58 nx59 nr60 => ?_
  refine AWp.sr [] fun K61 hk62 => ?_
  obtain ⟨x63, hx64, hm65⟩ := bind1_some hm50
  clear hm50
  try dsimp only at hm65
  obtain ⟨x66, hx67, hm68⟩ := bind1_some hm65
  clear hm65
  try dsimp only at hm68
  simp [E35, hx64, hc13, hc49]
  refine CallAt.fn (r_ref14_letter T hx67) ?_
  simp [E35, hx64, hc13, hc49]
  apply hk62
  refine AWp.condK fun A69 B70 ga71 gb72 => ?_
  rcases ite_some hm68 with ⟨hc73, hm74⟩ | ⟨hc73, hm75⟩
  · clear hm68
    simp [E35, hx64, hc13, hc49, hc73]
    apply gb72
    refine AWp.skip ?_
    apply nn57
    apply hk55
    refine AWp.region [] (by decide +kernel) ?_
    simp [E35, hx64, hc13, hc49, hc73]
    obtain rfl := Option.some.inj hm74
    rw [ctlK_next] at hk40
    refine hK37 _ _ n33 (Nat.lt_succ_self _) ⟨(iadd .i64 v34 1), ?_, ⟨?_, ?_⟩, hk40⟩ <;> first | rfl | simp [E35, hx64, hc13, hc49, hc73]
  clear hm68
  simp [E35, hx64, hc13, hc49, hc73]
  apply ga71
  refine AWp.sr [] fun K76 hk77 => ?_
  simp [E35, hx64, hc13, hc49, hc73]
  apply hk77
  refine AWp.ret ?_
  apply nr60
  apply nr32
  obtain rfl := Option.some.inj hm75
  rw [ctlK_ret] at hk40
  obtain rfl := Option.some.inj hk40
  rw [sumK_inr] at hmB27
  try dsimp only at hmB27
  obtain rfl := Option.some.inj hmB27
  simp [retQ, E35, hx64, hc13, hc49, hc73]

theorem enters44 : entersB Tryd.prog 44 = true := by kernel_rfl

theorem rg_ref14_Decimal (T : Tabs) : ∀ (n : Nat), (∀ {H : Heap} {a0 : Int} {r0 : ByteArray} (hm : ref14_Decimal n a0 = some r0), ACall Tryd.prog T 44 [AV.sc (.int .i64 a0)] H (AV.sc (.string r0)) H) := by
  intro n
  induction n with
  | zero =>
    skip
    all_goals
      intros
      rename_i hm
      cases hm
  | succ n ih =>
    intro H a0 r0 hm
    rw [ref14_Decimal] at hm
    refine ACallP.intro (fn := Tryd.f44) Tryd.func44 rfl enters44 (Nat.le_of_ble_eq_true rfl) ?_
    refine AWp.sr [] fun K1 hk2 => ?_
    simp
    apply hk2
    refine AWp.seqK fun K3 hk4 => ?_
    refine AWp.sr [] fun K5 hk6 => ?_
    simp
    apply hk6
    refine AWp.condK fun A7 B8 ga9 gb10 => ?_
    rcases ite_some hm with ⟨hc11, hm12⟩ | ⟨hc11, hm13⟩
    · clear hm
      simp [hc11]
      apply ga9
      refine AWp.sr [] fun K14 hk15 => ?_
      simp [hc11]
      apply hk15
      refine AWp.ret ?_
      obtain rfl := Option.some.inj hm12
      simp [retQ, hc11]
    clear hm
    simp [hc11]
    apply gb10
    refine AWp.skip ?_
    apply hk4
    refine AWp.seqK fun K16 hk17 => ?_
    refine AWp.regionD [] false mixed (by decide +kernel) (by decide +kernel) ?_
    obtain ⟨hx18, hm19⟩ := chk_some hm13
    clear hm13
    obtain ⟨x20, hx21, hm22⟩ := bind1_some hm19
    clear hm19
    try dsimp only at hm22
    simp [hx18, hc11]
    refine CallAtD.fn (ih hx21) (by simp) ?_
    obtain ⟨hx23, hm24⟩ := chk_some hm22
    clear hm22
    obtain ⟨hx25, hm26⟩ := chk_some hm24
    clear hm24
    simp [hx18, hx23, hx25, hc11]
    apply hk17
    refine AWp.ret ?_
    obtain rfl := Option.some.inj hm26
    simp [retQ, hx18, hx23, hx25, hc11]
theorem r_ref14_Decimal (T : Tabs) {H : Heap} {a0 : Int} {r0 : ByteArray} {n : Nat} (hm : ref14_Decimal n a0 = some r0) : ACall Tryd.prog T 44 [AV.sc (.int .i64 a0)] H (AV.sc (.string r0)) H := (rg_ref14_Decimal T n) hm

theorem enters36 : entersB Tryd.prog 36 = true := by kernel_rfl

theorem r_ref14_text (T : Tabs) {H : Heap} {a0 : Tkn} {r0 : ByteArray} {r1 : Bool} (hm : ref14_text a0 = some (r0, r1)) : ACall Tryd.prog T 36 [Tkn.av a0] H (AV.tuple [AV.sc (.string r0), AV.sc (.bool r1)]) H := by
  rw [ref14_text] at hm
  refine ACallP.intro (fn := Tryd.f36) Tryd.func36 rfl enters36 (Nat.le_of_ble_eq_true rfl) ?_
  refine AWp.sr [] fun K1 hk2 => ?_
  simp
  apply hk2
  refine AWp.seqK fun K3 hk4 => ?_
  refine AWp.sr [] fun K5 hk6 => ?_
  simp
  apply hk6
  refine AWp.blockK fun Q7 nn8 ne9 nx10 nr11 => ?_
  refine AWp.sr [] fun K12 hk13 => ?_
  simp
  apply hk13
  refine AWp.condK fun A14 B15 ga16 gb17 => ?_
  rcases ite_some hm with ⟨hc18, hm19⟩ | ⟨hc18, hm20⟩
  · clear hm
    simp [hc18]
    apply ga16
    refine AWp.seqP (fun fr h => H = h ∧ (fr.env 2 = AV.sc (.string (ByteArray.mk #[40])) ∧ fr.env 3 = AV.sc (.bool (sel (ieq a0.num 0) (seq a0.text (ByteArray.mk #[])) false)))) (fun K21 hk22 => ?_) ?_
    rotate_left
    · rintro fr23 h23 ⟨rfl, E23⟩
      refine AWp.ret ?_
      apply nr11
      simp only [Option.some.injEq, Prod.mk.injEq] at hm19
      obtain ⟨rfl, rfl⟩ := hm19
      simp [retQ, E23, hc18]
    refine AWp.regionD [] false mixed (by decide +kernel) (by decide +kernel) ?_
    rcases Bool.eq_false_or_eq_true (ieq a0.num 0) with hc24 | hc24
    · simp [hc18, hc24]
      refine hk22 _ _ ⟨?_, ⟨?_, ?_⟩⟩ <;> first | rfl | simp [hc18, hc24]
    simp [hc18, hc24]
    refine hk22 _ _ ⟨?_, ⟨?_, ?_⟩⟩ <;> first | rfl | simp [hc18, hc24]
  clear hm
  simp [hc18]
  apply gb17
  refine AWp.sr [] fun K25 hk26 => ?_
  simp [hc18]
  apply hk26
  refine AWp.condK fun A27 B28 ga29 gb30 => ?_
  rcases ite_some hm20 with ⟨hc31, hm32⟩ | ⟨hc31, hm33⟩
  · clear hm20
    simp [hc18, hc31]
    apply ga29
    refine AWp.seqP (fun fr h => H = h ∧ (fr.env 2 = AV.sc (.string (ByteArray.mk #[41])) ∧ fr.env 3 = AV.sc (.bool (sel (ieq a0.num 0) (seq a0.text (ByteArray.mk #[])) false)))) (fun K34 hk35 => ?_) ?_
    rotate_left
    · rintro fr36 h36 ⟨rfl, E36⟩
      refine AWp.ret ?_
      apply nr11
      simp only [Option.some.injEq, Prod.mk.injEq] at hm32
      obtain ⟨rfl, rfl⟩ := hm32
      simp [retQ, E36, hc18, hc31]
    refine AWp.regionD [] false mixed (by decide +kernel) (by decide +kernel) ?_
    rcases Bool.eq_false_or_eq_true (ieq a0.num 0) with hc37 | hc37
    · simp [hc18, hc31, hc37]
      refine hk35 _ _ ⟨?_, ⟨?_, ?_⟩⟩ <;> first | rfl | simp [hc18, hc31, hc37]
    simp [hc18, hc31, hc37]
    refine hk35 _ _ ⟨?_, ⟨?_, ?_⟩⟩ <;> first | rfl | simp [hc18, hc31, hc37]
  clear hm20
  simp [hc18, hc31]
  apply gb30
  refine AWp.sr [] fun K38 hk39 => ?_
  simp [hc18, hc31]
  apply hk39
  refine AWp.condK fun A40 B41 ga42 gb43 => ?_
  rcases ite_some hm33 with ⟨hc44, hm45⟩ | ⟨hc44, hm46⟩
  · clear hm33
    simp [hc18, hc31, hc44]
    apply ga42
    obtain ⟨j47, hj48, hm49⟩ := joinB_some hm45
    clear hm45
    refine AWp.seqP (fun fr h => ∃ (v50 : Bool), H = h ∧ (fr.env 2 = AV.sc (.string a0.text) ∧ fr.env 3 = AV.sc (.bool v50)) ∧ j47 v50 = some (r0, r1)) (fun K51 hk52 => ?_) ?_
    rotate_left
    · clear hm49
      rintro fr53 h53 ⟨v50, rfl, E53, hm54⟩
      subst hj48
      refine AWp.ret ?_
      apply nr11
      simp only [Option.some.injEq, Prod.mk.injEq] at hm54
      obtain ⟨rfl, rfl⟩ := hm54
      simp [retQ, E53, hc18, hc31, hc44]
    refine AWp.regionD [] false mixed (by decide +kernel) (by decide +kernel) ?_
    rcases ite_some hm49 with ⟨hc55, hm56⟩ | ⟨hc55, hm57⟩
    rotate_left
    · clear hm49
      simp [hc18, hc31, hc44, hc55]
      refine hk52 _ _ ⟨false, ?_, ⟨?_, ?_⟩, hm57⟩ <;> first | rfl | simp [hc18, hc31, hc44, hc55]
    clear hm49
    obtain ⟨x58, hx59, hm60⟩ := bind1_some hm56
    clear hm56
    try dsimp only at hm60
    simp [hc18, hc31, hc44, hc55]
    refine CallAtD.fn (r_ref14_Name T hx59) (by simp) ?_
    simp [hc18, hc31, hc44, hc55]
    refine hk52 _ _ ⟨x58, ?_, ⟨?_, ?_⟩, hm60⟩ <;> first | rfl | simp [hc18, hc31, hc44, hc55]
  clear hm33
  simp [hc18, hc31, hc44]
  apply gb43
  refine AWp.seqP (fun fr h => ∃ (g1_70 : Nat), H = h ∧ (fr.env 1 = AV.lptr 1 g1_70 0 ∧ fr.env 38 = AV.sc (.bool (sel (ieq a0.kind 4) true (ieq a0.kind 5))) ∧ fr.gen 1 = g1_70 ∧ fr.box 1 = some [AV.sc (.int .i64 a0.kind), AV.sc (.int .i64 a0.num), AV.sc (.int .i64 a0.atF), AV.sc (.string a0.text)])) (fun K61 hk62 => ?_) ?_
  · refine AWp.sr [] fun K63 hk64 => ?_
    simp [hc18, hc31, hc44]
    apply hk64
    refine AWp.condK fun A65 B66 ga67 gb68 => ?_
    rcases Bool.eq_false_or_eq_true (ieq a0.kind 4) with hc69 | hc69
    · simp [hc18, hc31, hc44, hc69]
      apply ga67
      refine AWp.skip ?_
      refine hk62 _ _ ⟨1, ?_, ⟨?_, ?_, ?_, ?_⟩⟩ <;> first | rfl | simp [hc18, hc31, hc44, hc69]
    simp [hc18, hc31, hc44, hc69]
    apply gb68
    refine AWp.region [] (by decide +kernel) ?_
    simp [hc18, hc31, hc44, hc69]
    refine hk62 _ _ ⟨1, ?_, ⟨?_, ?_, ?_, ?_⟩⟩ <;> first | rfl | simp [hc18, hc31, hc44, hc69]
  rintro fr70 h70 ⟨g1_70, rfl, E70⟩
  refine AWp.condK fun A71 B72 ga73 gb74 => ?_
  rcases ite_some hm46 with ⟨hc75, hm76⟩ | ⟨hc75, hm77⟩
  rotate_left
  · clear hm46
    simp [E70, hc18, hc31, hc44, hc75]
    apply gb74
    refine AWp.skip ?_
    apply nn8
    apply hk4
    refine AWp.sr [] fun K78 hk79 => ?_
    simp [E70, hc18, hc31, hc44, hc75]
    apply hk79
    refine AWp.ret ?_
    simp only [Option.some.injEq, Prod.mk.injEq] at hm77
    obtain ⟨rfl, rfl⟩ := hm77
    simp [retQ, E70, hc18, hc31, hc44, hc75]
  clear hm46
  simp [E70, hc18, hc31, hc44, hc75]
  apply ga73
  refine AWp.seqK fun K80 hk81 => ?_
  refine AWp.seqP (fun fr h => ∃ (g1_86 : Nat), H = h ∧ (fr.env 1 = AV.lptr 1 g1_86 0 ∧ fr.env 53 = AV.sc (.bool (sel (ilt a0.num 0) true (sel (igt a0.num 999999) true (sne a0.text (ByteArray.mk #[]))))) ∧ fr.gen 1 = g1_86 ∧ fr.box 1 = some [AV.sc (.int .i64 a0.kind), AV.sc (.int .i64 a0.num), AV.sc (.int .i64 a0.atF), AV.sc (.string a0.text)])) (fun K82 hk83 => ?_) ?_
  · refine AWp.region [] (by decide +kernel) ?_
    rcases Bool.eq_false_or_eq_true (ilt a0.num 0) with hc84 | hc84
    · simp [E70, hc18, hc31, hc44, hc75, hc84]
      refine hk83 _ _ ⟨g1_70, ?_, ⟨?_, ?_, ?_, ?_⟩⟩ <;> first | rfl | simp [E70, hc18, hc31, hc44, hc75, hc84]
    rcases Bool.eq_false_or_eq_true (igt a0.num 999999) with hc85 | hc85
    · simp [E70, hc18, hc31, hc44, hc75, hc84, hc85]
      refine hk83 _ _ ⟨g1_70, ?_, ⟨?_, ?_, ?_, ?_⟩⟩ <;> first | rfl | simp [E70, hc18, hc31, hc44, hc75, hc84, hc85]
    simp [E70, hc18, hc31, hc44, hc75, hc84, hc85]
    refine hk83 _ _ ⟨g1_70, ?_, ⟨?_, ?_, ?_, ?_⟩⟩ <;> first | rfl | simp [E70, hc18, hc31, hc44, hc75, hc84, hc85]
  rintro fr86 h86 ⟨g1_86, rfl, E86⟩
  refine AWp.condK fun A87 B88 ga89 gb90 => ?_
  rcases ite_some hm76 with ⟨hc91, hm92⟩ | ⟨hc91, hm93⟩
  · clear hm76
    simp [E86, hc18, hc31, hc44, hc75, hc91]
    apply ga89
    refine AWp.sr [] fun K94 hk95 => ?_
    simp [E86, hc18, hc31, hc44, hc75, hc91]
    apply hk95
    refine AWp.ret ?_
    apply nr11
    simp only [Option.some.injEq, Prod.mk.injEq] at hm92
    obtain ⟨rfl, rfl⟩ := hm92
    simp [retQ, E86, hc18, hc31, hc44, hc75, hc91]
  clear hm76
  simp [E86, hc18, hc31, hc44, hc75, hc91]
  apply gb90
  refine AWp.skip ?_
  apply hk81
  refine AWp.seqK fun K96 hk97 => ?_
  refine AWp.sr [] fun K98 hk99 => ?_
  simp [E86, hc18, hc31, hc44, hc75, hc91]
  apply hk99
  refine AWp.condK fun A100 B101 ga102 gb103 => ?_
  rcases ite_some hm93 with ⟨hc104, hm105⟩ | ⟨hc104, hm106⟩
  rotate_left
  · clear hm93
    simp [E86, hc18, hc31, hc44, hc75, hc91, hc104]
    apply gb103
    refine AWp.skip ?_
    apply hk97
    refine AWp.sr [] fun K107 hk108 => ?_
    obtain ⟨x109, hx110, hm111⟩ := bind1_some hm106
    clear hm106
    try dsimp only at hm111
    simp [E86, hc18, hc31, hc44, hc75, hc91, hc104]
    refine CallAt.fn (r_ref14_Decimal T hx110) ?_
    simp [E86, hc18, hc31, hc44, hc75, hc91, hc104]
    apply hk108
    refine AWp.ret ?_
    apply nr11
    simp only [Option.some.injEq, Prod.mk.injEq] at hm111
    obtain ⟨rfl, rfl⟩ := hm111
    simp [retQ, E86, hc18, hc31, hc44, hc75, hc91, hc104]
  clear hm93
  simp [E86, hc18, hc31, hc44, hc75, hc91, hc104]
  apply ga102
  refine AWp.sr [] fun K112 hk113 => ?_
  obtain ⟨x114, hx115, hm116⟩ := bind1_some hm105
  clear hm105
  try dsimp only at hm116
  simp [E86, hc18, hc31, hc44, hc75, hc91, hc104]
  refine CallAt.fn (r_ref14_Decimal T hx115) ?_
  obtain ⟨hx117, hm118⟩ := chk_some hm116
  clear hm116
  simp [E86, hx117, hc18, hc31, hc44, hc75, hc91, hc104]
  apply hk113
  refine AWp.ret ?_
  apply nr11
  simp only [Option.some.injEq, Prod.mk.injEq] at hm118
  obtain ⟨rfl, rfl⟩ := hm118
  simp [retQ, E86, hx117, hc18, hc31, hc44, hc75, hc91, hc104]

theorem enters20 : entersB Tryd.prog 20 = true := by kernel_rfl

theorem r_ref14_Text (T : Tabs) {H : Heap} {a0 : (List Tkn)} {r0 : ByteArray} {r1 : Int} (hm : ref14_Text a0 = some (r0, r1)) : ACall Tryd.prog T 20 [AV.slice .frz (List.map Tkn.av a0)] H (AV.tuple [AV.sc (.string r0), AV.sc (.int .i64 r1)]) H := by
  rw [ref14_Text] at hm
  refine ACallP.intro (fn := Tryd.f20) Tryd.func20 rfl enters20 (Nat.le_of_ble_eq_true rfl) ?_
  refine AWp.sr [] fun K1 hk2 => ?_
  simp
  apply hk2
  refine AWp.seqK fun K3 hk4 => ?_
  refine AWp.sr [] fun K5 hk6 => ?_
  simp
  apply hk6
  refine AWp.condK fun A7 B8 ga9 gb10 => ?_
  rcases ite_some hm with ⟨hc11, hm12⟩ | ⟨hc11, hm13⟩
  · clear hm
    simp [hc11]
    apply ga9
    refine AWp.sr [] fun K14 hk15 => ?_
    simp [hc11]
    apply hk15
    refine AWp.ret ?_
    simp only [Option.some.injEq, Prod.mk.injEq] at hm12
    obtain ⟨rfl, rfl⟩ := hm12
    simp [retQ, hc11]
  clear hm
  simp [hc11]
  apply gb10
  refine AWp.skip ?_
  apply hk4
  refine AWp.sr [] fun K16 hk17 => ?_
  simp [hc11]
  apply hk17
  refine AWp.seqK fun K18 hk19 => ?_
  refine AWp.sr [] fun K20 hk21 => ?_
  simp [hc11]
  apply hk21
  obtain ⟨hok22, hm23⟩ := chk_some hm13
  clear hm13
  obtain ⟨F24, hF25, hm26⟩ := joinB_some hm23
  clear hm23
  try dsimp only at hm26
  obtain ⟨out27, hl28, hmB29⟩ := bind1_some hm26
  clear hm26
  refine AWp.blockK fun Q30 nn31 ne32 nx33 nr34 => ?_
  refine AWp.loopF (fun n35 fr h => ∃ (i36 : Nat) (j37 : Int) (v38 : (List Int)) (tg0_39 : Tag), H = h ∧ (fr.env 0 = AV.slice .frz (List.map Tkn.av a0) ∧ fr.env 4 = AV.slice tg0_39 (List.map (fun n => AV.sc (Value.int .u8 n)) v38) ∧ fr.env 12 = AV.slice .frz (List.map Tkn.av a0) ∧ fr.env 13 = AV.sc (.int .i64 (llen a0)) ∧ fr.env 14 = AV.sc (.int .i64 j37)) ∧ OwnT fr.tab fr.tgen [47] tg0_39 (List.length v38) ∧ j37 = (i36 : Int) ∧ i36 + n35 = List.length a0 ∧ forR F24 (List.drop i36 a0) i36 v38 = some out27) (List.length a0) ?_ ?_
  · refine ⟨0, 0, [], .full, ?_, ⟨?_, ?_, ?_, ?_, ?_⟩, OwnT.full, rfl, (by simp), hl28⟩ <;> first | rfl | simp [hc11]
  rintro n35 fr39 h39 ⟨i36, j37, v38, tg0_39, rfl, E39, o0_39, hj40, hi41, hl28⟩ K42 hK43
  rcases n35 with _ | n35
  · have hlt44 := ilt_notJ (l := a0) hj40 (by omega)
    refine AWp.sr [] fun K45 hk46 => ?_
    simp [E39, hlt44, hc11]
    apply hk46
    refine AWp.seqK fun K47 hk48 => ?_
    refine AWp.condK fun A49 B50 ga51 gb52 => ?_
    simp [E39, hlt44, hc11]
    apply gb52
    refine AWp.exit ?_
    apply ne32
    rw [List.drop_eq_nil_of_le (by omega), forR_nil] at hl28
    obtain rfl := Option.some.inj hl28
    rw [sumK_inl] at hmB29
    try dsimp only at hmB29
    apply hk19
    refine AWp.sr [] fun K53 hk54 => ?_
    simp [E39, hlt44, hc11]
    apply hk54
    refine AWp.ret ?_
    simp only [Option.some.injEq, Prod.mk.injEq] at hmB29
    obtain ⟨rfl, rfl⟩ := hmB29
    simp [retQ, E39, hlt44, hc11]
  have hlt44 := ilt_ofJ (l := a0) hj40 (by omega)
  obtain ⟨x55, hdn35, hg56⟩ := drop_ltJ (l := a0) hj40 (by omega)
  rw [hdn35, forR_cons] at hl28
  obtain ⟨c57, hb58, hk59⟩ := bind1_some hl28
  clear hl28
  rw [hF25, ← hj40] at hb58
  try dsimp only at hb58
  refine AWp.sr [] fun K60 hk61 => ?_
  simp [E39, hlt44, hg56, hc11]
  apply hk61
  refine AWp.seqK fun K62 hk63 => ?_
  refine AWp.condK fun A64 B65 ga66 gb67 => ?_
  simp [E39, hlt44, hg56, hc11]
  apply ga66
  refine AWp.skip ?_
  apply hk63
  refine AWp.seqK fun K68 hk69 => ?_
  refine AWp.blockK fun Q70 nn71 ne72 nx73 nr74 => ?_
  refine AWp.sr [] fun K75 hk76 => ?_
  simp [E39, hlt44, hg56, hc11]
  apply hk76
  refine AWp.sr [] fun K77 hk78 => ?_
  obtain ⟨x79, x80, hx81, hm82⟩ := bind2_some hb58
  clear hb58
  try dsimp only at hm82
  simp [E39, hlt44, hg56, hc11]
  refine CallAt.fn (r_ref14_text T hx81) ?_
  simp [E39, hlt44, hg56, hc11]
  apply hk78
  refine AWp.seqK fun K83 hk84 => ?_
  refine AWp.sr [] fun K85 hk86 => ?_
  simp [E39, hlt44, hg56, hc11]
  apply hk86
  refine AWp.condK fun A87 B88 ga89 gb90 => ?_
  rcases ite_some hm82 with ⟨hc91, hm92⟩ | ⟨hc91, hm93⟩
  rotate_left
  · clear hm82
    simp [E39, hlt44, hg56, hc11, hc91]
    apply ga89
    refine AWp.sr [] fun K94 hk95 => ?_
    simp [E39, hlt44, hg56, hc11, hc91]
    apply hk95
    refine AWp.ret ?_
    apply nr74
    apply nr34
    obtain rfl := Option.some.inj hm93
    rw [ctlK_ret] at hk59
    obtain rfl := Option.some.inj hk59
    rw [sumK_inr] at hmB29
    try dsimp only at hmB29
    simp only [Option.some.injEq, Prod.mk.injEq] at hmB29
    obtain ⟨rfl, rfl⟩ := hmB29
    simp [retQ, E39, hlt44, hg56, hc11, hc91]
  clear hm82
  simp [E39, hlt44, hg56, hc11, hc91]
  apply gb90
  refine AWp.skip ?_
  apply hk84
  obtain ⟨j96, hj97, hm98⟩ := joinB_some hm92
  clear hm92
  refine AWp.seqP (fun fr h => ∃ (v99 : (List Int)) (tg0_102 : Tag), H = h ∧ (fr.env 0 = AV.slice .frz (List.map Tkn.av a0) ∧ fr.env 4 = AV.slice tg0_102 (List.map (fun n => AV.sc (Value.int .u8 n)) v99) ∧ fr.env 7 = AV.sc (.string x79) ∧ fr.env 12 = AV.slice .frz (List.map Tkn.av a0) ∧ fr.env 13 = AV.sc (.int .i64 (llen a0)) ∧ fr.env 14 = AV.sc (.int .i64 j37)) ∧ OwnT fr.tab fr.tgen [44, 47] tg0_102 (List.length v99) ∧ j96 v99 = some c57) (fun K100 hk101 => ?_) ?_
  rotate_left
  · clear hm98
    rintro fr102 h102 ⟨v99, tg0_102, rfl, E102, o0_102, hm103⟩
    subst hj97
    refine AWp.region [] (by decide +kernel) ?_
    obtain ⟨ha104, hm105⟩ := chk_some hm103
    clear hm103
    simp [E102, hlt44, hg56, hc11, hc91]
    refine arun_appendS ?_
    refine AppAtS.own v99 x79 o0_102 ap28 (by first | rfl | simp) ha104 (by first | rfl | simp) (by first | rfl | simp) ?_
    simp [E102, hlt44, hg56, hc11, hc91]
    apply nn71
    apply hk69
    refine AWp.region [] (by decide +kernel) ?_
    simp [E102, hlt44, hg56, hc11, hc91]
    obtain rfl := Option.some.inj hm105
    rw [ctlK_next] at hk59
    refine hK43 _ _ n35 (Nat.lt_succ_self _) ⟨(i36 + 1), (iadd .i64 j37 1), (lapp v99 (sbytes x79)), (.loc 47 (fr102.tgen 47 + 1)), ?_, ⟨?_, ?_, ?_, ?_, ?_⟩, (OwnT.mono (D := [47]) (OwnT.new (D := [47]) (d := 47) (by decide)) (by decide)), (iadd_idxJ hj40 (by omega) hok22), (by omega), hk59⟩ <;> first | rfl | simp [E102, hlt44, hg56, hc11, hc91]
  obtain ⟨j106, hj107, hm108⟩ := joinB_some hm98
  clear hm98
  refine AWp.seqP (fun fr h => ∃ (v109 : Bool) (tg0_121 : Tag), H = h ∧ (fr.env 0 = AV.slice .frz (List.map Tkn.av a0) ∧ fr.env 4 = AV.slice tg0_121 (List.map (fun n => AV.sc (Value.int .u8 n)) v38) ∧ fr.env 7 = AV.sc (.string x79) ∧ fr.env 12 = AV.slice .frz (List.map Tkn.av a0) ∧ fr.env 13 = AV.sc (.int .i64 (llen a0)) ∧ fr.env 14 = AV.sc (.int .i64 j37) ∧ fr.env 41 = AV.sc (.bool v109)) ∧ OwnT fr.tab fr.tgen [47] tg0_121 (List.length v38) ∧ j106 v109 = some c57) (fun K110 hk111 => ?_) ?_
  · refine AWp.region [] (by decide +kernel) ?_
    rcases ite_some hm108 with ⟨hc112, hm113⟩ | ⟨hc112, hm114⟩
    rotate_left
    · clear hm108
      simp [E39, hlt44, hg56, hc11, hc91, hc112]
      refine hk111 _ _ ⟨false, tg0_39, ?_, ⟨?_, ?_, ?_, ?_, ?_, ?_, ?_⟩, (OwnT.mono (D := [47]) o0_39 (by decide)), hm114⟩ <;> first | rfl | simp [E39, hlt44, hg56, hc11, hc91, hc112]
    clear hm108
    obtain ⟨x115, hx116, hm117⟩ := bind1_some hm113
    clear hm113
    try dsimp only at hm117
    rcases ite_some hm117 with ⟨hc118, hm119⟩ | ⟨hc118, hm120⟩
    rotate_left
    · clear hm117
      simp [E39, hlt44, hg56, hx116, hc11, hc91, hc112, hc118]
      refine hk111 _ _ ⟨false, tg0_39, ?_, ⟨?_, ?_, ?_, ?_, ?_, ?_, ?_⟩, (OwnT.mono (D := [47]) o0_39 (by decide)), hm120⟩ <;> first | rfl | simp [E39, hlt44, hg56, hx116, hc11, hc91, hc112, hc118]
    clear hm117
    simp [E39, hlt44, hg56, hx116, hc11, hc91, hc112, hc118]
    refine hk111 _ _ ⟨(ine x55.kind 2), tg0_39, ?_, ⟨?_, ?_, ?_, ?_, ?_, ?_, ?_⟩, (OwnT.mono (D := [47]) o0_39 (by decide)), hm119⟩ <;> first | rfl | simp [E39, hlt44, hg56, hx116, hc11, hc91, hc112, hc118]
  clear hm108
  rintro fr121 h121 ⟨v109, tg0_121, rfl, E121, o0_121, hm122⟩
  subst hj107
  refine AWp.condK fun A123 B124 ga125 gb126 => ?_
  rcases ite_some hm122 with ⟨hc127, hm128⟩ | ⟨hc127, hm129⟩
  rotate_left
  · clear hm122
    simp [E121, hlt44, hg56, hc11, hc91, hc127]
    apply gb126
    refine AWp.skip ?_
    refine hk101 _ _ ⟨v38, tg0_121, ?_, ⟨?_, ?_, ?_, ?_, ?_, ?_⟩, (OwnT.mono (D := [47]) o0_121 (by decide)), hm129⟩ <;> first | rfl | simp [E121, hlt44, hg56, hc11, hc91, hc127]
  clear hm122
  simp [E121, hlt44, hg56, hc11, hc91, hc127]
  apply ga125
  refine AWp.region [] (by decide +kernel) ?_
  obtain ⟨ha130, hm131⟩ := chk_some hm128
  clear hm128
  simp [E121, hlt44, hg56, hc11, hc91, hc127]
  refine AppAt2.own (f := (fun n => AV.sc (Value.int .u8 n))) v38 [32] o0_121 ap28 (by intro x; simp) ha130 (by first | rfl | simp) (by first | rfl | simp) ?_
  simp [E121, hlt44, hg56, hc11, hc91, hc127]
  refine hk101 _ _ ⟨(lapp v38 [32]), (.loc 44 (fr121.tgen 44 + 1)), ?_, ⟨?_, ?_, ?_, ?_, ?_, ?_⟩, (OwnT.mono (D := [44]) (OwnT.new (D := [44]) (d := 44) (by decide)) (by decide)), hm131⟩ <;> first | rfl | simp [E121, hlt44, hg56, hc11, hc91, hc127]

theorem enters14 : entersB Tryd.prog 14 = true := by kernel_rfl

theorem r_law14_text (T : Tabs) {H : Heap} {a0 : Smk_Deck} {r0 : ByteArray} {do0 : Smk_Deck} {o0 : Nat} (ho0 : H[o0]? = some [AV.slice .frz (List.map (fun n => AV.sc (Value.int .i64 n)) a0.l), AV.sc (.int .i64 a0.atF)]) (hm : law14_text a0 = some (r0, do0)) : ACall Tryd.prog T 14 [AV.gptr o0 0] H (AV.sc (.string r0)) (hset H o0 [AV.slice .frz (List.map (fun n => AV.sc (Value.int .i64 n)) do0.l), AV.sc (.int .i64 do0.atF)]) := by
  rw [law14_text] at hm
  have lo0 := inb_of_get ho0
  refine ACallP.at1 ho0 ?_
  refine ACallP.intro (fn := Tryd.f14) Tryd.func14 rfl enters14 (Nat.le_of_ble_eq_true rfl) ?_
  refine AWp.sr [] fun K1 hk2 => ?_
  simp [lo0]
  apply hk2
  refine AWp.sr [] fun K3 hk4 => ?_
  simp [lo0]
  apply hk4
  refine AWp.seqK fun K5 hk6 => ?_
  refine AWp.sr [] fun K7 hk8 => ?_
  obtain ⟨x9, d10, hx11, hm12⟩ := bind2_some hm
  clear hm
  try dsimp only at hm12
  simp [lo0]
  refine CallAt.fn (r_mk_Deck_Next T (by simp [lo0]) hx11) ?_
  simp [lo0]
  apply hk8
  obtain ⟨F13, hF14, hm15⟩ := joinB_some hm12
  clear hm12
  try dsimp only at hm15
  obtain ⟨out16, hl17, hmB18⟩ := bind1_some hm15
  clear hm15
  refine AWp.blockK fun Q19 nn20 ne21 nx22 nr23 => ?_
  refine AWp.loopF (fun n24 fr h => ∃ (v25 : (List Tkn)) (v26 : Int) (v27 : Smk_Deck) (tg0_28 : Tag), hset H o0 [AV.slice .frz (List.map (fun n => AV.sc (Value.int .i64 n)) v27.l), AV.sc (.int .i64 v27.atF)] = h ∧ (fr.env 0 = AV.gptr o0 0 ∧ fr.env 3 = AV.slice tg0_28 (List.map Tkn.av v25) ∧ fr.env 4 = AV.sc (.int .i64 v26)) ∧ OwnT fr.tab fr.tgen [40] tg0_28 (List.length v25) ∧ loopN F13 n24 (v25, v26, v27) = some out16) FU ?_ ?_
  · refine ⟨[], x9, d10, .full, ?_, ⟨?_, ?_, ?_⟩, OwnT.full, hl17⟩ <;> first | rfl | simp [lo0]
  rintro n24 fr28 h28 ⟨v25, v26, v27, tg0_28, rfl, E28, o0_28, hl17⟩ K29 hK30
  rcases n24 with _ | n24
  · rw [loopN_zero] at hl17
    cases hl17
  rw [loopN_succ] at hl17
  obtain ⟨c31, hb32, hk33⟩ := bind1_some hl17
  clear hl17
  rw [hF14] at hb32
  try dsimp only at hb32
  rw [un3_mk] at hb32
  try dsimp only at hb32
  refine AWp.seqK fun K34 hk35 => ?_
  refine AWp.sr [] fun K36 hk37 => ?_
  simp [E28, lo0]
  apply hk37
  refine AWp.condK fun A38 B39 ga40 gb41 => ?_
  rcases ite_some hb32 with ⟨hc42, hm43⟩ | ⟨hc42, hm44⟩
  rotate_left
  · clear hb32
    simp [E28, lo0, hc42]
    apply gb41
    refine AWp.exit ?_
    apply ne21
    obtain rfl := Option.some.inj hm44
    rw [ctlK_brk] at hk33
    obtain rfl := Option.some.inj hk33
    rw [sumK_inl, un3_mk] at hmB18
    try dsimp only at hmB18
    apply hk6
    refine AWp.sr [] fun K45 hk46 => ?_
    obtain ⟨x47, x48, hx49, hm50⟩ := bind2_some hmB18
    clear hmB18
    try dsimp only at hm50
    simp [E28, lo0, hc42]
    refine CallAt.fn (r_ref14_Text T hx49) ?_
    simp [E28, lo0, hc42]
    apply hk46
    refine AWp.sr [] fun K51 hk52 => ?_
    simp [E28, lo0, hc42]
    apply hk52
    refine AWp.ret ?_
    simp only [Option.some.injEq, Prod.mk.injEq] at hm50
    obtain ⟨rfl, rfl⟩ := hm50
    simp [retQ, E28, lo0, hc42]
  clear hb32
  simp [E28, lo0, hc42]
  apply ga40
  refine AWp.skip ?_
  apply hk35
  refine AWp.seqK fun K53 hk54 => ?_
  refine AWp.blockK fun Q55 nn56 ne57 nx58 nr59 => ?_
  refine AWp.sr [] fun K60 hk61 => ?_
  obtain ⟨x62, d63, hx64, hm65⟩ := bind2_some hm43
  clear hm43
  try dsimp only at hm65
  simp [E28, lo0, hc42]
  refine CallAt.fn (r_mk_Deck_Next T (by simp [lo0]) hx64) ?_
  simp [E28, lo0, hc42]
  apply hk61
  obtain ⟨j66, hj67, hm68⟩ := joinB_some hm65
  clear hm65
  refine AWp.seqP (fun fr h => ∃ (v69 : Int) (v70 : ByteArray) (v71 : Smk_Deck) (tg0_74 : Tag) (g5_74 : Nat), hset H o0 [AV.slice .frz (List.map (fun n => AV.sc (Value.int .i64 n)) v71.l), AV.sc (.int .i64 v71.atF)] = h ∧ (fr.env 0 = AV.gptr o0 0 ∧ fr.env 3 = AV.slice tg0_74 (List.map Tkn.av v25) ∧ fr.env 4 = AV.sc (.int .i64 v26) ∧ fr.env 5 = AV.lptr 5 g5_74 0 ∧ fr.gen 5 = g5_74 ∧ fr.box 5 = some [AV.sc (.int .i64 (iadd .i64 1 x62)), AV.sc (.int .i64 v69), AV.sc (.int .i64 0), AV.sc (.string v70)]) ∧ OwnT fr.tab fr.tgen [40] tg0_74 (List.length v25) ∧ j66 v69 v70 v71 = some c31) (fun K72 hk73 => ?_) ?_
  rotate_left
  · clear hm68
    rintro fr74 h74 ⟨v69, v70, v71, tg0_74, g5_74, rfl, E74, o0_74, hm75⟩
    subst hj67
    refine AWp.region [] (by decide +kernel) ?_
    obtain ⟨ha76, hm77⟩ := chk_some hm75
    clear hm75
    simp [E74, lo0, hc42]
    refine AppAt2.own (f := Tkn.av) v25 [(Tkn.mk (iadd .i64 1 x62) v69 0 v70)] o0_74 ap30 (by intro x; simp) ha76 (by first | rfl | simp) (by first | rfl | simp) ?_
    simp [E74, lo0, hc42]
    apply nn56
    apply hk54
    refine AWp.region [] (by decide +kernel) ?_
    simp [E74, lo0, hc42]
    obtain rfl := Option.some.inj hm77
    rw [ctlK_next] at hk33
    refine hK30 _ _ n24 (Nat.lt_succ_self _) ⟨(lapp v25 [(Tkn.mk (iadd .i64 1 x62) v69 0 v70)]), (isub .i64 v26 1), v71, (.loc 40 (fr74.tgen 40 + 1)), ?_, ⟨?_, ?_, ?_⟩, (OwnT.mono (D := [40]) (OwnT.new (D := [40]) (d := 40) (by decide)) (by decide)), hk33⟩ <;> first | rfl | simp [E74, lo0, hc42]
  refine AWp.sr [] fun K78 hk79 => ?_
  simp [E28, lo0, hc42]
  apply hk79
  refine AWp.blockK fun Q80 nn81 ne82 nx83 nr84 => ?_
  refine AWp.sr [] fun K85 hk86 => ?_
  simp [E28, lo0, hc42]
  apply hk86
  refine AWp.condK fun A87 B88 ga89 gb90 => ?_
  rcases ite_some hm68 with ⟨hc91, hm92⟩ | ⟨hc91, hm93⟩
  · clear hm68
    simp [E28, lo0, hc42, hc91]
    apply ga89
    refine AWp.region [] (by decide +kernel) ?_
    obtain ⟨x94, d95, hx96, hm97⟩ := bind2_some hm92
    clear hm92
    try dsimp only at hm97
    simp [E28, lo0, hc42, hc91]
    refine CallAt.fn (r_mk_Deck_Next T (by simp [lo0]) hx96) ?_
    obtain ⟨L98, hL99, hm100⟩ := joinB_some hm97
    clear hm97
    try dsimp only at hm100
    have hf101 : [AV.sc (.string (ByteArray.mk #[115, 117, 99, 99])), AV.sc (.string (ByteArray.mk #[108, 97, 109])), AV.sc (.string (ByteArray.mk #[110, 97, 116])), AV.sc (.string (ByteArray.mk #[120])), AV.sc (.string (ByteArray.mk #[112, 97, 105, 114])), AV.sc (.string (ByteArray.mk #[101, 113])), AV.sc (.string (ByteArray.mk #[97, 98, 99, 100, 101, 102, 103, 104, 105, 106, 107, 108, 109, 110, 111, 112]))] = List.map (fun s => AV.sc (Value.string s)) L98 := by rw [hL99]; rfl
    obtain ⟨x102, hx103, hm104⟩ := bind1_some hm100
    clear hm100
    try dsimp only at hm104
    simp [E28, lo0, hf101, hx103, hc42, hc91]
    apply nn81
    refine hk73 _ _ ⟨0, x102, d95, tg0_28, (fr28.gen 5 + 1), ?_, ⟨?_, ?_, ?_, ?_, ?_, ?_⟩, (OwnT.mono (D := [40]) o0_28 (by decide)), hm104⟩ <;> first | rfl | simp [E28, lo0, hf101, hx103, hc42, hc91]
  clear hm68
  simp [E28, lo0, hc42, hc91]
  apply gb90
  refine AWp.seqP (fun fr h => ∃ (tg0_114 : Tag) (g5_114 : Nat), hset H o0 [AV.slice .frz (List.map (fun n => AV.sc (Value.int .i64 n)) d63.l), AV.sc (.int .i64 d63.atF)] = h ∧ (fr.env 0 = AV.gptr o0 0 ∧ fr.env 3 = AV.slice tg0_114 (List.map Tkn.av v25) ∧ fr.env 4 = AV.sc (.int .i64 v26) ∧ fr.env 5 = AV.lptr 5 g5_114 0 ∧ fr.env 28 = AV.sc (.bool (sel (ieq (iadd .i64 1 x62) 4) true (ieq (iadd .i64 1 x62) 5))) ∧ fr.gen 5 = g5_114 ∧ fr.box 5 = some [AV.sc (.int .i64 (iadd .i64 1 x62)), AV.sc (.int .i64 0), AV.sc (.int .i64 0), AV.sc (.string ByteArray.empty)]) ∧ OwnT fr.tab fr.tgen [40] tg0_114 (List.length v25)) (fun K105 hk106 => ?_) ?_
  · refine AWp.sr [] fun K107 hk108 => ?_
    simp [E28, lo0, hc42, hc91]
    apply hk108
    refine AWp.condK fun A109 B110 ga111 gb112 => ?_
    rcases Bool.eq_false_or_eq_true (ieq (iadd .i64 1 x62) 4) with hc113 | hc113
    · simp [E28, lo0, hc42, hc91, hc113]
      apply ga111
      refine AWp.skip ?_
      refine hk106 _ _ ⟨tg0_28, (fr28.gen 5 + 1), ?_, ⟨?_, ?_, ?_, ?_, ?_, ?_, ?_⟩, (OwnT.mono (D := [40]) o0_28 (by decide))⟩ <;> first | rfl | simp [E28, lo0, hc42, hc91, hc113]
    simp [E28, lo0, hc42, hc91, hc113]
    apply gb112
    refine AWp.region [] (by decide +kernel) ?_
    simp [E28, lo0, hc42, hc91, hc113]
    refine hk106 _ _ ⟨tg0_28, (fr28.gen 5 + 1), ?_, ⟨?_, ?_, ?_, ?_, ?_, ?_, ?_⟩, (OwnT.mono (D := [40]) o0_28 (by decide))⟩ <;> first | rfl | simp [E28, lo0, hc42, hc91, hc113]
  rintro fr114 h114 ⟨tg0_114, g5_114, rfl, E114, o0_114⟩
  refine AWp.condK fun A115 B116 ga117 gb118 => ?_
  rcases ite_some hm93 with ⟨hc119, hm120⟩ | ⟨hc119, hm121⟩
  rotate_left
  · clear hm93
    simp [E114, lo0, hc42, hc91, hc119]
    apply gb118
    refine AWp.skip ?_
    apply nn81
    refine hk73 _ _ ⟨0, ByteArray.empty, d63, tg0_114, g5_114, ?_, ⟨?_, ?_, ?_, ?_, ?_, ?_⟩, (OwnT.mono (D := [40]) o0_114 (by decide)), hm121⟩ <;> first | rfl | simp [E114, lo0, hc42, hc91, hc119]
  clear hm93
  simp [E114, lo0, hc42, hc91, hc119]
  apply ga117
  refine AWp.region [] (by decide +kernel) ?_
  obtain ⟨x122, d123, hx124, hm125⟩ := bind2_some hm120
  clear hm120
  try dsimp only at hm125
  simp [E114, lo0, hc42, hc91, hc119]
  refine CallAt.fn (r_mk_Deck_Next T (by simp [lo0]) hx124) ?_
  obtain ⟨L126, hL127, hm128⟩ := joinB_some hm125
  clear hm125
  try dsimp only at hm128
  have hf129 : [AV.sc (.int .i64 0), AV.sc (.int .i64 1), AV.sc (.int .i64 7), AV.sc (.int .i64 12), AV.sc (.int .i64 305), AV.sc (.int .i64 999999)] = List.map (fun n => AV.sc (Value.int .i64 n)) L126 := by rw [hL127]; rfl
  obtain ⟨x130, hx131, hm132⟩ := bind1_some hm128
  clear hm128
  try dsimp only at hm132
  simp [E114, lo0, hf129, hx131, hc42, hc91, hc119]
  apply nn81
  refine hk73 _ _ ⟨x130, ByteArray.empty, d123, tg0_114, g5_114, ?_, ⟨?_, ?_, ?_, ?_, ?_, ?_⟩, (OwnT.mono (D := [40]) o0_114 (by decide)), hm132⟩ <;> first | rfl | simp [E114, lo0, hf129, hx131, hc42, hc91, hc119]

theorem enters27 : entersB Tryd.prog 27 = true := by kernel_rfl

theorem r_slices_EqualFunc_api_Token_api_Token_api_Token_api_Token (T : Tabs) {S : Type} {st : S → Heap} {k : Nat} {a0 : (List Tkn)} {a1 : (List Tkn)} {a2 : (S → Tkn → Tkn → Option (Bool × S))} {sv0 : S} {r0 : Bool} {sv1 : S} {g2 : Nat} {cap2 : List AV} (hF : Fam st k) (hw2 : Does56 T g2 cap2 st a2) (hm : slices_EqualFunc_api_Token_api_Token_api_Token_api_Token a0 a1 a2 sv0 = some (r0, sv1)) : ACall Tryd.prog T 27 [AV.slice .frz (List.map Tkn.av a0), AV.slice .frz (List.map Tkn.av a1), AV.func (.func g2) [] cap2] (st sv0) (AV.sc (.bool r0)) (st sv1) := by
  rw [slices_EqualFunc_api_Token_api_Token_api_Token_api_Token] at hm
  refine ACallP.intro (fn := Tryd.f27) Tryd.func27 rfl enters27 (Nat.le_of_ble_eq_true rfl) ?_
  refine AWp.sr [] fun K1 hk2 => ?_
  simp [hF.len]
  apply hk2
  refine AWp.seqK fun K3 hk4 => ?_
  refine AWp.sr [] fun K5 hk6 => ?_
  simp [hF.len]
  apply hk6
  refine AWp.condK fun A7 B8 ga9 gb10 => ?_
  rcases ite_some hm with ⟨hc11, hm12⟩ | ⟨hc11, hm13⟩
  · clear hm
    simp [hF.len, hc11]
    apply ga9
    refine AWp.sr [] fun K14 hk15 => ?_
    simp [hF.len, hc11]
    apply hk15
    refine AWp.ret ?_
    simp only [Option.some.injEq, Prod.mk.injEq] at hm12
    obtain ⟨rfl, rfl⟩ := hm12
    simp [retQ, hF.len, hc11]
  clear hm
  simp [hF.len, hc11]
  apply gb10
  refine AWp.skip ?_
  apply hk4
  refine AWp.seqK fun K16 hk17 => ?_
  refine AWp.sr [] fun K18 hk19 => ?_
  simp [hF.len, hc11]
  apply hk19
  obtain ⟨hok20, hm21⟩ := chk_some hm13
  clear hm13
  obtain ⟨F22, hF23, hm24⟩ := joinB_some hm21
  clear hm21
  try dsimp only at hm24
  obtain ⟨out25, hl26, hmB27⟩ := bind1_some hm24
  clear hm24
  refine AWp.blockK fun Q28 nn29 ne30 nx31 nr32 => ?_
  refine AWp.loopF (fun n33 fr h => ∃ (i34 : Nat) (j35 : Int) (v36 : S), st v36 = h ∧ (fr.env 1 = AV.slice .frz (List.map Tkn.av a1) ∧ fr.env 2 = AV.func (.func g2) [] cap2 ∧ fr.env 15 = AV.slice .frz (List.map Tkn.av a0) ∧ fr.env 16 = AV.sc (.int .i64 (llen a0)) ∧ fr.env 17 = AV.sc (.int .i64 j35)) ∧ j35 = (i34 : Int) ∧ i34 + n33 = List.length a0 ∧ forR F22 (List.drop i34 a0) i34 v36 = some out25) (List.length a0) ?_ ?_
  · refine ⟨0, 0, sv0, ?_, ⟨?_, ?_, ?_, ?_, ?_⟩, rfl, (by simp), hl26⟩ <;> first | rfl | simp [hF.len, hc11]
  rintro n33 fr37 h37 ⟨i34, j35, v36, rfl, E37, hj38, hi39, hl26⟩ K40 hK41
  rcases n33 with _ | n33
  · have hlt42 := ilt_notJ (l := a0) hj38 (by omega)
    refine AWp.sr [] fun K43 hk44 => ?_
    simp [E37, hF.len, hlt42, hc11]
    apply hk44
    refine AWp.seqK fun K45 hk46 => ?_
    refine AWp.condK fun A47 B48 ga49 gb50 => ?_
    simp [E37, hF.len, hlt42, hc11]
    apply gb50
    refine AWp.exit ?_
    apply ne30
    rw [List.drop_eq_nil_of_le (by omega), forR_nil] at hl26
    obtain rfl := Option.some.inj hl26
    rw [sumK_inl] at hmB27
    try dsimp only at hmB27
    apply hk17
    refine AWp.sr [] fun K51 hk52 => ?_
    simp [E37, hF.len, hlt42, hc11]
    apply hk52
    refine AWp.ret ?_
    simp only [Option.some.injEq, Prod.mk.injEq] at hmB27
    obtain ⟨rfl, rfl⟩ := hmB27
    simp [retQ, E37, hF.len, hlt42, hc11]
  have hlt42 := ilt_ofJ (l := a0) hj38 (by omega)
  obtain ⟨x53, hdn33, hg54⟩ := drop_ltJ (l := a0) hj38 (by omega)
  rw [hdn33, forR_cons] at hl26
  obtain ⟨c55, hb56, hk57⟩ := bind1_some hl26
  clear hl26
  rw [hF23, ← hj38] at hb56
  try dsimp only at hb56
  refine AWp.sr [] fun K58 hk59 => ?_
  simp [E37, hF.len, hlt42, hg54, hc11]
  apply hk59
  refine AWp.seqK fun K60 hk61 => ?_
  refine AWp.condK fun A62 B63 ga64 gb65 => ?_
  simp [E37, hF.len, hlt42, hg54, hc11]
  apply ga64
  refine AWp.skip ?_
  apply hk61
  refine AWp.seqK fun K66 hk67 => ?_
  refine AWp.blockK fun Q68 nn69 ne70 nx71 nr72 => ?_
  refine AWp.sr [] fun K73 hk74 => ?_
  simp [E37, hF.len, hlt42, hg54, hc11]
  apply hk74
  refine AWp.sr [] fun K75 hk76 => ?_
  obtain ⟨x77, hx78, hm79⟩ := bind1_some hb56
  clear hb56
  try dsimp only at hm79
  simp [E37, hF.len, hlt42, hg54, hx78, hc11]
  apply hk76
  refine AWp.sr [] fun K80 hk81 => ?_
  obtain ⟨x82, x83, hx84, hm85⟩ := bind2_some hm79
  clear hm79
  try dsimp only at hm85
  simp [E37, hF.len, hlt42, hg54, hx78, hc11]
  refine CallAt.clo (by rfl) (Does56.at0 hw2 hx84) ?_
  simp [E37, hF.len, hlt42, hg54, hx78, hc11]
  apply hk81
  refine AWp.condK fun A86 B87 ga88 gb89 => ?_
  rcases ite_some hm85 with ⟨hc90, hm91⟩ | ⟨hc90, hm92⟩
  rotate_left
  · clear hm85
    simp [E37, hF.len, hlt42, hg54, hx78, hc11, hc90]
    apply ga88
    refine AWp.sr [] fun K93 hk94 => ?_
    simp [E37, hF.len, hlt42, hg54, hx78, hc11, hc90]
    apply hk94
    refine AWp.ret ?_
    apply nr72
    apply nr32
    obtain rfl := Option.some.inj hm92
    rw [ctlK_ret] at hk57
    obtain rfl := Option.some.inj hk57
    rw [sumK_inr] at hmB27
    try dsimp only at hmB27
    simp only [Option.some.injEq, Prod.mk.injEq] at hmB27
    obtain ⟨rfl, rfl⟩ := hmB27
    simp [retQ, E37, hF.len, hlt42, hg54, hx78, hc11, hc90]
  clear hm85
  simp [E37, hF.len, hlt42, hg54, hx78, hc11, hc90]
  apply gb89
  refine AWp.skip ?_
  apply nn69
  apply hk67
  refine AWp.region [] (by decide +kernel) ?_
  simp [E37, hF.len, hlt42, hg54, hx78, hc11, hc90]
  obtain rfl := Option.some.inj hm91
  rw [ctlK_next] at hk57
  refine hK41 _ _ n33 (Nat.lt_succ_self _) ⟨(i34 + 1), (iadd .i64 j35 1), x83, ?_, ⟨?_, ?_, ?_, ?_, ?_⟩, (iadd_idxJ hj38 (by omega) hok20), (by omega), hk57⟩ <;> first | rfl | simp [E37, hF.len, hlt42, hg54, hx78, hc11, hc90]

theorem enters28 : entersB Tryd.prog 28 = true := by kernel_rfl

theorem r_lexis_Same_1 (T : Tabs) {H : Heap} {a0 : Tkn} {a1 : Tkn} {r0 : Bool} (hm : lexis_Same_1 a0 a1 = some r0) : ACall Tryd.prog T 28 [Tkn.av a0, Tkn.av a1] H (AV.sc (.bool r0)) H := by
  rw [lexis_Same_1] at hm
  refine ACallP.intro (fn := Tryd.f28) Tryd.func28 rfl enters28 (Nat.le_of_ble_eq_true rfl) ?_
  refine AWp.sr [] fun K1 hk2 => ?_
  simp
  apply hk2
  refine AWp.sr [] fun K3 hk4 => ?_
  simp
  apply hk4
  refine AWp.sr [] fun K5 hk6 => ?_
  simp
  apply hk6
  refine AWp.ret ?_
  obtain rfl := Option.some.inj hm
  simp [retQ]

theorem enters15 : entersB Tryd.prog 15 = true := by kernel_rfl

theorem r_lexis_Same (T : Tabs) {H : Heap} {a0 : (List Tkn)} {a1 : (List Tkn)} {r0 : Bool} (hm : lexis_Same a0 a1 = some r0) : ACall Tryd.prog T 15 [AV.slice .frz (List.map Tkn.av a0), AV.slice .frz (List.map Tkn.av a1)] H (AV.sc (.bool r0)) H := by
  rw [lexis_Same] at hm
  refine ACallP.intro (fn := Tryd.f15) Tryd.func15 rfl enters15 (Nat.le_of_ble_eq_true rfl) ?_
  refine AWp.sr [] fun K1 hk2 => ?_
  simp
  apply hk2
  refine AWp.sr [] fun K3 hk4 => ?_
  obtain ⟨x5, s6, hx7, hm8⟩ := bind2_some hm
  clear hm
  try dsimp only at hm8
  simp
  refine CallAt.fn (r_slices_EqualFunc_api_Token_api_Token_api_Token_api_Token T (st := fun _ : Unit => H) (Fam.const _) (fun X _ _ _ _ _ h => by obtain ⟨h1, rfl⟩ := pureW_some h; exact r_lexis_Same_1 T h1) hx7) ?_
  simp
  apply hk4
  refine AWp.ret ?_
  obtain rfl := Option.some.inj hm8
  simp [retQ]

end Go.Proofs.YtooibjkhgdpnaaaDoor
