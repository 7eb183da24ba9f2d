/- The program's functions do what the models say. -/
import Derived.Test.YtooibjkhgdpnaaaDoorLR02
import Derived.Test.YtooibjkhgdpnaaaDoorLM
set_option maxRecDepth 20000
set_option maxHeartbeats 4000000
set_option linter.unusedSimpArgs false
set_option linter.unusedVariables false
namespace Go.Proofs.YtooibjkhgdpnaaaDoor
open Go Go.Abs Go.Mdl

theorem enters4 : entersB Tryd.prog 4 = true := by kernel_rfl

theorem r_law14_LexisJoins (T : Tabs) (hT : LexT T) {a0 : (List Int)} {a1 : ByteArray} {a2 : ByteArray} {r0 : Bool} (hm : law14_LexisJoins a0 a1 a2 = some r0) : ACallP Tryd.prog T 4 [AV.slice .frz (List.map (fun n => AV.sc (Value.int .i64 n)) a0), AV.sc (.string a1), AV.sc (.string a2)] [] (fun x _ => x = AV.sc (.bool r0)) := by
  rw [law14_LexisJoins] at hm
  refine ACallP.intro (fn := Tryd.f4) Tryd.func4 rfl enters4 (Nat.le_of_ble_eq_true rfl) ?_
  refine AWp.sr [] fun K1 hk2 => ?_
  simp [hT]
  apply hk2
  refine AWp.seqK fun K3 hk4 => ?_
  refine AWp.sr [] fun K5 hk6 => ?_
  obtain ⟨x7, hx8, hm9⟩ := bind1_some hm
  clear hm
  try dsimp only at hm9
  simp [hT]
  refine CallAt.fn (r_law14_sane T hT hx8) ?_
  simp [hT]
  apply hk6
  refine AWp.condK fun A10 B11 ga12 gb13 => ?_
  rcases ite_some hm9 with ⟨hc14, hm15⟩ | ⟨hc14, hm16⟩
  rotate_left
  · clear hm9
    simp [hT, hc14]
    apply ga12
    refine AWp.sr [] fun K17 hk18 => ?_
    simp [hT, hc14]
    apply hk18
    refine AWp.ret ?_
    obtain rfl := Option.some.inj hm16
    simp [retQ, hT, hc14]
  clear hm9
  simp [hT, hc14]
  apply gb13
  refine AWp.skip ?_
  apply hk4
  refine AWp.seqK fun K19 hk20 => ?_
  obtain ⟨j21, hj22, hm23⟩ := joinB_some hm15
  clear hm15
  refine AWp.seqP (fun fr h => ∃ (v24 : Bool), ([] : Heap) = h ∧ (fr.env 0 = AV.slice .frz (List.map (fun n => AV.sc (Value.int .i64 n)) a0) ∧ fr.env 1 = AV.sc (.string a1) ∧ fr.env 2 = AV.sc (.string a2) ∧ fr.env 29 = AV.sc (.bool v24)) ∧ j21 v24 = some r0) (fun K25 hk26 => ?_) ?_
  · refine AWp.region [] (by decide +kernel) ?_
    obtain ⟨x27, hx28, hm29⟩ := bind1_some hm23
    clear hm23
    try dsimp only at hm29
    simp [hT, hc14]
    refine CallAt.fn (r_mk_Few T hx28) ?_
    rcases ite_some hm29 with ⟨hc30, hm31⟩ | ⟨hc30, hm32⟩
    rotate_left
    · clear hm29
      simp [hT, hc14, hc30]
      refine hk26 _ _ ⟨true, ?_, ⟨?_, ?_, ?_, ?_⟩, hm32⟩ <;> first | rfl | simp [hT, hc14, hc30]
    clear hm29
    simp [hT, hc14, hc30]
    refine hk26 _ _ ⟨(igt (iadd .i64 (slen a1) (slen a2)) 4000), ?_, ⟨?_, ?_, ?_, ?_⟩, hm31⟩ <;> first | rfl | simp [hT, hc14, hc30]
  clear hm23
  rintro fr33 h33 ⟨v24, rfl, E33, hm34⟩
  subst hj22
  refine AWp.condK fun A35 B36 ga37 gb38 => ?_
  rcases ite_some hm34 with ⟨hc39, hm40⟩ | ⟨hc39, hm41⟩
  · clear hm34
    simp [E33, hT, hc14, hc39]
    apply ga37
    refine AWp.sr [] fun K42 hk43 => ?_
    simp [E33, hT, hc14, hc39]
    apply hk43
    refine AWp.ret ?_
    obtain rfl := Option.some.inj hm40
    simp [retQ, E33, hT, hc14, hc39]
  clear hm34
  simp [E33, hT, hc14, hc39]
  apply gb38
  refine AWp.skip ?_
  apply hk20
  refine AWp.sr [] fun K44 hk45 => ?_
  obtain ⟨x46, hx47, hm48⟩ := bind1_some hm41
  clear hm41
  try dsimp only at hm48
  simp [E33, hT, hc14, hc39]
  refine CallAt.fn (r_mk_New T hx47) ?_
  simp [E33, hT, hc14, hc39]
  apply hk45
  refine AWp.sr [] fun K49 hk50 => ?_
  obtain ⟨x51, d52, hx53, hm54⟩ := bind2_some hm48
  clear hm48
  try dsimp only at hm54
  simp [E33, hT, hc14, hc39]
  refine CallAt.fn (r_law14_text T (by simp) hx53) ?_
  simp [E33, hT, hc14, hc39]
  apply hk50
  refine AWp.seqK fun K55 hk56 => ?_
  refine AWp.sr [] fun K57 hk58 => ?_
  simp [E33, hT, hc14, hc39]
  apply hk58
  obtain ⟨L59, hL60, hm61⟩ := joinB_some hm54
  clear hm54
  try dsimp only at hm61
  obtain ⟨hok62, hm63⟩ := chk_some hm61
  clear hm61
  obtain ⟨F64, hF65, hm66⟩ := joinB_some hm63
  clear hm63
  try dsimp only at hm66
  obtain ⟨out67, hl68, hmB69⟩ := bind1_some hm66
  clear hm66
  refine AWp.blockK fun Q70 nn71 ne72 nx73 nr74 => ?_
  refine AWp.loopF (fun n75 fr h => ∃ (i76 : Nat) (j77 : Int), hset [[]] 0 [AV.slice .frz (List.map (fun n => AV.sc (Value.int .i64 n)) d52.l), AV.sc (.int .i64 d52.atF)] = h ∧ (fr.env 44 = AV.slice .full (List.map (fun p => AV.agg [AV.sc (.string p.1), AV.sc (.string p.2)]) L59) ∧ fr.env 45 = AV.sc (.int .i64 (llen L59)) ∧ fr.env 46 = AV.sc (.int .i64 j77)) ∧ j77 = (i76 : Int) ∧ i76 + n75 = List.length L59 ∧ forR F64 (List.drop i76 L59) i76 () = some out67) (List.length L59) ?_ ?_
  · refine ⟨0, 0, ?_, ⟨?_, ?_, ?_⟩, rfl, (by simp), hl68⟩ <;> first | rfl | (rw [hL60]; rfl) | simp [E33, hT, hL60, llen, hc14, hc39, hL60]
  rintro n75 fr78 h78 ⟨i76, j77, rfl, E78, hj79, hi80, hl68⟩ K81 hK82
  rcases n75 with _ | n75
  · have hlt83 := ilt_notJ (l := L59) hj79 (by omega)
    refine AWp.sr [] fun K84 hk85 => ?_
    simp [E78, hT, hlt83, hc14, hc39]
    apply hk85
    refine AWp.seqK fun K86 hk87 => ?_
    refine AWp.condK fun A88 B89 ga90 gb91 => ?_
    simp [E78, hT, hlt83, hc14, hc39]
    apply gb91
    refine AWp.exit ?_
    apply ne72
    rw [List.drop_eq_nil_of_le (by omega), forR_nil] at hl68
    obtain rfl := Option.some.inj hl68
    rw [sumK_inl] at hmB69
    try dsimp only at hmB69
    apply hk56
    refine AWp.sr [] fun K92 hk93 => ?_
    simp [E78, hT, hlt83, hc14, hc39]
    apply hk93
    refine AWp.ret ?_
    obtain rfl := Option.some.inj hmB69
    simp [retQ, E78, hT, hlt83, hc14, hc39]
  have hlt83 := ilt_ofJ (l := L59) hj79 (by omega)
  obtain ⟨x94, hdn75, hg95⟩ := drop_ltJ (l := L59) hj79 (by omega)
  rw [hdn75, forR_cons] at hl68
  obtain ⟨c96, hb97, hk98⟩ := bind1_some hl68
  clear hl68
  rw [hF65, ← hj79] at hb97
  try dsimp only at hb97
  refine AWp.sr [] fun K99 hk100 => ?_
  simp [E78, hT, hlt83, hg95, hc14, hc39]
  apply hk100
  refine AWp.seqK fun K101 hk102 => ?_
  refine AWp.condK fun A103 B104 ga105 gb106 => ?_
  simp [E78, hT, hlt83, hg95, hc14, hc39]
  apply ga105
  refine AWp.skip ?_
  apply hk102
  obtain ⟨j107, hj108, hm109⟩ := joinB_some hb97
  clear hb97
  refine AWp.seqP (fun fr h => hset [[]] 0 [AV.slice .frz (List.map (fun n => AV.sc (Value.int .i64 n)) d52.l), AV.sc (.int .i64 d52.atF)] = h ∧ (fr.env 44 = AV.slice .full (List.map (fun p => AV.agg [AV.sc (.string p.1), AV.sc (.string p.2)]) L59) ∧ fr.env 45 = AV.sc (.int .i64 (llen L59)) ∧ fr.env 46 = AV.sc (.int .i64 j77)) ∧ j107 = some c96) (fun K110 hk111 => ?_) ?_
  rotate_left
  · clear hm109
    rintro fr112 h112 ⟨rfl, E112, hm113⟩
    subst hj108
    refine AWp.region [] (by decide +kernel) ?_
    simp [E112, hT, hlt83, hg95, hc14, hc39]
    obtain rfl := Option.some.inj hm113
    rw [ctlK_next] at hk98
    refine hK82 _ _ n75 (Nat.lt_succ_self _) ⟨(i76 + 1), (iadd .i64 j77 1), ?_, ⟨?_, ?_, ?_⟩, (iadd_idxJ hj79 (by omega) hok62), (by omega), hk98⟩ <;> first | rfl | simp [E112, hT, hlt83, hg95, hc14, hc39]
  refine AWp.blockK fun Q114 nn115 ne116 nx117 nr118 => ?_
  refine AWp.sr [] fun K119 hk120 => ?_
  simp [E78, hT, hlt83, hg95, hc14, hc39]
  apply hk120
  refine AWp.sr [] fun K121 hk122 => ?_
  obtain ⟨x123, x124, hx125, hm126⟩ := bind2_some hm109
  clear hm109
  try dsimp only at hm126
  simp [E78, hT, hlt83, hg95, hc14, hc39]
  refine CallAt.fn (r_lexis_Tokens T hT hx125) ?_
  simp [E78, hT, hlt83, hg95, hc14, hc39]
  apply hk122
  refine AWp.sr [] fun K127 hk128 => ?_
  obtain ⟨x129, x130, hx131, hm132⟩ := bind2_some hm126
  clear hm126
  try dsimp only at hm132
  simp [E78, hT, hlt83, hg95, hc14, hc39]
  refine CallAt.fn (r_lexis_Tokens T hT hx131) ?_
  simp [E78, hT, hlt83, hg95, hc14, hc39]
  apply hk128
  refine AWp.sr [] fun K133 hk134 => ?_
  obtain ⟨hx135, hm136⟩ := chk_some hm132
  clear hm132
  obtain ⟨hx137, hm138⟩ := chk_some hm136
  clear hm136
  obtain ⟨x139, x140, hx141, hm142⟩ := bind2_some hm138
  clear hm138
  try dsimp only at hm142
  simp [E78, hT, hlt83, hg95, hx135, hx137, hc14, hc39]
  refine CallAt.fn (r_lexis_Tokens T hT hx141) ?_
  simp [E78, hT, hlt83, hg95, hx135, hx137, hc14, hc39]
  apply hk134
  refine AWp.seqK fun K143 hk144 => ?_
  refine AWp.seqP (fun fr h => hset [[]] 0 [AV.slice .frz (List.map (fun n => AV.sc (Value.int .i64 n)) d52.l), AV.sc (.int .i64 d52.atF)] = h ∧ (fr.env 11 = AV.slice .frz (List.map Tok.av x123) ∧ fr.env 12 = AV.sc (.int .i64 x124) ∧ fr.env 13 = AV.slice .frz (List.map Tok.av x129) ∧ fr.env 14 = AV.sc (.int .i64 x130) ∧ fr.env 15 = AV.slice .frz (List.map Tok.av x139) ∧ fr.env 16 = AV.sc (.int .i64 x140) ∧ fr.env 44 = AV.slice .full (List.map (fun p => AV.agg [AV.sc (.string p.1), AV.sc (.string p.2)]) L59) ∧ fr.env 45 = AV.sc (.int .i64 (llen L59)) ∧ fr.env 46 = AV.sc (.int .i64 j77) ∧ fr.env 77 = AV.sc (.bool (sel (ieq x124 15) true (ieq x130 15))))) (fun K145 hk146 => ?_) ?_
  · refine AWp.region [] (by decide +kernel) ?_
    rcases Bool.eq_false_or_eq_true (ieq x124 15) with hc147 | hc147
    · simp [E78, hT, hlt83, hg95, hx135, hx137, hc14, hc39, hc147]
      refine hk146 _ _ ⟨?_, ⟨?_, ?_, ?_, ?_, ?_, ?_, ?_, ?_, ?_, ?_⟩⟩ <;> first | rfl | simp [E78, hT, hlt83, hg95, hx135, hx137, hc14, hc39, hc147]
    simp [E78, hT, hlt83, hg95, hx135, hx137, hc14, hc39, hc147]
    refine hk146 _ _ ⟨?_, ⟨?_, ?_, ?_, ?_, ?_, ?_, ?_, ?_, ?_, ?_⟩⟩ <;> first | rfl | simp [E78, hT, hlt83, hg95, hx135, hx137, hc14, hc39, hc147]
  rintro fr148 h148 ⟨rfl, E148⟩
  refine AWp.condK fun A149 B150 ga151 gb152 => ?_
  rcases ite_some hm142 with ⟨hc153, hm154⟩ | ⟨hc153, hm155⟩
  · clear hm142
    simp [E148, hT, hlt83, hg95, hx135, hx137, hc14, hc39, hc153]
    apply ga151
    refine AWp.seqK fun K156 hk157 => ?_
    refine AWp.seqP (fun fr h => hset [[]] 0 [AV.slice .frz (List.map (fun n => AV.sc (Value.int .i64 n)) d52.l), AV.sc (.int .i64 d52.atF)] = h ∧ (fr.env 44 = AV.slice .full (List.map (fun p => AV.agg [AV.sc (.string p.1), AV.sc (.string p.2)]) L59) ∧ fr.env 45 = AV.sc (.int .i64 (llen L59)) ∧ fr.env 46 = AV.sc (.int .i64 j77) ∧ fr.env 83 = AV.sc (.bool (sel (ine x140 15) (ine x140 3) false)))) (fun K158 hk159 => ?_) ?_
    · refine AWp.region [] (by decide +kernel) ?_
      rcases Bool.eq_false_or_eq_true (ine x140 15) with hc160 | hc160
      · simp [E148, hT, hlt83, hg95, hx135, hx137, hc14, hc39, hc153, hc160]
        refine hk159 _ _ ⟨?_, ⟨?_, ?_, ?_, ?_⟩⟩ <;> first | rfl | simp [E148, hT, hlt83, hg95, hx135, hx137, hc14, hc39, hc153, hc160]
      simp [E148, hT, hlt83, hg95, hx135, hx137, hc14, hc39, hc153, hc160]
      refine hk159 _ _ ⟨?_, ⟨?_, ?_, ?_, ?_⟩⟩ <;> first | rfl | simp [E148, hT, hlt83, hg95, hx135, hx137, hc14, hc39, hc153, hc160]
    rintro fr161 h161 ⟨rfl, E161⟩
    refine AWp.condK fun A162 B163 ga164 gb165 => ?_
    rcases ite_some hm154 with ⟨hc166, hm167⟩ | ⟨hc166, hm168⟩
    rotate_left
    · clear hm154
      simp [E161, hT, hlt83, hg95, hx135, hx137, hc14, hc39, hc153, hc166]
      apply gb165
      refine AWp.skip ?_
      apply hk157
      refine AWp.exit ?_
      apply ne116
      refine hk111 _ _ ⟨?_, ⟨?_, ?_, ?_⟩, hm168⟩ <;> first | rfl | simp [E161, hT, hlt83, hg95, hx135, hx137, hc14, hc39, hc153, hc166]
    clear hm154
    simp [E161, hT, hlt83, hg95, hx135, hx137, hc14, hc39, hc153, hc166]
    apply ga164
    refine AWp.sr [] fun K169 hk170 => ?_
    simp [E161, hT, hlt83, hg95, hx135, hx137, hc14, hc39, hc153, hc166]
    apply hk170
    refine AWp.ret ?_
    apply nr118
    apply nr74
    obtain rfl := Option.some.inj hm167
    rw [ctlK_ret] at hk98
    obtain rfl := Option.some.inj hk98
    rw [sumK_inr] at hmB69
    try dsimp only at hmB69
    obtain rfl := Option.some.inj hmB69
    simp [retQ, E161, hT, hlt83, hg95, hx135, hx137, hc14, hc39, hc153, hc166]
  clear hm142
  simp [E148, hT, hlt83, hg95, hx135, hx137, hc14, hc39, hc153]
  apply gb152
  refine AWp.skip ?_
  apply hk144
  refine AWp.seqK fun K171 hk172 => ?_
  refine AWp.seqP (fun fr h => hset [[]] 0 [AV.slice .frz (List.map (fun n => AV.sc (Value.int .i64 n)) d52.l), AV.sc (.int .i64 d52.atF)] = h ∧ (fr.env 11 = AV.slice .frz (List.map Tok.av x123) ∧ fr.env 13 = AV.slice .frz (List.map Tok.av x129) ∧ fr.env 15 = AV.slice .frz (List.map Tok.av x139) ∧ fr.env 16 = AV.sc (.int .i64 x140) ∧ fr.env 44 = AV.slice .full (List.map (fun p => AV.agg [AV.sc (.string p.1), AV.sc (.string p.2)]) L59) ∧ fr.env 45 = AV.sc (.int .i64 (llen L59)) ∧ fr.env 46 = AV.sc (.int .i64 j77) ∧ fr.env 93 = AV.sc (.bool (sel (ieq x140 3) true (sel (ine x124 0) true (ine x130 0)))))) (fun K173 hk174 => ?_) ?_
  · refine AWp.region [] (by decide +kernel) ?_
    rcases Bool.eq_false_or_eq_true (ieq x140 3) with hc175 | hc175
    · simp [E148, hT, hlt83, hg95, hx135, hx137, hc14, hc39, hc153, hc175]
      refine hk174 _ _ ⟨?_, ⟨?_, ?_, ?_, ?_, ?_, ?_, ?_, ?_⟩⟩ <;> first | rfl | simp [E148, hT, hlt83, hg95, hx135, hx137, hc14, hc39, hc153, hc175]
    rcases Bool.eq_false_or_eq_true (ine x124 0) with hc176 | hc176
    · simp [E148, hT, hlt83, hg95, hx135, hx137, hc14, hc39, hc153, hc175, hc176]
      refine hk174 _ _ ⟨?_, ⟨?_, ?_, ?_, ?_, ?_, ?_, ?_, ?_⟩⟩ <;> first | rfl | simp [E148, hT, hlt83, hg95, hx135, hx137, hc14, hc39, hc153, hc175, hc176]
    simp [E148, hT, hlt83, hg95, hx135, hx137, hc14, hc39, hc153, hc175, hc176]
    refine hk174 _ _ ⟨?_, ⟨?_, ?_, ?_, ?_, ?_, ?_, ?_, ?_⟩⟩ <;> first | rfl | simp [E148, hT, hlt83, hg95, hx135, hx137, hc14, hc39, hc153, hc175, hc176]
  rintro fr177 h177 ⟨rfl, E177⟩
  refine AWp.condK fun A178 B179 ga180 gb181 => ?_
  rcases ite_some hm155 with ⟨hc182, hm183⟩ | ⟨hc182, hm184⟩
  · clear hm155
    simp [E177, hT, hlt83, hg95, hx135, hx137, hc14, hc39, hc153, hc182]
    apply ga180
    refine AWp.exit ?_
    apply ne116
    refine hk111 _ _ ⟨?_, ⟨?_, ?_, ?_⟩, hm183⟩ <;> first | rfl | simp [E177, hT, hlt83, hg95, hx135, hx137, hc14, hc39, hc153, hc182]
  clear hm155
  simp [E177, hT, hlt83, hg95, hx135, hx137, hc14, hc39, hc153, hc182]
  apply gb181
  refine AWp.skip ?_
  apply hk172
  obtain ⟨j185, hj186, hm187⟩ := joinB_some hm184
  clear hm184
  refine AWp.seqP (fun fr h => ∃ (v188 : Bool), hset [[]] 0 [AV.slice .frz (List.map (fun n => AV.sc (Value.int .i64 n)) d52.l), AV.sc (.int .i64 d52.atF)] = h ∧ (fr.env 44 = AV.slice .full (List.map (fun p => AV.agg [AV.sc (.string p.1), AV.sc (.string p.2)]) L59) ∧ fr.env 45 = AV.sc (.int .i64 (llen L59)) ∧ fr.env 46 = AV.sc (.int .i64 j77) ∧ fr.env 104 = AV.sc (.bool v188)) ∧ j185 v188 = some c96) (fun K189 hk190 => ?_) ?_
  rotate_left
  · clear hm187
    rintro fr191 h191 ⟨v188, rfl, E191, hm192⟩
    subst hj186
    refine AWp.condK fun A193 B194 ga195 gb196 => ?_
    rcases ite_some hm192 with ⟨hc197, hm198⟩ | ⟨hc197, hm199⟩
    rotate_left
    · clear hm192
      simp [E191, hT, hlt83, hg95, hx135, hx137, hc14, hc39, hc153, hc182, hc197]
      apply gb196
      refine AWp.skip ?_
      apply nn115
      refine hk111 _ _ ⟨?_, ⟨?_, ?_, ?_⟩, hm199⟩ <;> first | rfl | simp [E191, hT, hlt83, hg95, hx135, hx137, hc14, hc39, hc153, hc182, hc197]
    clear hm192
    simp [E191, hT, hlt83, hg95, hx135, hx137, hc14, hc39, hc153, hc182, hc197]
    apply ga195
    refine AWp.sr [] fun K200 hk201 => ?_
    simp [E191, hT, hlt83, hg95, hx135, hx137, hc14, hc39, hc153, hc182, hc197]
    apply hk201
    refine AWp.ret ?_
    apply nr118
    apply nr74
    obtain rfl := Option.some.inj hm198
    rw [ctlK_ret] at hk98
    obtain rfl := Option.some.inj hk98
    rw [sumK_inr] at hmB69
    try dsimp only at hmB69
    obtain rfl := Option.some.inj hmB69
    simp [retQ, E191, hT, hlt83, hg95, hx135, hx137, hc14, hc39, hc153, hc182, hc197]
  refine AWp.region [] (by decide +kernel) ?_
  rcases ite_some hm187 with ⟨hc202, hm203⟩ | ⟨hc202, hm204⟩
  · clear hm187
    simp [E177, hT, hlt83, hg95, hx135, hx137, hc14, hc39, hc153, hc182, hc202]
    refine hk190 _ _ ⟨true, ?_, ⟨?_, ?_, ?_, ?_⟩, hm203⟩ <;> first | rfl | simp [E177, hT, hlt83, hg95, hx135, hx137, hc14, hc39, hc153, hc182, hc202]
  clear hm187
  obtain ⟨ha205, hm206⟩ := chk_some hm204
  clear hm204
  simp [E177, hT, hlt83, hg95, hx135, hx137, hc14, hc39, hc153, hc182, hc202]
  refine AppAt2.own (f := Tok.av) [] x123 (OwnT.full (D := [])) ap30 (by intro x; simp) ha205 (by first | rfl | simp) (by first | rfl | simp) ?_
  obtain ⟨ha207, hm208⟩ := chk_some hm206
  clear hm206
  simp [E177, hT, hlt83, hg95, hx135, hx137, hc14, hc39, hc153, hc182, hc202]
  refine AppAt2.own (f := Tok.av) (lapp [] x123) x129 (OwnT.new (D := [99]) (d := 99) (by decide)) ap30 (by intro x; simp) ha207 (by first | rfl | simp) (by first | rfl | simp) ?_
  obtain ⟨x209, hx210, hm211⟩ := bind1_some hm208
  clear hm208
  try dsimp only at hm211
  simp [E177, hT, hlt83, hg95, hx135, hx137, hc14, hc39, hc153, hc182, hc202]
  refine CallAt.fn (r_lexis_Same T hx210) ?_
  simp [E177, hT, hlt83, hg95, hx135, hx137, hc14, hc39, hc153, hc182, hc202]
  refine hk190 _ _ ⟨(bnot x209), ?_, ⟨?_, ?_, ?_, ?_⟩, hm211⟩ <;> first | rfl | simp [E177, hT, hlt83, hg95, hx135, hx137, hc14, hc39, hc153, hc182, hc202]

theorem enters34 : entersB Tryd.prog 34 = true := by kernel_rfl

theorem r_ref14_digit (T : Tabs) {H : Heap} {a0 : Int} {r0 : Bool} (hm : ref14_digit a0 = some r0) : ACall Tryd.prog T 34 [AV.sc (.int .u8 a0)] H (AV.sc (.bool r0)) H := by
  rw [ref14_digit] at hm
  refine ACallP.intro (fn := Tryd.f34) Tryd.func34 rfl enters34 (Nat.le_of_ble_eq_true rfl) ?_
  refine AWp.sr [] fun K1 hk2 => ?_
  simp
  apply hk2
  refine AWp.seqP (fun fr h => H = h ∧ fr.env 2 = AV.sc (.bool (sel (ige a0 48) (ile a0 57) false))) (fun K3 hk4 => ?_) ?_
  rotate_left
  · rintro fr5 h5 ⟨rfl, E5⟩
    refine AWp.ret ?_
    obtain rfl := Option.some.inj hm
    simp [retQ, E5]
  refine AWp.region [] (by decide +kernel) ?_
  rcases Bool.eq_false_or_eq_true (ige a0 48) with hc6 | hc6
  · simp [hc6]
    refine hk4 _ _ ⟨?_, ?_⟩ <;> first | rfl | simp [hc6]
  simp [hc6]
  refine hk4 _ _ ⟨?_, ?_⟩ <;> first | rfl | simp [hc6]

theorem enters43 : entersB Tryd.prog 43 = true := by kernel_rfl

theorem r_ref14_number (T : Tabs) {H : Heap} {a0 : ByteArray} {r0 : Int} {r1 : Bool} (hm : ref14_number a0 = some (r0, r1)) : ACall Tryd.prog T 43 [AV.sc (.string a0)] H (AV.tuple [AV.sc (.int .i64 r0), AV.sc (.bool r1)]) H := by
  rw [ref14_number] at hm
  refine ACallP.intro (fn := Tryd.f43) Tryd.func43 rfl enters43 (Nat.le_of_ble_eq_true rfl) ?_
  refine AWp.sr [] fun K1 hk2 => ?_
  simp
  apply hk2
  refine AWp.seqK fun K3 hk4 => ?_
  obtain ⟨j5, hj6, hm7⟩ := joinB_some hm
  clear hm
  refine AWp.seqP (fun fr h => ∃ (v8 : Bool), H = h ∧ (fr.env 0 = AV.sc (.string a0) ∧ fr.env 23 = AV.sc (.bool v8)) ∧ j5 v8 = some (r0, r1)) (fun K9 hk10 => ?_) ?_
  · refine AWp.region [] (by decide +kernel) ?_
    rcases ite_some hm7 with ⟨hc11, hm12⟩ | ⟨hc11, hm13⟩
    · clear hm7
      simp [hc11]
      refine hk10 _ _ ⟨true, ?_, ⟨?_, ?_⟩, hm12⟩ <;> first | rfl | simp [hc11]
    clear hm7
    rcases ite_some hm13 with ⟨hc14, hm15⟩ | ⟨hc14, hm16⟩
    · clear hm13
      simp [hc11, hc14]
      refine hk10 _ _ ⟨true, ?_, ⟨?_, ?_⟩, hm15⟩ <;> first | rfl | simp [hc11, hc14]
    clear hm13
    obtain ⟨x17, hx18, hm19⟩ := bind1_some hm16
    clear hm16
    try dsimp only at hm19
    rcases ite_some hm19 with ⟨hc20, hm21⟩ | ⟨hc20, hm22⟩
    rotate_left
    · clear hm19
      simp [hx18, hc11, hc14, hc20]
      refine hk10 _ _ ⟨false, ?_, ⟨?_, ?_⟩, hm22⟩ <;> first | rfl | simp [hx18, hc11, hc14, hc20]
    clear hm19
    simp [hx18, hc11, hc14, hc20]
    refine hk10 _ _ ⟨(igt (slen a0) 1), ?_, ⟨?_, ?_⟩, hm21⟩ <;> first | rfl | simp [hx18, hc11, hc14, hc20]
  clear hm7
  rintro fr23 h23 ⟨v8, rfl, E23, hm24⟩
  subst hj6
  refine AWp.condK fun A25 B26 ga27 gb28 => ?_
  rcases ite_some hm24 with ⟨hc29, hm30⟩ | ⟨hc29, hm31⟩
  · clear hm24
    simp [E23, hc29]
    apply ga27
    refine AWp.sr [] fun K32 hk33 => ?_
    simp [E23, hc29]
    apply hk33
    refine AWp.ret ?_
    simp only [Option.some.injEq, Prod.mk.injEq] at hm30
    obtain ⟨rfl, rfl⟩ := hm30
    simp [retQ, E23, hc29]
  clear hm24
  simp [E23, hc29]
  apply gb28
  refine AWp.skip ?_
  apply hk4
  refine AWp.sr [] fun K34 hk35 => ?_
  simp [E23, hc29]
  apply hk35
  refine AWp.seqK fun K36 hk37 => ?_
  refine AWp.sr [] fun K38 hk39 => ?_
  simp [E23, hc29]
  apply hk39
  obtain ⟨F40, hF41, hm42⟩ := joinB_some hm31
  clear hm31
  try dsimp only at hm42
  obtain ⟨out43, hl44, hmB45⟩ := bind1_some hm42
  clear hm42
  refine AWp.blockK fun Q46 nn47 ne48 nx49 nr50 => ?_
  refine AWp.loopF (fun n51 fr h => ∃ (v52 : Int) (v53 : Int), H = h ∧ (fr.env 0 = AV.sc (.string a0) ∧ fr.env 4 = AV.sc (.int .i64 v52) ∧ fr.env 5 = AV.sc (.int .i64 v53)) ∧ loopN F40 n51 (v52, v53) = some out43) FU ?_ ?_
  · refine ⟨0, 0, ?_, ⟨?_, ?_, ?_⟩, hl44⟩ <;> first | rfl | simp [E23, hc29]
  rintro n51 fr54 h54 ⟨v52, v53, rfl, E54, hl44⟩ K55 hK56
  rcases n51 with _ | n51
  · rw [loopN_zero] at hl44
    cases hl44
  rw [loopN_succ] at hl44
  obtain ⟨c57, hb58, hk59⟩ := bind1_some hl44
  clear hl44
  rw [hF41] at hb58
  try dsimp only at hb58
  rw [un2_mk] at hb58
  try dsimp only at hb58
  refine AWp.seqK fun K60 hk61 => ?_
  refine AWp.sr [] fun K62 hk63 => ?_
  simp [E54, hc29]
  apply hk63
  refine AWp.condK fun A64 B65 ga66 gb67 => ?_
  rcases ite_some hb58 with ⟨hc68, hm69⟩ | ⟨hc68, hm70⟩
  rotate_left
  · clear hb58
    simp [E54, hc29, hc68]
    apply gb67
    refine AWp.exit ?_
    apply ne48
    obtain rfl := Option.some.inj hm70
    rw [ctlK_brk] at hk59
    obtain rfl := Option.some.inj hk59
    rw [sumK_inl, un2_mk] at hmB45
    try dsimp only at hmB45
    apply hk37
    refine AWp.sr [] fun K71 hk72 => ?_
    simp [E54, hc29, hc68]
    apply hk72
    refine AWp.ret ?_
    simp only [Option.some.injEq, Prod.mk.injEq] at hmB45
    obtain ⟨rfl, rfl⟩ := hmB45
    simp [retQ, E54, hc29, hc68]
  clear hb58
  simp [E54, hc29, hc68]
  apply ga66
  refine AWp.skip ?_
  apply hk61
  refine AWp.seqK fun K73 hk74 => ?_
  refine AWp.blockK fun Q75 nn76 ne77 nx78 nr79 => ?_
  refine AWp.seqK fun K80 hk81 => ?_
  refine AWp.sr [] fun K82 hk83 => ?_
  obtain ⟨x84, hx85, hm86⟩ := bind1_some hm69
  clear hm69
  try dsimp only at hm86
  obtain ⟨x87, hx88, hm89⟩ := bind1_some hm86
  clear hm86
  try dsimp only at hm89
  simp [E54, hx85, hc29, hc68]
  refine CallAt.fn (r_ref14_digit T hx88) ?_
  simp [E54, hx85, hc29, hc68]
  apply hk83
  refine AWp.condK fun A90 B91 ga92 gb93 => ?_
  rcases ite_some hm89 with ⟨hc94, hm95⟩ | ⟨hc94, hm96⟩
  rotate_left
  · clear hm89
    simp [E54, hx85, hc29, hc68, hc94]
    apply ga92
    refine AWp.sr [] fun K97 hk98 => ?_
    simp [E54, hx85, hc29, hc68, hc94]
    apply hk98
    refine AWp.ret ?_
    apply nr79
    apply nr50
    obtain rfl := Option.some.inj hm96
    rw [ctlK_ret] at hk59
    obtain rfl := Option.some.inj hk59
    rw [sumK_inr] at hmB45
    try dsimp only at hmB45
    simp only [Option.some.injEq, Prod.mk.injEq] at hmB45
    obtain ⟨rfl, rfl⟩ := hmB45
    simp [retQ, E54, hx85, hc29, hc68, hc94]
  clear hm89
  simp [E54, hx85, hc29, hc68, hc94]
  apply gb93
  refine AWp.skip ?_
  apply hk81
  refine AWp.region [] (by decide +kernel) ?_
  simp [E54, hx85, hc29, hc68, hc94]
  apply nn76
  apply hk74
  refine AWp.region [] (by decide +kernel) ?_
  simp [E54, hx85, hc29, hc68, hc94]
  obtain rfl := Option.some.inj hm95
  rw [ctlK_next] at hk59
  refine hK56 _ _ n51 (Nat.lt_succ_self _) ⟨(isub .i64 (iadd .i64 (imul .i64 v52 10) (conv .i64 x84)) 48), (iadd .i64 v53 1), ?_, ⟨?_, ?_, ?_⟩, hk59⟩ <;> first | rfl | simp [E54, hx85, hc29, hc68, hc94]

theorem enters35 : entersB Tryd.prog 35 = true := by kernel_rfl

theorem r_ref14_word (T : Tabs) {H : Heap} {a0 : ByteArray} {a1 : Int} {r0 : Tok} {r1 : Bool} (hm : ref14_word a0 a1 = some (r0, r1)) : ACall Tryd.prog T 35 [AV.sc (.string a0), AV.sc (.int .i64 a1)] H (AV.tuple [Tok.av r0, AV.sc (.bool r1)]) H := by
  rw [ref14_word] at hm
  refine ACallP.intro (fn := Tryd.f35) Tryd.func35 rfl enters35 (Nat.le_of_ble_eq_true rfl) ?_
  refine AWp.sr [] fun K1 hk2 => ?_
  simp
  apply hk2
  refine AWp.seqK fun K3 hk4 => ?_
  refine AWp.sr [] fun K5 hk6 => ?_
  obtain ⟨x7, x8, hx9, hm10⟩ := bind2_some hm
  clear hm
  try dsimp only at hm10
  simp
  refine CallAt.fn (r_ref14_number T hx9) ?_
  simp
  apply hk6
  refine AWp.sr [] fun K11 hk12 => ?_
  simp
  apply hk12
  refine AWp.condK fun A13 B14 ga15 gb16 => ?_
  rcases ite_some hm10 with ⟨hc17, hm18⟩ | ⟨hc17, hm19⟩
  · clear hm10
    simp [hc17]
    apply ga15
    refine AWp.sr [] fun K20 hk21 => ?_
    simp [hc17]
    apply hk21
    refine AWp.ret ?_
    simp only [Option.some.injEq, Prod.mk.injEq] at hm18
    obtain ⟨rfl, rfl⟩ := hm18
    simp [retQ, hc17]
  clear hm10
  simp [hc17]
  apply gb16
  refine AWp.skip ?_
  apply hk4
  obtain ⟨j22, hj23, hm24⟩ := joinB_some hm19
  clear hm19
  refine AWp.seqP (fun fr h => ∃ (g4_27 : Nat), H = h ∧ (fr.env 0 = AV.sc (.string a0) ∧ fr.env 1 = AV.sc (.int .i64 a1) ∧ fr.env 4 = AV.lptr 4 g4_27 0 ∧ fr.gen 4 = g4_27 ∧ fr.box 4 = some [AV.sc (.int .i64 0), AV.sc (.int .i64 0), AV.sc (.int .i64 0), AV.sc (.string ByteArray.empty)]) ∧ j22 = some (r0, r1)) (fun K25 hk26 => ?_) ?_
  rotate_left
  · clear hm24
    rintro fr27 h27 ⟨g4_27, rfl, E27, hm28⟩
    subst hj23
    refine AWp.sr [] fun K29 hk30 => ?_
    obtain ⟨x31, hx32, hm33⟩ := bind1_some hm28
    clear hm28
    try dsimp only at hm33
    simp [E27, hc17]
    refine CallAt.fn (r_ref14_Name T hx32) ?_
    simp [E27, hc17]
    apply hk30
    refine AWp.ret ?_
    simp only [Option.some.injEq, Prod.mk.injEq] at hm33
    obtain ⟨rfl, rfl⟩ := hm33
    simp [retQ, E27, hc17]
  obtain ⟨j34, hj35, hm36⟩ := joinB_some hm24
  clear hm24
  refine AWp.seqP (fun fr h => ∃ (v37 : Bool) (g4_46 : Nat), H = h ∧ (fr.env 0 = AV.sc (.string a0) ∧ fr.env 1 = AV.sc (.int .i64 a1) ∧ fr.env 4 = AV.lptr 4 g4_46 0 ∧ fr.env 26 = AV.sc (.bool v37) ∧ fr.gen 4 = g4_46 ∧ fr.box 4 = some [AV.sc (.int .i64 0), AV.sc (.int .i64 0), AV.sc (.int .i64 0), AV.sc (.string ByteArray.empty)]) ∧ j34 v37 = some (r0, r1)) (fun K38 hk39 => ?_) ?_
  · refine AWp.region [] (by decide +kernel) ?_
    obtain ⟨x40, hx41, hm42⟩ := bind1_some hm36
    clear hm36
    try dsimp only at hm42
    rcases ite_some hm42 with ⟨hc43, hm44⟩ | ⟨hc43, hm45⟩
    rotate_left
    · clear hm42
      simp [hx41, hc17, hc43]
      refine hk39 _ _ ⟨false, 1, ?_, ⟨?_, ?_, ?_, ?_, ?_, ?_⟩, hm45⟩ <;> first | rfl | simp [hx41, hc17, hc43]
    clear hm42
    simp [hx41, hc17, hc43]
    refine hk39 _ _ ⟨(igt (slen a0) 1), 1, ?_, ⟨?_, ?_, ?_, ?_, ?_, ?_⟩, hm44⟩ <;> first | rfl | simp [hx41, hc17, hc43]
  clear hm36
  rintro fr46 h46 ⟨v37, g4_46, rfl, E46, hm47⟩
  subst hj35
  refine AWp.condK fun A48 B49 ga50 gb51 => ?_
  rcases ite_some hm47 with ⟨hc52, hm53⟩ | ⟨hc52, hm54⟩
  rotate_left
  · clear hm47
    simp [E46, hc17, hc52]
    apply gb51
    refine AWp.skip ?_
    refine hk26 _ _ ⟨g4_46, ?_, ⟨?_, ?_, ?_, ?_, ?_⟩, hm54⟩ <;> first | rfl | simp [E46, hc17, hc52]
  clear hm47
  simp [E46, hc17, hc52]
  apply ga50
  refine AWp.sr [] fun K55 hk56 => ?_
  obtain ⟨x57, hx58, hm59⟩ := bind1_some hm53
  clear hm53
  try dsimp only at hm59
  obtain ⟨x60, x61, hx62, hm63⟩ := bind2_some hm59
  clear hm59
  try dsimp only at hm63
  simp [E46, hx58, hc17, hc52]
  refine CallAt.fn (r_ref14_number T hx62) ?_
  simp [E46, hx58, hc17, hc52]
  apply hk56
  refine AWp.sr [] fun K64 hk65 => ?_
  simp [E46, hx58, hc17, hc52]
  apply hk65
  refine AWp.condK fun A66 B67 ga68 gb69 => ?_
  rcases ite_some hm63 with ⟨hc70, hm71⟩ | ⟨hc70, hm72⟩
  rotate_left
  · clear hm63
    simp [E46, hx58, hc17, hc52, hc70]
    apply gb69
    refine AWp.skip ?_
    refine hk26 _ _ ⟨g4_46, ?_, ⟨?_, ?_, ?_, ?_, ?_⟩, hm72⟩ <;> first | rfl | simp [E46, hx58, hc17, hc52, hc70]
  clear hm63
  simp [E46, hx58, hc17, hc52, hc70]
  apply ga68
  refine AWp.sr [] fun K73 hk74 => ?_
  simp [E46, hx58, hc17, hc52, hc70]
  apply hk74
  refine AWp.ret ?_
  simp only [Option.some.injEq, Prod.mk.injEq] at hm71
  obtain ⟨rfl, rfl⟩ := hm71
  simp [retQ, E46, hx58, hc17, hc52, hc70]

theorem enters17 : entersB Tryd.prog 17 = true := by kernel_rfl

theorem r_ref14_Tokens (T : Tabs) {H : Heap} {a0 : ByteArray} {r0 : (List Tok)} {r1 : Int} (hm : ref14_Tokens a0 = some (r0, r1)) : ACall Tryd.prog T 17 [AV.sc (.string a0)] H (AV.tuple [AV.slice .frz (List.map Tok.av r0), AV.sc (.int .i64 r1)]) H := by
  rw [ref14_Tokens] at hm
  refine ACallP.intro (fn := Tryd.f17) Tryd.func17 rfl enters17 (Nat.le_of_ble_eq_true rfl) ?_
  refine AWp.sr [] fun K1 hk2 => ?_
  simp
  apply hk2
  refine AWp.seqK fun K3 hk4 => ?_
  refine AWp.sr [] fun K5 hk6 => ?_
  simp
  apply hk6
  refine AWp.condK fun A7 B8 ga9 gb10 => ?_
  rcases ite_some hm with ⟨hc11, hm12⟩ | ⟨hc11, hm13⟩
  · clear hm
    simp [hc11]
    apply ga9
    refine AWp.sr [] fun K14 hk15 => ?_
    simp [hc11]
    apply hk15
    refine AWp.ret ?_
    simp only [Option.some.injEq, Prod.mk.injEq] at hm12
    obtain ⟨rfl, rfl⟩ := hm12
    simp [retQ, hc11]
  clear hm
  simp [hc11]
  apply gb10
  refine AWp.skip ?_
  apply hk4
  refine AWp.sr [] fun K16 hk17 => ?_
  simp [hc11]
  apply hk17
  refine AWp.seqK fun K18 hk19 => ?_
  refine AWp.sr [] fun K20 hk21 => ?_
  simp [hc11]
  apply hk21
  obtain ⟨F22, hF23, hm24⟩ := joinB_some hm13
  clear hm13
  try dsimp only at hm24
  obtain ⟨out25, hl26, hmB27⟩ := bind1_some hm24
  clear hm24
  refine AWp.blockK fun Q28 nn29 ne30 nx31 nr32 => ?_
  refine AWp.loopF (fun n33 fr h => ∃ (v34 : (List Tok)) (v35 : Int) (tg0_36 : Tag), H = h ∧ (fr.env 0 = AV.sc (.string a0) ∧ fr.env 4 = AV.slice tg0_36 (List.map Tok.av v34) ∧ fr.env 5 = AV.sc (.int .i64 v35)) ∧ OwnT fr.tab fr.tgen [52, 76, 88] tg0_36 (List.length v34) ∧ loopN F22 n33 (v34, v35) = some out25) FU ?_ ?_
  · refine ⟨[], 0, .full, ?_, ⟨?_, ?_, ?_⟩, OwnT.full, hl26⟩ <;> first | rfl | simp [hc11]
  rintro n33 fr36 h36 ⟨v34, v35, tg0_36, rfl, E36, o0_36, hl26⟩ K37 hK38
  rcases n33 with _ | n33
  · rw [loopN_zero] at hl26
    cases hl26
  rw [loopN_succ] at hl26
  obtain ⟨c39, hb40, hk41⟩ := bind1_some hl26
  clear hl26
  rw [hF23] at hb40
  try dsimp only at hb40
  rw [un2_mk] at hb40
  try dsimp only at hb40
  refine AWp.seqK fun K42 hk43 => ?_
  refine AWp.sr [] fun K44 hk45 => ?_
  simp [E36, hc11]
  apply hk45
  refine AWp.condK fun A46 B47 ga48 gb49 => ?_
  rcases ite_some hb40 with ⟨hc50, hm51⟩ | ⟨hc50, hm52⟩
  rotate_left
  · clear hb40
    simp [E36, hc11, hc50]
    apply gb49
    refine AWp.exit ?_
    apply ne30
    obtain rfl := Option.some.inj hm52
    rw [ctlK_brk] at hk41
    obtain rfl := Option.some.inj hk41
    rw [sumK_inl, un2_mk] at hmB27
    try dsimp only at hmB27
    apply hk19
    refine AWp.seqK fun K53 hk54 => ?_
    refine AWp.sr [] fun K55 hk56 => ?_
    simp [E36, hc11, hc50]
    apply hk56
    refine AWp.condK fun A57 B58 ga59 gb60 => ?_
    rcases ite_some hmB27 with ⟨hc61, hm62⟩ | ⟨hc61, hm63⟩
    · clear hmB27
      simp [E36, hc11, hc50, hc61]
      apply ga59
      refine AWp.sr [] fun K64 hk65 => ?_
      simp [E36, hc11, hc50, hc61]
      apply hk65
      refine AWp.ret ?_
      simp only [Option.some.injEq, Prod.mk.injEq] at hm62
      obtain ⟨rfl, rfl⟩ := hm62
      simp [retQ, E36, hc11, hc50, hc61]
    clear hmB27
    simp [E36, hc11, hc50, hc61]
    apply gb60
    refine AWp.skip ?_
    apply hk54
    refine AWp.sr [] fun K66 hk67 => ?_
    simp [E36, hc11, hc50, hc61]
    apply hk67
    refine AWp.ret ?_
    simp only [Option.some.injEq, Prod.mk.injEq] at hm63
    obtain ⟨rfl, rfl⟩ := hm63
    simp [retQ, E36, hc11, hc50, hc61]
  clear hb40
  simp [E36, hc11, hc50]
  apply ga48
  refine AWp.skip ?_
  apply hk43
  refine AWp.blockK fun Q68 nn69 ne70 nx71 nr72 => ?_
  refine AWp.blockK fun Q73 nn74 ne75 nx76 nr77 => ?_
  obtain ⟨j78, hj79, hm80⟩ := joinB_some hm51
  clear hm51
  refine AWp.seqP (fun fr h => ∃ (v81 : Bool) (tg0_90 : Tag), H = h ∧ (fr.env 0 = AV.sc (.string a0) ∧ fr.env 4 = AV.slice tg0_90 (List.map Tok.av v34) ∧ fr.env 5 = AV.sc (.int .i64 v35) ∧ fr.env 54 = AV.sc (.bool v81)) ∧ OwnT fr.tab fr.tgen [52, 76, 88] tg0_90 (List.length v34) ∧ j78 v81 = some c39) (fun K82 hk83 => ?_) ?_
  · refine AWp.region [] (by decide +kernel) ?_
    obtain ⟨x84, hx85, hm86⟩ := bind1_some hm80
    clear hm80
    try dsimp only at hm86
    rcases ite_some hm86 with ⟨hc87, hm88⟩ | ⟨hc87, hm89⟩
    · clear hm86
      simp [E36, hx85, hc11, hc50, hc87]
      refine hk83 _ _ ⟨true, tg0_36, ?_, ⟨?_, ?_, ?_, ?_⟩, (OwnT.mono (D := [52, 76, 88]) o0_36 (by decide)), hm88⟩ <;> first | rfl | simp [E36, hx85, hc11, hc50, hc87]
    clear hm86
    simp [E36, hx85, hc11, hc50, hc87]
    refine hk83 _ _ ⟨(ieq x84 10), tg0_36, ?_, ⟨?_, ?_, ?_, ?_⟩, (OwnT.mono (D := [52, 76, 88]) o0_36 (by decide)), hm89⟩ <;> first | rfl | simp [E36, hx85, hc11, hc50, hc87]
  clear hm80
  rintro fr90 h90 ⟨v81, tg0_90, rfl, E90, o0_90, hm91⟩
  subst hj79
  refine AWp.condK fun A92 B93 ga94 gb95 => ?_
  rcases ite_some hm91 with ⟨hc96, hm97⟩ | ⟨hc96, hm98⟩
  · clear hm91
    simp [E90, hc11, hc50, hc96]
    apply ga94
    refine AWp.region [] (by decide +kernel) ?_
    simp [E90, hc11, hc50, hc96]
    apply nn74
    apply nn69
    obtain rfl := Option.some.inj hm97
    rw [ctlK_next] at hk41
    refine hK38 _ _ n33 (Nat.lt_succ_self _) ⟨v34, (iadd .i64 v35 1), tg0_90, ?_, ⟨?_, ?_, ?_⟩, (OwnT.mono (D := [52, 76, 88]) o0_90 (by decide)), hk41⟩ <;> first | rfl | simp [E90, hc11, hc50, hc96]
  clear hm91
  simp [E90, hc11, hc50, hc96]
  apply gb95
  refine AWp.sr [] fun K99 hk100 => ?_
  obtain ⟨x101, hx102, hm103⟩ := bind1_some hm98
  clear hm98
  try dsimp only at hm103
  simp [E90, hx102, hc11, hc50, hc96]
  apply hk100
  refine AWp.condK fun A104 B105 ga106 gb107 => ?_
  rcases ite_some hm103 with ⟨hc108, hm109⟩ | ⟨hc108, hm110⟩
  · clear hm103
    simp [E90, hx102, hc11, hc50, hc96, hc108]
    apply ga106
    refine AWp.sr [] fun K111 hk112 => ?_
    obtain ⟨ha113, hm114⟩ := chk_some hm109
    clear hm109
    simp [E90, hx102, hc11, hc50, hc96, hc108]
    refine AppAt2.own (f := Tok.av) v34 [(Tok.mk 1 0 v35 ByteArray.empty)] o0_90 ap30 (by intro x; simp) ha113 (by first | rfl | simp) (by first | rfl | simp) ?_
    simp [E90, hx102, hc11, hc50, hc96, hc108]
    apply hk112
    refine AWp.region [] (by decide +kernel) ?_
    simp [E90, hx102, hc11, hc50, hc96, hc108]
    apply nn74
    apply nn69
    obtain rfl := Option.some.inj hm114
    rw [ctlK_next] at hk41
    refine hK38 _ _ n33 (Nat.lt_succ_self _) ⟨(lapp v34 [(Tok.mk 1 0 v35 ByteArray.empty)]), (iadd .i64 v35 1), (.loc 76 (fr90.tgen 76 + 1)), ?_, ⟨?_, ?_, ?_⟩, (OwnT.mono (D := [76]) (OwnT.new (D := [76]) (d := 76) (by decide)) (by decide)), hk41⟩ <;> first | rfl | simp [E90, hx102, hc11, hc50, hc96, hc108]
  clear hm103
  simp [E90, hx102, hc11, hc50, hc96, hc108]
  apply gb107
  refine AWp.sr [] fun K115 hk116 => ?_
  simp [E90, hx102, hc11, hc50, hc96, hc108]
  apply hk116
  refine AWp.condK fun A117 B118 ga119 gb120 => ?_
  rcases ite_some hm110 with ⟨hc121, hm122⟩ | ⟨hc121, hm123⟩
  · clear hm110
    simp [E90, hx102, hc11, hc50, hc96, hc108, hc121]
    apply ga119
    refine AWp.sr [] fun K124 hk125 => ?_
    obtain ⟨ha126, hm127⟩ := chk_some hm122
    clear hm122
    simp [E90, hx102, hc11, hc50, hc96, hc108, hc121]
    refine AppAt2.own (f := Tok.av) v34 [(Tok.mk 2 0 v35 ByteArray.empty)] o0_90 ap30 (by intro x; simp) ha126 (by first | rfl | simp) (by first | rfl | simp) ?_
    simp [E90, hx102, hc11, hc50, hc96, hc108, hc121]
    apply hk125
    refine AWp.region [] (by decide +kernel) ?_
    simp [E90, hx102, hc11, hc50, hc96, hc108, hc121]
    apply nn74
    apply nn69
    obtain rfl := Option.some.inj hm127
    rw [ctlK_next] at hk41
    refine hK38 _ _ n33 (Nat.lt_succ_self _) ⟨(lapp v34 [(Tok.mk 2 0 v35 ByteArray.empty)]), (iadd .i64 v35 1), (.loc 88 (fr90.tgen 88 + 1)), ?_, ⟨?_, ?_, ?_⟩, (OwnT.mono (D := [88]) (OwnT.new (D := [88]) (d := 88) (by decide)) (by decide)), hk41⟩ <;> first | rfl | simp [E90, hx102, hc11, hc50, hc96, hc108, hc121]
  clear hm110
  simp [E90, hx102, hc11, hc50, hc96, hc108, hc121]
  apply gb120
  refine AWp.sr [] fun K128 hk129 => ?_
  simp [E90, hx102, hc11, hc50, hc96, hc108, hc121]
  apply hk129
  refine AWp.seqK fun K130 hk131 => ?_
  obtain ⟨F132, hF133, hm134⟩ := joinB_some hm123
  clear hm123
  try dsimp only at hm134
  obtain ⟨out135, hl136, hmB137⟩ := bind1_some hm134
  clear hm134
  refine AWp.blockK fun Q138 nn139 ne140 nx141 nr142 => ?_
  refine AWp.loopF (fun n143 fr h => ∃ (v144 : Int) (tg0_145 : Tag), H = h ∧ (fr.env 0 = AV.sc (.string a0) ∧ fr.env 4 = AV.slice tg0_145 (List.map Tok.av v34) ∧ fr.env 5 = AV.sc (.int .i64 v35) ∧ fr.env 6 = AV.sc (.int .i64 v144)) ∧ OwnT fr.tab fr.tgen [52, 76, 88] tg0_145 (List.length v34) ∧ loopN F132 n143 v144 = some out135) FU ?_ ?_
  · refine ⟨v35, tg0_90, ?_, ⟨?_, ?_, ?_, ?_⟩, (OwnT.mono (D := [52, 76, 88]) o0_90 (by decide)), hl136⟩ <;> first | rfl | simp [E90, hx102, hc11, hc50, hc96, hc108, hc121]
  rintro n143 fr145 h145 ⟨v144, tg0_145, rfl, E145, o0_145, hl136⟩ K146 hK147
  rcases n143 with _ | n143
  · rw [loopN_zero] at hl136
    cases hl136
  rw [loopN_succ] at hl136
  obtain ⟨c148, hb149, hk150⟩ := bind1_some hl136
  clear hl136
  rw [hF133] at hb149
  try dsimp only at hb149
  refine AWp.seqK fun K151 hk152 => ?_
  obtain ⟨j153, hj154, hm155⟩ := joinB_some hb149
  clear hb149
  refine AWp.seqP (fun fr h => ∃ (v156 : Bool) (tg0_174 : Tag), H = h ∧ (fr.env 0 = AV.sc (.string a0) ∧ fr.env 4 = AV.slice tg0_174 (List.map Tok.av v34) ∧ fr.env 5 = AV.sc (.int .i64 v35) ∧ fr.env 6 = AV.sc (.int .i64 v144) ∧ fr.env 32 = AV.sc (.bool v156)) ∧ OwnT fr.tab fr.tgen [52, 76, 88] tg0_174 (List.length v34) ∧ j153 v156 = some c148) (fun K157 hk158 => ?_) ?_
  · refine AWp.region [] (by decide +kernel) ?_
    rcases ite_some hm155 with ⟨hc159, hm160⟩ | ⟨hc159, hm161⟩
    rotate_left
    · clear hm155
      simp [E145, hx102, hc11, hc50, hc96, hc108, hc121, hc159]
      refine hk158 _ _ ⟨false, tg0_145, ?_, ⟨?_, ?_, ?_, ?_, ?_⟩, (OwnT.mono (D := [52, 76, 88]) o0_145 (by decide)), hm161⟩ <;> first | rfl | simp [E145, hx102, hc11, hc50, hc96, hc108, hc121, hc159]
    clear hm155
    obtain ⟨x162, hx163, hm164⟩ := bind1_some hm160
    clear hm160
    try dsimp only at hm164
    obtain ⟨x165, hx166, hm167⟩ := bind1_some hm164
    clear hm164
    try dsimp only at hm167
    simp [E145, hx102, hx163, hc11, hc50, hc96, hc108, hc121, hc159]
    refine CallAt.fn (r_ref14_letter T hx166) ?_
    rcases ite_some hm167 with ⟨hc168, hm169⟩ | ⟨hc168, hm170⟩
    · clear hm167
      simp [E145, hx102, hx163, hc11, hc50, hc96, hc108, hc121, hc159, hc168]
      refine hk158 _ _ ⟨true, tg0_145, ?_, ⟨?_, ?_, ?_, ?_, ?_⟩, (OwnT.mono (D := [52, 76, 88]) o0_145 (by decide)), hm169⟩ <;> first | rfl | simp [E145, hx102, hx163, hc11, hc50, hc96, hc108, hc121, hc159, hc168]
    clear hm167
    obtain ⟨x171, hx172, hm173⟩ := bind1_some hm170
    clear hm170
    try dsimp only at hm173
    simp [E145, hx102, hx163, hc11, hc50, hc96, hc108, hc121, hc159, hc168]
    refine CallAt.fn (r_ref14_digit T hx172) ?_
    simp [E145, hx102, hx163, hc11, hc50, hc96, hc108, hc121, hc159, hc168]
    refine hk158 _ _ ⟨x171, tg0_145, ?_, ⟨?_, ?_, ?_, ?_, ?_⟩, (OwnT.mono (D := [52, 76, 88]) o0_145 (by decide)), hm173⟩ <;> first | rfl | simp [E145, hx102, hx163, hc11, hc50, hc96, hc108, hc121, hc159, hc168]
  clear hm155
  rintro fr174 h174 ⟨v156, tg0_174, rfl, E174, o0_174, hm175⟩
  subst hj154
  refine AWp.condK fun A176 B177 ga178 gb179 => ?_
  rcases ite_some hm175 with ⟨hc180, hm181⟩ | ⟨hc180, hm182⟩
  · clear hm175
    simp [E174, hx102, hc11, hc50, hc96, hc108, hc121, hc180]
    apply ga178
    refine AWp.skip ?_
    apply hk152
    refine AWp.blockK fun Q183 nn184 ne185 nx186 nr187 => ?_
    refine AWp.region [] (by decide +kernel) ?_
    simp [E174, hx102, hc11, hc50, hc96, hc108, hc121, hc180]
    apply nn184
    obtain rfl := Option.some.inj hm181
    rw [ctlK_next] at hk150
    refine hK147 _ _ n143 (Nat.lt_succ_self _) ⟨(iadd .i64 v144 1), tg0_174, ?_, ⟨?_, ?_, ?_, ?_⟩, (OwnT.mono (D := [52, 76, 88]) o0_174 (by decide)), hk150⟩ <;> first | rfl | simp [E174, hx102, hc11, hc50, hc96, hc108, hc121, hc180]
  clear hm175
  simp [E174, hx102, hc11, hc50, hc96, hc108, hc121, hc180]
  apply gb179
  refine AWp.exit ?_
  apply ne140
  obtain rfl := Option.some.inj hm182
  rw [ctlK_brk] at hk150
  obtain rfl := Option.some.inj hk150
  rw [sumK_inl] at hmB137
  try dsimp only at hmB137
  apply hk131
  refine AWp.seqK fun K188 hk189 => ?_
  refine AWp.sr [] fun K190 hk191 => ?_
  simp [E174, hx102, hc11, hc50, hc96, hc108, hc121, hc180]
  apply hk191
  refine AWp.condK fun A192 B193 ga194 gb195 => ?_
  rcases ite_some hmB137 with ⟨hc196, hm197⟩ | ⟨hc196, hm198⟩
  · clear hmB137
    simp [E174, hx102, hc11, hc50, hc96, hc108, hc121, hc180, hc196]
    apply ga194
    refine AWp.sr [] fun K199 hk200 => ?_
    simp [E174, hx102, hc11, hc50, hc96, hc108, hc121, hc180, hc196]
    apply hk200
    refine AWp.ret ?_
    apply nr77
    apply nr72
    apply nr32
    obtain rfl := Option.some.inj hm197
    rw [ctlK_ret] at hk41
    obtain rfl := Option.some.inj hk41
    rw [sumK_inr] at hmB27
    try dsimp only at hmB27
    simp only [Option.some.injEq, Prod.mk.injEq] at hmB27
    obtain ⟨rfl, rfl⟩ := hmB27
    simp [retQ, E174, hx102, hc11, hc50, hc96, hc108, hc121, hc180, hc196]
  clear hmB137
  simp [E174, hx102, hc11, hc50, hc96, hc108, hc121, hc180, hc196]
  apply gb195
  refine AWp.skip ?_
  apply hk189
  refine AWp.sr [] fun K201 hk202 => ?_
  obtain ⟨x203, hx204, hm205⟩ := bind1_some hm198
  clear hm198
  try dsimp only at hm205
  obtain ⟨x206, x207, hx208, hm209⟩ := bind2_some hm205
  clear hm205
  try dsimp only at hm209
  simp [E174, hx102, hx204, hc11, hc50, hc96, hc108, hc121, hc180, hc196]
  refine CallAt.fn (r_ref14_word T hx208) ?_
  simp [E174, hx102, hx204, hc11, hc50, hc96, hc108, hc121, hc180, hc196]
  apply hk202
  refine AWp.seqK fun K210 hk211 => ?_
  refine AWp.sr [] fun K212 hk213 => ?_
  simp [E174, hx102, hx204, hc11, hc50, hc96, hc108, hc121, hc180, hc196]
  apply hk213
  refine AWp.condK fun A214 B215 ga216 gb217 => ?_
  rcases ite_some hm209 with ⟨hc218, hm219⟩ | ⟨hc218, hm220⟩
  rotate_left
  · clear hm209
    simp [E174, hx102, hx204, hc11, hc50, hc96, hc108, hc121, hc180, hc196, hc218]
    apply ga216
    refine AWp.sr [] fun K221 hk222 => ?_
    simp [E174, hx102, hx204, hc11, hc50, hc96, hc108, hc121, hc180, hc196, hc218]
    apply hk222
    refine AWp.ret ?_
    apply nr77
    apply nr72
    apply nr32
    obtain rfl := Option.some.inj hm220
    rw [ctlK_ret] at hk41
    obtain rfl := Option.some.inj hk41
    rw [sumK_inr] at hmB27
    try dsimp only at hmB27
    simp only [Option.some.injEq, Prod.mk.injEq] at hmB27
    obtain ⟨rfl, rfl⟩ := hmB27
    simp [retQ, E174, hx102, hx204, hc11, hc50, hc96, hc108, hc121, hc180, hc196, hc218]
  clear hm209
  simp [E174, hx102, hx204, hc11, hc50, hc96, hc108, hc121, hc180, hc196, hc218]
  apply gb217
  refine AWp.skip ?_
  apply hk211
  refine AWp.sr [] fun K223 hk224 => ?_
  obtain ⟨ha225, hm226⟩ := chk_some hm219
  clear hm219
  simp [E174, hx102, hx204, hc11, hc50, hc96, hc108, hc121, hc180, hc196, hc218]
  refine AppAt2.own (f := Tok.av) v34 [x206] o0_174 ap30 (by intro x; simp) ha225 (by first | rfl | simp) (by first | rfl | simp) ?_
  simp [E174, hx102, hx204, hc11, hc50, hc96, hc108, hc121, hc180, hc196, hc218]
  apply hk224
  refine AWp.region [] (by decide +kernel) ?_
  simp [E174, hx102, hx204, hc11, hc50, hc96, hc108, hc121, hc180, hc196, hc218]
  apply nn74
  apply nn69
  obtain rfl := Option.some.inj hm226
  rw [ctlK_next] at hk41
  refine hK38 _ _ n33 (Nat.lt_succ_self _) ⟨(lapp v34 [x206]), v144, (.loc 52 (fr174.tgen 52 + 1)), ?_, ⟨?_, ?_, ?_⟩, (OwnT.mono (D := [52]) (OwnT.new (D := [52]) (d := 52) (by decide)) (by decide)), hk41⟩ <;> first | rfl | simp [E174, hx102, hx204, hc11, hc50, hc96, hc108, hc121, hc180, hc196, hc218]

theorem enters18 : entersB Tryd.prog 18 = true := by kernel_rfl

theorem r_law14_same (T : Tabs) {H : Heap} {a0 : (List Tok)} {a1 : (List Tok)} {r0 : Bool} (hm : law14_same a0 a1 = some r0) : ACall Tryd.prog T 18 [AV.slice .frz (List.map Tok.av a0), AV.slice .frz (List.map Tok.av a1)] H (AV.sc (.bool r0)) H := by
  rw [law14_same] at hm
  refine ACallP.intro (fn := Tryd.f18) Tryd.func18 rfl enters18 (Nat.le_of_ble_eq_true rfl) ?_
  refine AWp.sr [] fun K1 hk2 => ?_
  simp
  apply hk2
  refine AWp.seqK fun K3 hk4 => ?_
  refine AWp.sr [] fun K5 hk6 => ?_
  simp
  apply hk6
  refine AWp.condK fun A7 B8 ga9 gb10 => ?_
  rcases ite_some hm with ⟨hc11, hm12⟩ | ⟨hc11, hm13⟩
  · clear hm
    simp [hc11]
    apply ga9
    refine AWp.sr [] fun K14 hk15 => ?_
    simp [hc11]
    apply hk15
    refine AWp.ret ?_
    obtain rfl := Option.some.inj hm12
    simp [retQ, hc11]
  clear hm
  simp [hc11]
  apply gb10
  refine AWp.skip ?_
  apply hk4
  refine AWp.seqK fun K16 hk17 => ?_
  refine AWp.sr [] fun K18 hk19 => ?_
  simp [hc11]
  apply hk19
  obtain ⟨hok20, hm21⟩ := chk_some hm13
  clear hm13
  obtain ⟨F22, hF23, hm24⟩ := joinB_some hm21
  clear hm21
  try dsimp only at hm24
  obtain ⟨out25, hl26, hmB27⟩ := bind1_some hm24
  clear hm24
  refine AWp.blockK fun Q28 nn29 ne30 nx31 nr32 => ?_
  refine AWp.loopF (fun n33 fr h => ∃ (i34 : Nat) (j35 : Int), H = h ∧ (fr.env 0 = AV.slice .frz (List.map Tok.av a0) ∧ fr.env 1 = AV.slice .frz (List.map Tok.av a1) ∧ fr.env 12 = AV.sc (.int .i64 (llen a0)) ∧ fr.env 13 = AV.sc (.int .i64 j35)) ∧ j35 = (i34 : Int) ∧ i34 + n33 = List.length a0 ∧ forR F22 (List.drop i34 a0) i34 () = some out25) (List.length a0) ?_ ?_
  · refine ⟨0, 0, ?_, ⟨?_, ?_, ?_, ?_⟩, rfl, (by simp), hl26⟩ <;> first | rfl | simp [hc11]
  rintro n33 fr36 h36 ⟨i34, j35, rfl, E36, hj37, hi38, hl26⟩ K39 hK40
  rcases n33 with _ | n33
  · have hlt41 := ilt_notJ (l := a0) hj37 (by omega)
    refine AWp.sr [] fun K42 hk43 => ?_
    simp [E36, hlt41, hc11]
    apply hk43
    refine AWp.seqK fun K44 hk45 => ?_
    refine AWp.condK fun A46 B47 ga48 gb49 => ?_
    simp [E36, hlt41, hc11]
    apply gb49
    refine AWp.exit ?_
    apply ne30
    rw [List.drop_eq_nil_of_le (by omega), forR_nil] at hl26
    obtain rfl := Option.some.inj hl26
    rw [sumK_inl] at hmB27
    try dsimp only at hmB27
    apply hk17
    refine AWp.sr [] fun K50 hk51 => ?_
    simp [E36, hlt41, hc11]
    apply hk51
    refine AWp.ret ?_
    obtain rfl := Option.some.inj hmB27
    simp [retQ, E36, hlt41, hc11]
  have hlt41 := ilt_ofJ (l := a0) hj37 (by omega)
  obtain ⟨x52, hdn33, hg53⟩ := drop_ltJ (l := a0) hj37 (by omega)
  rw [hdn33, forR_cons] at hl26
  obtain ⟨c54, hb55, hk56⟩ := bind1_some hl26
  clear hl26
  rw [hF23, ← hj37] at hb55
  try dsimp only at hb55
  refine AWp.sr [] fun K57 hk58 => ?_
  simp [E36, hlt41, hg53, hc11]
  apply hk58
  refine AWp.seqK fun K59 hk60 => ?_
  refine AWp.condK fun A61 B62 ga63 gb64 => ?_
  simp [E36, hlt41, hg53, hc11]
  apply ga63
  refine AWp.skip ?_
  apply hk60
  refine AWp.seqK fun K65 hk66 => ?_
  refine AWp.blockK fun Q67 nn68 ne69 nx70 nr71 => ?_
  refine AWp.sr [] fun K72 hk73 => ?_
  simp [E36, hlt41, hg53, hc11]
  apply hk73
  refine AWp.seqK fun K74 hk75 => ?_
  refine AWp.regionD [] false mixed (by decide +kernel) (by decide +kernel) ?_
  obtain ⟨x76, hx77, hm78⟩ := bind1_some hb55
  clear hb55
  try dsimp only at hm78
  simp [E36, hlt41, hg53, hx77, hc11]
  apply hk75
  refine AWp.condK fun A79 B80 ga81 gb82 => ?_
  rcases ite_some hm78 with ⟨hc83, hm84⟩ | ⟨hc83, hm85⟩
  rotate_left
  · clear hm78
    simp [E36, hlt41, hg53, hx77, hc11, hc83]
    apply ga81
    refine AWp.sr [] fun K86 hk87 => ?_
    simp [E36, hlt41, hg53, hx77, hc11, hc83]
    apply hk87
    refine AWp.ret ?_
    apply nr71
    apply nr32
    obtain rfl := Option.some.inj hm85
    rw [ctlK_ret] at hk56
    obtain rfl := Option.some.inj hk56
    rw [sumK_inr] at hmB27
    try dsimp only at hmB27
    obtain rfl := Option.some.inj hmB27
    simp [retQ, E36, hlt41, hg53, hx77, hc11, hc83]
  clear hm78
  simp [E36, hlt41, hg53, hx77, hc11, hc83]
  apply gb82
  refine AWp.skip ?_
  apply nn68
  apply hk66
  refine AWp.region [] (by decide +kernel) ?_
  simp [E36, hlt41, hg53, hx77, hc11, hc83]
  obtain rfl := Option.some.inj hm84
  rw [ctlK_next] at hk56
  refine hK40 _ _ n33 (Nat.lt_succ_self _) ⟨(i34 + 1), (iadd .i64 j35 1), ?_, ⟨?_, ?_, ?_, ?_⟩, (iadd_idxJ hj37 (by omega) hok20), (by omega), hk56⟩ <;> first | rfl | simp [E36, hlt41, hg53, hx77, hc11, hc83]

theorem enters21 : entersB Tryd.prog 21 = true := by kernel_rfl

theorem r_ref14_Same (T : Tabs) {H : Heap} {a0 : (List Tok)} {a1 : (List Tok)} {r0 : Bool} (hm : ref14_Same a0 a1 = some r0) : ACall Tryd.prog T 21 [AV.slice .frz (List.map Tok.av a0), AV.slice .frz (List.map Tok.av a1)] H (AV.sc (.bool r0)) H := by
  rw [ref14_Same] at hm
  refine ACallP.intro (fn := Tryd.f21) Tryd.func21 rfl enters21 (Nat.le_of_ble_eq_true rfl) ?_
  refine AWp.sr [] fun K1 hk2 => ?_
  simp
  apply hk2
  refine AWp.seqK fun K3 hk4 => ?_
  refine AWp.sr [] fun K5 hk6 => ?_
  simp
  apply hk6
  refine AWp.condK fun A7 B8 ga9 gb10 => ?_
  rcases ite_some hm with ⟨hc11, hm12⟩ | ⟨hc11, hm13⟩
  · clear hm
    simp [hc11]
    apply ga9
    refine AWp.sr [] fun K14 hk15 => ?_
    simp [hc11]
    apply hk15
    refine AWp.ret ?_
    obtain rfl := Option.some.inj hm12
    simp [retQ, hc11]
  clear hm
  simp [hc11]
  apply gb10
  refine AWp.skip ?_
  apply hk4
  refine AWp.seqK fun K16 hk17 => ?_
  refine AWp.sr [] fun K18 hk19 => ?_
  simp [hc11]
  apply hk19
  obtain ⟨hok20, hm21⟩ := chk_some hm13
  clear hm13
  obtain ⟨F22, hF23, hm24⟩ := joinB_some hm21
  clear hm21
  try dsimp only at hm24
  obtain ⟨out25, hl26, hmB27⟩ := bind1_some hm24
  clear hm24
  refine AWp.blockK fun Q28 nn29 ne30 nx31 nr32 => ?_
  refine AWp.loopF (fun n33 fr h => ∃ (i34 : Nat) (j35 : Int), H = h ∧ (fr.env 0 = AV.slice .frz (List.map Tok.av a0) ∧ fr.env 1 = AV.slice .frz (List.map Tok.av a1) ∧ fr.env 12 = AV.sc (.int .i64 (llen a0)) ∧ fr.env 13 = AV.sc (.int .i64 j35)) ∧ j35 = (i34 : Int) ∧ i34 + n33 = List.length a0 ∧ forR F22 (List.drop i34 a0) i34 () = some out25) (List.length a0) ?_ ?_
  · refine ⟨0, 0, ?_, ⟨?_, ?_, ?_, ?_⟩, rfl, (by simp), hl26⟩ <;> first | rfl | simp [hc11]
  rintro n33 fr36 h36 ⟨i34, j35, rfl, E36, hj37, hi38, hl26⟩ K39 hK40
  rcases n33 with _ | n33
  · have hlt41 := ilt_notJ (l := a0) hj37 (by omega)
    refine AWp.sr [] fun K42 hk43 => ?_
    simp [E36, hlt41, hc11]
    apply hk43
    refine AWp.seqK fun K44 hk45 => ?_
    refine AWp.condK fun A46 B47 ga48 gb49 => ?_
    simp [E36, hlt41, hc11]
    apply gb49
    refine AWp.exit ?_
    apply ne30
    rw [List.drop_eq_nil_of_le (by omega), forR_nil] at hl26
    obtain rfl := Option.some.inj hl26
    rw [sumK_inl] at hmB27
    try dsimp only at hmB27
    apply hk17
    refine AWp.sr [] fun K50 hk51 => ?_
    simp [E36, hlt41, hc11]
    apply hk51
    refine AWp.ret ?_
    obtain rfl := Option.some.inj hmB27
    simp [retQ, E36, hlt41, hc11]
  have hlt41 := ilt_ofJ (l := a0) hj37 (by omega)
  obtain ⟨x52, hdn33, hg53⟩ := drop_ltJ (l := a0) hj37 (by omega)
  rw [hdn33, forR_cons] at hl26
  obtain ⟨c54, hb55, hk56⟩ := bind1_some hl26
  clear hl26
  rw [hF23, ← hj37] at hb55
  try dsimp only at hb55
  refine AWp.sr [] fun K57 hk58 => ?_
  simp [E36, hlt41, hg53, hc11]
  apply hk58
  refine AWp.seqK fun K59 hk60 => ?_
  refine AWp.condK fun A61 B62 ga63 gb64 => ?_
  simp [E36, hlt41, hg53, hc11]
  apply ga63
  refine AWp.skip ?_
  apply hk60
  refine AWp.seqK fun K65 hk66 => ?_
  refine AWp.blockK fun Q67 nn68 ne69 nx70 nr71 => ?_
  refine AWp.sr [] fun K72 hk73 => ?_
  simp [E36, hlt41, hg53, hc11]
  apply hk73
  obtain ⟨j74, hj75, hm76⟩ := joinB_some hb55
  clear hb55
  refine AWp.seqP (fun fr h => ∃ (v77 : Bool), H = h ∧ (fr.env 0 = AV.slice .frz (List.map Tok.av a0) ∧ fr.env 1 = AV.slice .frz (List.map Tok.av a1) ∧ fr.env 12 = AV.sc (.int .i64 (llen a0)) ∧ fr.env 13 = AV.sc (.int .i64 j35) ∧ fr.env 52 = AV.sc (.bool v77)) ∧ j74 v77 = some c54) (fun K78 hk79 => ?_) ?_
  · refine AWp.regionD [] false mixed (by decide +kernel) (by decide +kernel) ?_
    obtain ⟨x80, hx81, hm82⟩ := bind1_some hm76
    clear hm76
    try dsimp only at hm82
    rcases ite_some hm82 with ⟨hc83, hm84⟩ | ⟨hc83, hm85⟩
    · clear hm82
      simp [E36, hlt41, hg53, hx81, hc11, hc83]
      refine hk79 _ _ ⟨true, ?_, ⟨?_, ?_, ?_, ?_, ?_⟩, hm84⟩ <;> first | rfl | simp [E36, hlt41, hg53, hx81, hc11, hc83]
    clear hm82
    rcases ite_some hm85 with ⟨hc86, hm87⟩ | ⟨hc86, hm88⟩
    · clear hm85
      simp [E36, hlt41, hg53, hx81, hc11, hc83, hc86]
      refine hk79 _ _ ⟨true, ?_, ⟨?_, ?_, ?_, ?_, ?_⟩, hm87⟩ <;> first | rfl | simp [E36, hlt41, hg53, hx81, hc11, hc83, hc86]
    clear hm85
    simp [E36, hlt41, hg53, hx81, hc11, hc83, hc86]
    refine hk79 _ _ ⟨(sne x52.text x80.text), ?_, ⟨?_, ?_, ?_, ?_, ?_⟩, hm88⟩ <;> first | rfl | simp [E36, hlt41, hg53, hx81, hc11, hc83, hc86]
  clear hm76
  rintro fr89 h89 ⟨v77, rfl, E89, hm90⟩
  subst hj75
  refine AWp.condK fun A91 B92 ga93 gb94 => ?_
  rcases ite_some hm90 with ⟨hc95, hm96⟩ | ⟨hc95, hm97⟩
  · clear hm90
    simp [E89, hlt41, hg53, hc11, hc95]
    apply ga93
    refine AWp.sr [] fun K98 hk99 => ?_
    simp [E89, hlt41, hg53, hc11, hc95]
    apply hk99
    refine AWp.ret ?_
    apply nr71
    apply nr32
    obtain rfl := Option.some.inj hm96
    rw [ctlK_ret] at hk56
    obtain rfl := Option.some.inj hk56
    rw [sumK_inr] at hmB27
    try dsimp only at hmB27
    obtain rfl := Option.some.inj hmB27
    simp [retQ, E89, hlt41, hg53, hc11, hc95]
  clear hm90
  simp [E89, hlt41, hg53, hc11, hc95]
  apply gb94
  refine AWp.skip ?_
  apply nn68
  apply hk66
  refine AWp.region [] (by decide +kernel) ?_
  simp [E89, hlt41, hg53, hc11, hc95]
  obtain rfl := Option.some.inj hm97
  rw [ctlK_next] at hk56
  refine hK40 _ _ n33 (Nat.lt_succ_self _) ⟨(i34 + 1), (iadd .i64 j35 1), ?_, ⟨?_, ?_, ?_, ?_⟩, (iadd_idxJ hj37 (by omega) hok20), (by omega), hk56⟩ <;> first | rfl | simp [E89, hlt41, hg53, hc11, hc95]

end Go.Proofs.YtooibjkhgdpnaaaDoor
