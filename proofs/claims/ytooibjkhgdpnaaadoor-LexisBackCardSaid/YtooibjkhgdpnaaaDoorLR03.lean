/- The program's functions do what the models say. -/
import Derived.Test.YtooibjkhgdpnaaaDoorLR02
import Derived.Test.YtooibjkhgdpnaaaDoorLM
set_option maxRecDepth 20000
set_option maxHeartbeats 4000000
set_option linter.unusedSimpArgs false
set_option linter.unusedVariables false
namespace Go.Proofs.YtooibjkhgdpnaaaDoor
open Go Go.Abs Go.Mdl

theorem enters4 : entersB Tryd.prog 4 = true := by kernel_rfl

theorem r_law14_LexisJoins (T : Tabs) (hT : LexT T) {a0 : (List Int)} {a1 : ByteArray} {a2 : ByteArray} {r0 : Bool} (hm : law14_LexisJoins a0 a1 a2 = some r0) : ACallP Tryd.prog T 4 [AV.slice .frz (List.map (fun n => AV.sc (Value.int .i64 n)) a0), AV.sc (.string a1), AV.sc (.string a2)] [] (fun x _ => x = AV.sc (.bool r0)) := by
  rw [law14_LexisJoins] at hm
  refine ACallP.intro (fn := Tryd.f4) Tryd.func4 rfl enters4 (Nat.le_of_ble_eq_true rfl) ?_
  refine AWp.sr [] fun K1 hk2 => ?_
  simp [hT]
  apply hk2
  refine AWp.seqK fun K3 hk4 => ?_
  refine AWp.sr [] fun K5 hk6 => ?_
  obtain ⟨x7, hx8, hm9⟩ := bind1_some hm
  clear hm
  try dsimp only at hm9
  simp [hT]
  refine CallAt.fn (r_law14_sane T hT hx8) ?_
  simp [hT]
  apply hk6
  refine AWp.condK fun A10 B11 ga12 gb13 => ?_
  rcases ite_some hm9 with ⟨hc14, hm15⟩ | ⟨hc14, hm16⟩
  rotate_left
  · clear hm9
    simp [hT, hc14]
    apply ga12
    refine AWp.sr [] fun K17 hk18 => ?_
    simp [hT, hc14]
    apply hk18
    refine AWp.ret ?_
    obtain rfl := Option.some.inj hm16
    simp [retQ, hT, hc14]
  clear hm9
  simp [hT, hc14]
  apply gb13
  refine AWp.skip ?_
  apply hk4
  refine AWp.seqK fun K19 hk20 => ?_
  obtain ⟨j21, hj22, hm23⟩ := joinB_some hm15
  clear hm15
  refine AWp.seqP (fun fr h => ∃ (v24 : Bool), ([] : Heap) = h ∧ (fr.env 0 = AV.slice .frz (List.map (fun n => AV.sc (Value.int .i64 n)) a0) ∧ fr.env 1 = AV.sc (.string a1) ∧ fr.env 2 = AV.sc (.string a2) ∧ fr.env 29 = AV.sc (.bool v24)) ∧ j21 v24 = some r0) (fun K25 hk26 => ?_) ?_
  · refine AWp.region [] (by decide +kernel) ?_
    obtain ⟨x27, hx28, hm29⟩ := bind1_some hm23
    clear hm23
    try dsimp only at hm29
    simp [hT, hc14]
    refine CallAt.fn (r_mk_Few T hx28) ?_
    rcases ite_some hm29 with ⟨hc30, hm31⟩ | ⟨hc30, hm32⟩
    rotate_left
    · clear hm29
      simp [hT, hc14, hc30]
      refine hk26 _ _ ⟨true, ?_, ⟨?_, ?_, ?_, ?_⟩, hm32⟩ <;> first | rfl | simp [hT, hc14, hc30]
    clear hm29
    simp [hT, hc14, hc30]
    refine hk26 _ _ ⟨(igt (iadd .i64 (slen a1) (slen a2)) 4000), ?_, ⟨?_, ?_, ?_, ?_⟩, hm31⟩ <;> first | rfl | simp [hT, hc14, hc30]
  clear hm23
  rintro fr33 h33 ⟨v24, rfl, E33, hm34⟩
  subst hj22
  refine AWp.condK fun A35 B36 ga37 gb38 => ?_
  rcases ite_some hm34 with ⟨hc39, hm40⟩ | ⟨hc39, hm41⟩
  · clear hm34
    simp [E33, hT, hc14, hc39]
    apply ga37
    refine AWp.sr [] fun K42 hk43 => ?_
    simp [E33, hT, hc14, hc39]
    apply hk43
    refine AWp.ret ?_
    obtain rfl := Option.some.inj hm40
    simp [retQ, E33, hT, hc14, hc39]
  clear hm34
  simp [E33, hT, hc14, hc39]
  apply gb38
  refine AWp.skip ?_
  apply hk20
  refine AWp.sr [] fun K44 hk45 => ?_
  obtain ⟨x46, hx47, hm48⟩ := bind1_some hm41
  clear hm41
  try dsimp only at hm48
  simp [E33, hT, hc14, hc39]
  refine CallAt.fn (r_mk_New T hx47) ?_
  simp [E33, hT, hc14, hc39]
  apply hk45
  refine AWp.sr [] fun K49 hk50 => ?_
  obtain ⟨x51, d52, hx53, hm54⟩ := bind2_some hm48
  clear hm48
  try dsimp only at hm54
  simp [E33, hT, hc14, hc39]
  refine CallAt.fn (r_law14_text T (by simp) hx53) ?_
  simp [E33, hT, hc14, hc39]
  apply hk50
  refine AWp.seqK fun K55 hk56 => ?_
  refine AWp.sr [] fun K57 hk58 => ?_
  simp [E33, hT, hc14, hc39]
  apply hk58
  obtain ⟨L59, hL60, hm61⟩ := joinB_some hm54
  clear hm54
  try dsimp only at hm61
  obtain ⟨hok62, hm63⟩ := chk_some hm61
  clear hm61
  obtain ⟨F64, hF65, hm66⟩ := joinB_some hm63
  clear hm63
  try dsimp only at hm66
  obtain ⟨out67, hl68, hmB69⟩ := bind1_some hm66
  clear hm66
  refine AWp.blockK fun Q70 nn71 ne72 nx73 nr74 => ?_
  refine AWp.loopF (fun n75 fr h => ∃ (i76 : Nat) (j77 : Int), hset [[]] 0 [AV.slice .frz (List.map (fun n => AV.sc (Value.int .i64 n)) d52.l), AV.sc (.int .i64 d52.atF)] = h ∧ (fr.env 44 = AV.slice .full (List.map (fun p => AV.agg [AV.sc (.string p.1), AV.sc (.string p.2)]) L59) ∧ fr.env 45 = AV.sc (.int .i64 (llen L59)) ∧ fr.env 46 = AV.sc (.int .i64 j77)) ∧ j77 = (i76 : Int) ∧ i76 + n75 = List.length L59 ∧ forR F64 (List.drop i76 L59) i76 () = some out67) (List.length L59) ?_ ?_
  · refine ⟨0, 0, ?_, ⟨?_, ?_, ?_⟩, rfl, (by simp), hl68⟩ <;> first | rfl | (rw [hL60]; rfl) | simp [E33, hT, hL60, llen, hc14, hc39, hL60]
  rintro n75 fr78 h78 ⟨i76, j77, rfl, E78, hj79, hi80, hl68⟩ K81 hK82
  rcases n75 with _ | n75
  · have hlt83 := ilt_notJ (l := L59) hj79 (by omega)
    refine AWp.sr [] fun K84 hk85 => ?_
    simp [E78, hT, hlt83, hc14, hc39]
    apply hk85
    refine AWp.seqK fun K86 hk87 => ?_
    refine AWp.condK fun A88 B89 ga90 gb91 => ?_
    simp [E78, hT, hlt83, hc14, hc39]
    apply gb91
    refine AWp.exit ?_
    apply ne72
    rw [List.drop_eq_nil_of_le (by omega), forR_nil] at hl68
    obtain rfl := Option.some.inj hl68
    rw [sumK_inl] at hmB69
    try dsimp only at hmB69
    apply hk56
    refine AWp.sr [] fun K92 hk93 => ?_
    simp [E78, hT, hlt83, hc14, hc39]
    apply hk93
    refine AWp.ret ?_
    obtain rfl := Option.some.inj hmB69
    simp [retQ, E78, hT, hlt83, hc14, hc39]
  have hlt83 := ilt_ofJ (l := L59) hj79 (by omega)
  obtain ⟨x94, hdn75, hg95⟩ := drop_ltJ (l := L59) hj79 (by omega)
  rw [hdn75, forR_cons] at hl68
  obtain ⟨c96, hb97, hk98⟩ := bind1_some hl68
  clear hl68
  rw [hF65, ← hj79] at hb97
  try dsimp only at hb97
  refine AWp.sr [] fun K99 hk100 => ?_
  simp [E78, hT, hlt83, hg95, hc14, hc39]
  apply hk100
  refine AWp.seqK fun K101 hk102 => ?_
  refine AWp.condK fun A103 B104 ga105 gb106 => ?_
  simp [E78, hT, hlt83, hg95, hc14, hc39]
  apply ga105
  refine AWp.skip ?_
  apply hk102
  obtain ⟨j107, hj108, hm109⟩ := joinB_some hb97
  clear hb97
  refine AWp.seqP (fun fr h => hset [[]] 0 [AV.slice .frz (List.map (fun n => AV.sc (Value.int .i64 n)) d52.l), AV.sc (.int .i64 d52.atF)] = h ∧ (fr.env 44 = AV.slice .full (List.map (fun p => AV.agg [AV.sc (.string p.1), AV.sc (.string p.2)]) L59) ∧ fr.env 45 = AV.sc (.int .i64 (llen L59)) ∧ fr.env 46 = AV.sc (.int .i64 j77)) ∧ j107 = some c96) (fun K110 hk111 => ?_) ?_
  rotate_left
  · clear hm109
    rintro fr112 h112 ⟨rfl, E112, hm113⟩
    subst hj108
    refine AWp.region [] (by decide +kernel) ?_
    simp [E112, hT, hlt83, hg95, hc14, hc39]
    obtain rfl := Option.some.inj hm113
    rw [ctlK_next] at hk98
    refine hK82 _ _ n75 (Nat.lt_succ_self _) ⟨(i76 + 1), (iadd .i64 j77 1), ?_, ⟨?_, ?_, ?_⟩, (iadd_idxJ hj79 (by omega) hok62), (by omega), hk98⟩ <;> first | rfl | simp [E112, hT, hlt83, hg95, hc14, hc39]
  refine AWp.blockK fun Q114 nn115 ne116 nx117 nr118 => ?_
  refine AWp.sr [] fun K119 hk120 => ?_
  simp [E78, hT, hlt83, hg95, hc14, hc39]
  apply hk120
  refine AWp.sr [] fun K121 hk122 => ?_
  obtain ⟨x123, x124, hx125, hm126⟩ := bind2_some hm109
  clear hm109
  try dsimp only at hm126
  simp [E78, hT, hlt83, hg95, hc14, hc39]
  refine CallAt.fn (r_lexis_Tokens T hT hx125) ?_
  simp [E78, hT, hlt83, hg95, hc14, hc39]
  apply hk122
  refine AWp.sr [] fun K127 hk128 => ?_
  obtain ⟨x129, x130, hx131, hm132⟩ := bind2_some hm126
  clear hm126
  try dsimp only at hm132
  simp [E78, hT, hlt83, hg95, hc14, hc39]
  refine CallAt.fn (r_lexis_Tokens T hT hx131) ?_
  simp [E78, hT, hlt83, hg95, hc14, hc39]
  apply hk128
  refine AWp.sr [] fun K133 hk134 => ?_
  obtain ⟨hx135, hm136⟩ := chk_some hm132
  clear hm132
  obtain ⟨hx137, hm138⟩ := chk_some hm136
  clear hm136
  obtain ⟨x139, x140, hx141, hm142⟩ := bind2_some hm138
  clear hm138
  try dsimp only at hm142
  simp [E78, hT, hlt83, hg95, hx135, hx137, hc14, hc39]
  refine CallAt.fn (r_lexis_Tokens T hT hx141) ?_
  simp [E78, hT, hlt83, hg95, hx135, hx137, hc14, hc39]
  apply hk134
  refine AWp.seqK fun K143 hk144 => ?_
  refine AWp.seqP (fun fr h => hset [[]] 0 [AV.slice .frz (List.map (fun n => AV.sc (Value.int .i64 n)) d52.l), AV.sc (.int .i64 d52.atF)] = h ∧ (fr.env 11 = AV.slice .frz (List.map Tkn.av x123) ∧ fr.env 12 = AV.sc (.int .i64 x124) ∧ fr.env 13 = AV.slice .frz (List.map Tkn.av x129) ∧ fr.env 14 = AV.sc (.int .i64 x130) ∧ fr.env 15 = AV.slice .frz (List.map Tkn.av x139) ∧ fr.env 16 = AV.sc (.int .i64 x140) ∧ fr.env 44 = AV.slice .full (List.map (fun p => AV.agg [AV.sc (.string p.1), AV.sc (.string p.2)]) L59) ∧ fr.env 45 = AV.sc (.int .i64 (llen L59)) ∧ fr.env 46 = AV.sc (.int .i64 j77) ∧ fr.env 77 = AV.sc (.bool (sel (ieq x124 15) true (ieq x130 15))))) (fun K145 hk146 => ?_) ?_
  · refine AWp.region [] (by decide +kernel) ?_
    rcases Bool.eq_false_or_eq_true (ieq x124 15) with hc147 | hc147
    · simp [E78, hT, hlt83, hg95, hx135, hx137, hc14, hc39, hc147]
      refine hk146 _ _ ⟨?_, ⟨?_, ?_, ?_, ?_, ?_, ?_, ?_, ?_, ?_, ?_⟩⟩ <;> first | rfl | simp [E78, hT, hlt83, hg95, hx135, hx137, hc14, hc39, hc147]
    simp [E78, hT, hlt83, hg95, hx135, hx137, hc14, hc39, hc147]
    refine hk146 _ _ ⟨?_, ⟨?_, ?_, ?_, ?_, ?_, ?_, ?_, ?_, ?_, ?_⟩⟩ <;> first | rfl | simp [E78, hT, hlt83, hg95, hx135, hx137, hc14, hc39, hc147]
  rintro fr148 h148 ⟨rfl, E148⟩
  refine AWp.condK fun A149 B150 ga151 gb152 => ?_
  rcases ite_some hm142 with ⟨hc153, hm154⟩ | ⟨hc153, hm155⟩
  · clear hm142
    simp [E148, hT, hlt83, hg95, hx135, hx137, hc14, hc39, hc153]
    apply ga151
    refine AWp.seqK fun K156 hk157 => ?_
    refine AWp.seqP (fun fr h => hset [[]] 0 [AV.slice .frz (List.map (fun n => AV.sc (Value.int .i64 n)) d52.l), AV.sc (.int .i64 d52.atF)] = h ∧ (fr.env 44 = AV.slice .full (List.map (fun p => AV.agg [AV.sc (.string p.1), AV.sc (.string p.2)]) L59) ∧ fr.env 45 = AV.sc (.int .i64 (llen L59)) ∧ fr.env 46 = AV.sc (.int .i64 j77) ∧ fr.env 83 = AV.sc (.bool (sel (ine x140 15) (ine x140 3) false)))) (fun K158 hk159 => ?_) ?_
    · refine AWp.region [] (by decide +kernel) ?_
      rcases Bool.eq_false_or_eq_true (ine x140 15) with hc160 | hc160
      · simp [E148, hT, hlt83, hg95, hx135, hx137, hc14, hc39, hc153, hc160]
        refine hk159 _ _ ⟨?_, ⟨?_, ?_, ?_, ?_⟩⟩ <;> first | rfl | simp [E148, hT, hlt83, hg95, hx135, hx137, hc14, hc39, hc153, hc160]
      simp [E148, hT, hlt83, hg95, hx135, hx137, hc14, hc39, hc153, hc160]
      refine hk159 _ _ ⟨?_, ⟨?_, ?_, ?_, ?_⟩⟩ <;> first | rfl | simp [E148, hT, hlt83, hg95, hx135, hx137, hc14, hc39, hc153, hc160]
    rintro fr161 h161 ⟨rfl, E161⟩
    refine AWp.condK fun A162 B163 ga164 gb165 => ?_
    rcases ite_some hm154 with ⟨hc166, hm167⟩ | ⟨hc166, hm168⟩
    rotate_left
    · clear hm154
      simp [E161, hT, hlt83, hg95, hx135, hx137, hc14, hc39, hc153, hc166]
      apply gb165
      refine AWp.skip ?_
      apply hk157
      refine AWp.exit ?_
      apply ne116
      refine hk111 _ _ ⟨?_, ⟨?_, ?_, ?_⟩, hm168⟩ <;> first | rfl | simp [E161, hT, hlt83, hg95, hx135, hx137, hc14, hc39, hc153, hc166]
    clear hm154
    simp [E161, hT, hlt83, hg95, hx135, hx137, hc14, hc39, hc153, hc166]
    apply ga164
    refine AWp.sr [] fun K169 hk170 => ?_
    simp [E161, hT, hlt83, hg95, hx135, hx137, hc14, hc39, hc153, hc166]
    apply hk170
    refine AWp.ret ?_
    apply nr118
    apply nr74
    obtain rfl := Option.some.inj hm167
    rw [ctlK_ret] at hk98
    obtain rfl := Option.some.inj hk98
    rw [sumK_inr] at hmB69
    try dsimp only at hmB69
    obtain rfl := Option.some.inj hmB69
    simp [retQ, E161, hT, hlt83, hg95, hx135, hx137, hc14, hc39, hc153, hc166]
  clear hm142
  simp [E148, hT, hlt83, hg95, hx135, hx137, hc14, hc39, hc153]
  apply gb152
  refine AWp.skip ?_
  apply hk144
  refine AWp.seqK fun K171 hk172 => ?_
  refine AWp.seqP (fun fr h => hset [[]] 0 [AV.slice .frz (List.map (fun n => AV.sc (Value.int .i64 n)) d52.l), AV.sc (.int .i64 d52.atF)] = h ∧ (fr.env 11 = AV.slice .frz (List.map Tkn.av x123) ∧ fr.env 13 = AV.slice .frz (List.map Tkn.av x129) ∧ fr.env 15 = AV.slice .frz (List.map Tkn.av x139) ∧ fr.env 16 = AV.sc (.int .i64 x140) ∧ fr.env 44 = AV.slice .full (List.map (fun p => AV.agg [AV.sc (.string p.1), AV.sc (.string p.2)]) L59) ∧ fr.env 45 = AV.sc (.int .i64 (llen L59)) ∧ fr.env 46 = AV.sc (.int .i64 j77) ∧ fr.env 93 = AV.sc (.bool (sel (ieq x140 3) true (sel (ine x124 0) true (ine x130 0)))))) (fun K173 hk174 => ?_) ?_
  · refine AWp.region [] (by decide +kernel) ?_
    rcases Bool.eq_false_or_eq_true (ieq x140 3) with hc175 | hc175
    · simp [E148, hT, hlt83, hg95, hx135, hx137, hc14, hc39, hc153, hc175]
      refine hk174 _ _ ⟨?_, ⟨?_, ?_, ?_, ?_, ?_, ?_, ?_, ?_⟩⟩ <;> first | rfl | simp [E148, hT, hlt83, hg95, hx135, hx137, hc14, hc39, hc153, hc175]
    rcases Bool.eq_false_or_eq_true (ine x124 0) with hc176 | hc176
    · simp [E148, hT, hlt83, hg95, hx135, hx137, hc14, hc39, hc153, hc175, hc176]
      refine hk174 _ _ ⟨?_, ⟨?_, ?_, ?_, ?_, ?_, ?_, ?_, ?_⟩⟩ <;> first | rfl | simp [E148, hT, hlt83, hg95, hx135, hx137, hc14, hc39, hc153, hc175, hc176]
    simp [E148, hT, hlt83, hg95, hx135, hx137, hc14, hc39, hc153, hc175, hc176]
    refine hk174 _ _ ⟨?_, ⟨?_, ?_, ?_, ?_, ?_, ?_, ?_, ?_⟩⟩ <;> first | rfl | simp [E148, hT, hlt83, hg95, hx135, hx137, hc14, hc39, hc153, hc175, hc176]
  rintro fr177 h177 ⟨rfl, E177⟩
  refine AWp.condK fun A178 B179 ga180 gb181 => ?_
  rcases ite_some hm155 with ⟨hc182, hm183⟩ | ⟨hc182, hm184⟩
  · clear hm155
    simp [E177, hT, hlt83, hg95, hx135, hx137, hc14, hc39, hc153, hc182]
    apply ga180
    refine AWp.exit ?_
    apply ne116
    refine hk111 _ _ ⟨?_, ⟨?_, ?_, ?_⟩, hm183⟩ <;> first | rfl | simp [E177, hT, hlt83, hg95, hx135, hx137, hc14, hc39, hc153, hc182]
  clear hm155
  simp [E177, hT, hlt83, hg95, hx135, hx137, hc14, hc39, hc153, hc182]
  apply gb181
  refine AWp.skip ?_
  apply hk172
  obtain ⟨j185, hj186, hm187⟩ := joinB_some hm184
  clear hm184
  refine AWp.seqP (fun fr h => ∃ (v188 : Bool), hset [[]] 0 [AV.slice .frz (List.map (fun n => AV.sc (Value.int .i64 n)) d52.l), AV.sc (.int .i64 d52.atF)] = h ∧ (fr.env 44 = AV.slice .full (List.map (fun p => AV.agg [AV.sc (.string p.1), AV.sc (.string p.2)]) L59) ∧ fr.env 45 = AV.sc (.int .i64 (llen L59)) ∧ fr.env 46 = AV.sc (.int .i64 j77) ∧ fr.env 104 = AV.sc (.bool v188)) ∧ j185 v188 = some c96) (fun K189 hk190 => ?_) ?_
  rotate_left
  · clear hm187
    rintro fr191 h191 ⟨v188, rfl, E191, hm192⟩
    subst hj186
    refine AWp.condK fun A193 B194 ga195 gb196 => ?_
    rcases ite_some hm192 with ⟨hc197, hm198⟩ | ⟨hc197, hm199⟩
    rotate_left
    · clear hm192
      simp [E191, hT, hlt83, hg95, hx135, hx137, hc14, hc39, hc153, hc182, hc197]
      apply gb196
      refine AWp.skip ?_
      apply nn115
      refine hk111 _ _ ⟨?_, ⟨?_, ?_, ?_⟩, hm199⟩ <;> first | rfl | simp [E191, hT, hlt83, hg95, hx135, hx137, hc14, hc39, hc153, hc182, hc197]
    clear hm192
    simp [E191, hT, hlt83, hg95, hx135, hx137, hc14, hc39, hc153, hc182, hc197]
    apply ga195
    refine AWp.sr [] fun K200 hk201 => ?_
    simp [E191, hT, hlt83, hg95, hx135, hx137, hc14, hc39, hc153, hc182, hc197]
    apply hk201
    refine AWp.ret ?_
    apply nr118
    apply nr74
    obtain rfl := Option.some.inj hm198
    rw [ctlK_ret] at hk98
    obtain rfl := Option.some.inj hk98
    rw [sumK_inr] at hmB69
    try dsimp only at hmB69
    obtain rfl := Option.some.inj hmB69
    simp [retQ, E191, hT, hlt83, hg95, hx135, hx137, hc14, hc39, hc153, hc182, hc197]
  refine AWp.region [] (by decide +kernel) ?_
  rcases ite_some hm187 with ⟨hc202, hm203⟩ | ⟨hc202, hm204⟩
  · clear hm187
    simp [E177, hT, hlt83, hg95, hx135, hx137, hc14, hc39, hc153, hc182, hc202]
    refine hk190 _ _ ⟨true, ?_, ⟨?_, ?_, ?_, ?_⟩, hm203⟩ <;> first | rfl | simp [E177, hT, hlt83, hg95, hx135, hx137, hc14, hc39, hc153, hc182, hc202]
  clear hm187
  obtain ⟨ha205, hm206⟩ := chk_some hm204
  clear hm204
  simp [E177, hT, hlt83, hg95, hx135, hx137, hc14, hc39, hc153, hc182, hc202]
  refine AppAt2.own (f := Tkn.av) [] x123 (OwnT.full (D := [])) ap30 (by intro x; simp) ha205 (by first | rfl | simp) (by first | rfl | simp) ?_
  obtain ⟨ha207, hm208⟩ := chk_some hm206
  clear hm206
  simp [E177, hT, hlt83, hg95, hx135, hx137, hc14, hc39, hc153, hc182, hc202]
  refine AppAt2.own (f := Tkn.av) (lapp [] x123) x129 (OwnT.new (D := [99]) (d := 99) (by decide)) ap30 (by intro x; simp) ha207 (by first | rfl | simp) (by first | rfl | simp) ?_
  obtain ⟨x209, hx210, hm211⟩ := bind1_some hm208
  clear hm208
  try dsimp only at hm211
  simp [E177, hT, hlt83, hg95, hx135, hx137, hc14, hc39, hc153, hc182, hc202]
  refine CallAt.fn (r_lexis_Same T hx210) ?_
  simp [E177, hT, hlt83, hg95, hx135, hx137, hc14, hc39, hc153, hc182, hc202]
  refine hk190 _ _ ⟨(bnot x209), ?_, ⟨?_, ?_, ?_, ?_⟩, hm211⟩ <;> first | rfl | simp [E177, hT, hlt83, hg95, hx135, hx137, hc14, hc39, hc153, hc182, hc202]

theorem enters41 : entersB Tryd.prog 41 = true := by kernel_rfl
theorem r_strconv_Itoa (T : Tabs) (hT : LexT T) {H : Heap} {a0 : Int} {r0 : ByteArray} (hm : strconv_Itoa a0 = some r0) : ACall Tryd.prog T 41 [AV.sc (.int .i64 a0)] H (AV.sc (.string r0)) H := by
  unfold strconv_Itoa at hm
  split at hm
  case isFalse => cases hm
  rename_i hs
  obtain rfl := Option.some.inj hm
  refine ACall.ofCalls enters41 fun G F w vs hg ha => ?_
  obtain ⟨v1, rfl, h1⟩ := prepL1 ha
  cases h1
  refine ⟨_, .sc rfl, (Go.Proofs.Cells.strconv_Itoa Tryd.laysM171 a0 hs.1 hs.2 w (hT G F H w hg).2).mono fun e w' ⟨h1, k, os, h2⟩ => ⟨h1, ?_⟩⟩
  subst h2
  exact below_grow _ _ _


theorem enters29 : entersB Tryd.prog 29 = true := by kernel_rfl

theorem r_lexis_text (T : Tabs) (hT : LexT T) {H : Heap} {a0 : Tkn} {r0 : ByteArray} {r1 : Bool} (hm : lexis_text a0 = some (r0, r1)) : ACall Tryd.prog T 29 [Tkn.av a0] H (AV.tuple [AV.sc (.string r0), AV.sc (.bool r1)]) H := by
  rw [lexis_text] at hm
  refine ACallP.intro (fn := Tryd.f29) Tryd.func29 rfl enters29 (Nat.le_of_ble_eq_true rfl) ?_
  refine AWp.sr [] fun K1 hk2 => ?_
  simp [hT]
  apply hk2
  refine AWp.sr [] fun K3 hk4 => ?_
  obtain ⟨x5, hx6, hm7⟩ := bind1_some hm
  clear hm
  try dsimp only at hm7
  simp [hT]
  refine CallAt.fn (r_strconv_Itoa T hT hx6) ?_
  simp [hT]
  apply hk4
  obtain ⟨j8, hj9, hm10⟩ := joinB_some hm7
  clear hm7
  refine AWp.seqP (fun fr h => ∃ (v11 : ByteArray) (g1_25 : Nat), H = h ∧ (fr.env 1 = AV.lptr 1 g1_25 0 ∧ fr.env 4 = AV.sc (.string v11) ∧ fr.gen 1 = g1_25 ∧ fr.box 1 = some [AV.sc (.int .i64 a0.kind), AV.sc (.int .i64 a0.num), AV.sc (.int .i64 a0.atF), AV.sc (.string a0.text)]) ∧ j8 v11 = some (r0, r1)) (fun K12 hk13 => ?_) ?_
  · refine AWp.sr [] fun K14 hk15 => ?_
    simp [hT]
    apply hk15
    refine AWp.condK fun A16 B17 ga18 gb19 => ?_
    rcases ite_some hm10 with ⟨hc20, hm21⟩ | ⟨hc20, hm22⟩
    rotate_left
    · clear hm10
      simp [hT, hc20]
      apply gb19
      refine AWp.skip ?_
      refine hk13 _ _ ⟨x5, 1, ?_, ⟨?_, ?_, ?_, ?_⟩, hm22⟩ <;> first | rfl | simp [hT, hc20]
    clear hm10
    simp [hT, hc20]
    apply ga18
    refine AWp.region [] (by decide +kernel) ?_
    obtain ⟨hx23, hm24⟩ := chk_some hm21
    clear hm21
    simp [hT, hx23, hc20]
    refine hk13 _ _ ⟨((ByteArray.mk #[120]) ++ x5), 1, ?_, ⟨?_, ?_, ?_, ?_⟩, hm24⟩ <;> first | rfl | simp [hT, hx23, hc20]
  clear hm10
  rintro fr25 h25 ⟨v11, g1_25, rfl, E25, hm26⟩
  subst hj9
  obtain ⟨j27, hj28, hm29⟩ := joinB_some hm26
  clear hm26
  refine AWp.seqP (fun fr h => ∃ (v30 : Bool) (g1_39 : Nat), H = h ∧ (fr.env 1 = AV.lptr 1 g1_39 0 ∧ fr.env 4 = AV.sc (.string v11) ∧ fr.env 5 = AV.sc (.bool v30) ∧ fr.gen 1 = g1_39 ∧ fr.box 1 = some [AV.sc (.int .i64 a0.kind), AV.sc (.int .i64 a0.num), AV.sc (.int .i64 a0.atF), AV.sc (.string a0.text)]) ∧ j27 v30 = some (r0, r1)) (fun K31 hk32 => ?_) ?_
  · refine AWp.region [] (by decide +kernel) ?_
    rcases ite_some hm29 with ⟨hc33, hm34⟩ | ⟨hc33, hm35⟩
    rotate_left
    · clear hm29
      simp [E25, hT, hc33]
      refine hk32 _ _ ⟨false, g1_25, ?_, ⟨?_, ?_, ?_, ?_, ?_⟩, hm35⟩ <;> first | rfl | simp [E25, hT, hc33]
    clear hm29
    obtain ⟨x36, hx37, hm38⟩ := bind1_some hm34
    clear hm34
    try dsimp only at hm38
    simp [E25, hT, hc33]
    refine CallAt.fn (r_strconv_Itoa T hT hx37) ?_
    simp [E25, hT, hc33]
    refine hk32 _ _ ⟨(ile (slen x36) 6), g1_25, ?_, ⟨?_, ?_, ?_, ?_, ?_⟩, hm38⟩ <;> first | rfl | simp [E25, hT, hc33]
  clear hm29
  rintro fr39 h39 ⟨v30, g1_39, rfl, E39, hm40⟩
  subst hj28
  refine AWp.seqK fun K41 hk42 => ?_
  refine AWp.sr [] fun K43 hk44 => ?_
  simp [E39, hT]
  apply hk44
  refine AWp.blockK fun Q45 nn46 ne47 nx48 nr49 => ?_
  refine AWp.sr [] fun K50 hk51 => ?_
  simp [E39, hT]
  apply hk51
  refine AWp.condK fun A52 B53 ga54 gb55 => ?_
  rcases ite_some hm40 with ⟨hc56, hm57⟩ | ⟨hc56, hm58⟩
  · clear hm40
    simp [E39, hT, hc56]
    apply ga54
    refine AWp.seqP (fun fr h => H = h ∧ (fr.env 2 = AV.sc (.string (ByteArray.mk #[40])) ∧ fr.env 3 = AV.sc (.bool (sel (ieq a0.num 0) (seq a0.text (ByteArray.mk #[])) false)))) (fun K59 hk60 => ?_) ?_
    rotate_left
    · rintro fr61 h61 ⟨rfl, E61⟩
      refine AWp.ret ?_
      apply nr49
      simp only [Option.some.injEq, Prod.mk.injEq] at hm57
      obtain ⟨rfl, rfl⟩ := hm57
      simp [retQ, E61, hT, hc56]
    refine AWp.regionD [] false mixed (by decide +kernel) (by decide +kernel) ?_
    rcases Bool.eq_false_or_eq_true (ieq a0.num 0) with hc62 | hc62
    · simp [E39, hT, hc56, hc62]
      refine hk60 _ _ ⟨?_, ⟨?_, ?_⟩⟩ <;> first | rfl | simp [E39, hT, hc56, hc62]
    simp [E39, hT, hc56, hc62]
    refine hk60 _ _ ⟨?_, ⟨?_, ?_⟩⟩ <;> first | rfl | simp [E39, hT, hc56, hc62]
  clear hm40
  simp [E39, hT, hc56]
  apply gb55
  refine AWp.sr [] fun K63 hk64 => ?_
  simp [E39, hT, hc56]
  apply hk64
  refine AWp.condK fun A65 B66 ga67 gb68 => ?_
  rcases ite_some hm58 with ⟨hc69, hm70⟩ | ⟨hc69, hm71⟩
  · clear hm58
    simp [E39, hT, hc56, hc69]
    apply ga67
    refine AWp.seqP (fun fr h => H = h ∧ (fr.env 2 = AV.sc (.string (ByteArray.mk #[41])) ∧ fr.env 3 = AV.sc (.bool (sel (ieq a0.num 0) (seq a0.text (ByteArray.mk #[])) false)))) (fun K72 hk73 => ?_) ?_
    rotate_left
    · rintro fr74 h74 ⟨rfl, E74⟩
      refine AWp.ret ?_
      apply nr49
      simp only [Option.some.injEq, Prod.mk.injEq] at hm70
      obtain ⟨rfl, rfl⟩ := hm70
      simp [retQ, E74, hT, hc56, hc69]
    refine AWp.regionD [] false mixed (by decide +kernel) (by decide +kernel) ?_
    rcases Bool.eq_false_or_eq_true (ieq a0.num 0) with hc75 | hc75
    · simp [E39, hT, hc56, hc69, hc75]
      refine hk73 _ _ ⟨?_, ⟨?_, ?_⟩⟩ <;> first | rfl | simp [E39, hT, hc56, hc69, hc75]
    simp [E39, hT, hc56, hc69, hc75]
    refine hk73 _ _ ⟨?_, ⟨?_, ?_⟩⟩ <;> first | rfl | simp [E39, hT, hc56, hc69, hc75]
  clear hm58
  simp [E39, hT, hc56, hc69]
  apply gb68
  refine AWp.sr [] fun K76 hk77 => ?_
  simp [E39, hT, hc56, hc69]
  apply hk77
  refine AWp.condK fun A78 B79 ga80 gb81 => ?_
  rcases ite_some hm71 with ⟨hc82, hm83⟩ | ⟨hc82, hm84⟩
  · clear hm71
    simp [E39, hT, hc56, hc69, hc82]
    apply ga80
    obtain ⟨j85, hj86, hm87⟩ := joinB_some hm83
    clear hm83
    refine AWp.seqP (fun fr h => ∃ (v88 : Bool), H = h ∧ (fr.env 2 = AV.sc (.string a0.text) ∧ fr.env 3 = AV.sc (.bool v88)) ∧ j85 v88 = some (r0, r1)) (fun K89 hk90 => ?_) ?_
    rotate_left
    · clear hm87
      rintro fr91 h91 ⟨v88, rfl, E91, hm92⟩
      subst hj86
      refine AWp.ret ?_
      apply nr49
      simp only [Option.some.injEq, Prod.mk.injEq] at hm92
      obtain ⟨rfl, rfl⟩ := hm92
      simp [retQ, E91, hT, hc56, hc69, hc82]
    refine AWp.regionD [] false mixed (by decide +kernel) (by decide +kernel) ?_
    rcases ite_some hm87 with ⟨hc93, hm94⟩ | ⟨hc93, hm95⟩
    rotate_left
    · clear hm87
      simp [E39, hT, hc56, hc69, hc82, hc93]
      refine hk90 _ _ ⟨false, ?_, ⟨?_, ?_⟩, hm95⟩ <;> first | rfl | simp [E39, hT, hc56, hc69, hc82, hc93]
    clear hm87
    obtain ⟨x96, hx97, hm98⟩ := bind1_some hm94
    clear hm94
    try dsimp only at hm98
    simp [E39, hT, hc56, hc69, hc82, hc93]
    refine CallAtD.fn (r_lexis_Name T hT hx97) (by simp) ?_
    simp [E39, hT, hc56, hc69, hc82, hc93]
    refine hk90 _ _ ⟨x96, ?_, ⟨?_, ?_⟩, hm98⟩ <;> first | rfl | simp [E39, hT, hc56, hc69, hc82, hc93]
  clear hm71
  simp [E39, hT, hc56, hc69, hc82]
  apply gb81
  refine AWp.seqP (fun fr h => ∃ (g1_108 : Nat), H = h ∧ (fr.env 1 = AV.lptr 1 g1_108 0 ∧ fr.env 4 = AV.sc (.string v11) ∧ fr.env 5 = AV.sc (.bool v30) ∧ fr.env 58 = AV.sc (.bool (sel (ieq a0.kind 4) true (ieq a0.kind 5))) ∧ fr.gen 1 = g1_108 ∧ fr.box 1 = some [AV.sc (.int .i64 a0.kind), AV.sc (.int .i64 a0.num), AV.sc (.int .i64 a0.atF), AV.sc (.string a0.text)])) (fun K99 hk100 => ?_) ?_
  · refine AWp.sr [] fun K101 hk102 => ?_
    simp [E39, hT, hc56, hc69, hc82]
    apply hk102
    refine AWp.condK fun A103 B104 ga105 gb106 => ?_
    rcases Bool.eq_false_or_eq_true (ieq a0.kind 4) with hc107 | hc107
    · simp [E39, hT, hc56, hc69, hc82, hc107]
      apply ga105
      refine AWp.skip ?_
      refine hk100 _ _ ⟨g1_39, ?_, ⟨?_, ?_, ?_, ?_, ?_, ?_⟩⟩ <;> first | rfl | simp [E39, hT, hc56, hc69, hc82, hc107]
    simp [E39, hT, hc56, hc69, hc82, hc107]
    apply gb106
    refine AWp.region [] (by decide +kernel) ?_
    simp [E39, hT, hc56, hc69, hc82, hc107]
    refine hk100 _ _ ⟨g1_39, ?_, ⟨?_, ?_, ?_, ?_, ?_, ?_⟩⟩ <;> first | rfl | simp [E39, hT, hc56, hc69, hc82, hc107]
  rintro fr108 h108 ⟨g1_108, rfl, E108⟩
  refine AWp.condK fun A109 B110 ga111 gb112 => ?_
  rcases ite_some hm84 with ⟨hc113, hm114⟩ | ⟨hc113, hm115⟩
  rotate_left
  · clear hm84
    simp [E108, hT, hc56, hc69, hc82, hc113]
    apply gb112
    refine AWp.skip ?_
    apply nn46
    apply hk42
    refine AWp.sr [] fun K116 hk117 => ?_
    simp [E108, hT, hc56, hc69, hc82, hc113]
    apply hk117
    refine AWp.ret ?_
    simp only [Option.some.injEq, Prod.mk.injEq] at hm115
    obtain ⟨rfl, rfl⟩ := hm115
    simp [retQ, E108, hT, hc56, hc69, hc82, hc113]
  clear hm84
  simp [E108, hT, hc56, hc69, hc82, hc113]
  apply ga111
  refine AWp.seqP (fun fr h => H = h ∧ (fr.env 2 = AV.sc (.string v11) ∧ fr.env 3 = AV.sc (.bool (sel v30 (seq a0.text (ByteArray.mk #[])) false)))) (fun K118 hk119 => ?_) ?_
  rotate_left
  · rintro fr120 h120 ⟨rfl, E120⟩
    refine AWp.ret ?_
    apply nr49
    simp only [Option.some.injEq, Prod.mk.injEq] at hm114
    obtain ⟨rfl, rfl⟩ := hm114
    simp [retQ, E120, hT, hc56, hc69, hc82, hc113]
  refine AWp.regionD [] false mixed (by decide +kernel) (by decide +kernel) ?_
  rcases Bool.eq_false_or_eq_true v30 with hc121 | hc121
  · simp [E108, hT, hc56, hc69, hc82, hc113, hc121]
    refine hk119 _ _ ⟨?_, ⟨?_, ?_⟩⟩ <;> first | rfl | simp [E108, hT, hc56, hc69, hc82, hc113, hc121]
  simp [E108, hT, hc56, hc69, hc82, hc113, hc121]
  refine hk119 _ _ ⟨?_, ⟨?_, ?_⟩⟩ <;> first | rfl | simp [E108, hT, hc56, hc69, hc82, hc113, hc121]

section
open Go.Proofs Go.RowKit Go.Lib
def tokV (t : Tkn) : Value := .agg #[.int .i64 t.kind, .int .i64 t.num, .int .i64 t.atF, .string t.text]

theorem text_calls {t : Tkn} {s : ByteArray} {ok : Bool} (hm : lexis_text t = some (s, ok)) (w : World) (hu : Utf8Tabs 0 1 w) (hp : PowCells 4 w) :
    Calls Tryd.prog 29 #[tokV t] w fun e w' => e = .returned (.tuple #[.string s, .bool ok]) ∧ Below w.heap.size w w' := by
  have h := (r_lexis_text lexTab lexT_tab (H := []) hm).calls (v := .tuple #[.string s, .bool ok]) (fun F G x h => by
    cases h with
    | tuple h => cases h with | cons h1 h => cases h with | cons h2 h => cases h; cases h1; cases h2; rfl) (gw_start lexTab w (lexTab_rep hu hp)) (vs := [tokV t]) (by
    rw [Tkn.av_eq]
    exact .cons (.agg (vs := [_, _, _, _]) (.cons (.sc rfl) (.cons (.sc rfl) (.cons (.sc rfl) (.cons (.sc rfl) .nil)))) (by simp [AV.isOne])) .nil)
  exact h

/-- A builder stays one where all blocks stand. -/
theorem builder_below {T e : TypeId} {B b : Nat} {bs : List Value} {w w' : World} (h : Lib.IsBuilderF T e B b bs w) (hb : Below w.heap.size w w') : Lib.IsBuilderF T e B b bs w' := by
  have key : ∀ p, Lib.BuilderAtF T e B b p bs w → Lib.BuilderAtF T e B b p bs w' := by
    rintro p ⟨h1, v, h2, h3, h4⟩
    have lt : ∀ {k : Nat} {o : Obj}, w.heap[k]? = some o → w'.heap[k]? = some o := fun {k o} hk => (hb.block k (Array.getElem?_eq_some_iff.1 hk).1).trans hk
    refine ⟨h1, v, lt h2, ⟨h3.1, ?_⟩, h4⟩
    rcases h3.2 with h5 | ⟨g, cap, cur, fz, h5, h6, h7, h8⟩
    · exact .inl h5
    · exact .inr ⟨g, cap, cur, fz, h5, h6, lt h7, h8⟩
  exact h.elim (fun h => .inl (key _ h)) (fun h => .inr (key _ h))

set_option maxHeartbeats 8000000 in
set_option maxRecDepth 1000000 in
theorem text_walk (l : List Tkn) (base : Option Addr) (b o cap : Nat) (w : World) (hl : l.length ≤ 2048) (hlc : l.length ≤ cap) (hb : l ≠ [] → b < w.heap.size) (hbase : l ≠ [] → base = some ⟨b, o, none⟩)
    (hc : ∀ (i : Nat) (t : Tkn), l[i]? = some t → w.cell? ⟨b, o + i * 4, none⟩ = some (.int .i64 t.kind) ∧ w.cell? ⟨b, o + i * 4 + 1, none⟩ = some (.int .i64 t.num) ∧ w.cell? ⟨b, o + i * 4 + 2, none⟩ = some (.int .i64 t.atF) ∧ w.cell? ⟨b, o + i * 4 + 3, none⟩ = some (.string t.text))
    (hu : Utf8Tabs 0 1 w) (hp : PowCells 4 w) {r0 : ByteArray} {r1 : Int} (hm : ltext none l [] = some (r0, r1)) :
    Calls Tryd.prog 16 #[.slice base l.length cap] w fun e w' => e = .returned (.tuple #[.string r0, .int .i64 r1]) ∧ Below w.heap.size w w' := by
  have hn : ¬ (2048 : Int) < (l.length : Int) := by omega
  have h4 : 4 < w.heap.size := by
    have h1 := hp 0 (by decide)
    rcases Nat.lt_or_ge 4 w.heap.size with h' | h'
    · exact h'
    · unfold World.cell? at h1
      rw [Array.getElem?_eq_none h'] at h1
      cases h1
  go_enter Tryd.func16, Tryd.ntmps16
  go_wp2
  all_goals try (exfalso; omega)
  go_loopw [14] (fun s14 wr => ∃ (i : Nat) (acc : List UInt8), s14 = .int .i64 i ∧ i ≤ l.length ∧ Lib.IsBuilderF 59 5 w.heap.size w.heap.size (Lib.byteCells acc) wr ∧ Below w.heap.size w wr ∧ acc.length ≤ 1001 * i ∧ ltext (if i = 0 then none else l[i - 1]?) (l.drop i) acc = some (r0, r1))
    (fun s14 _ => l.length - (intOf s14).toNat)
  case atStart =>
    exact ⟨0, [], rfl, Nat.zero_le _, Lib.IsBuilderF.of (Lib.fresh_isBuilder 59 5 w), (Below.refl _ w).alloc (Nat.le_refl _) _, Nat.zero_le _, hm⟩
  case round =>
    obtain ⟨i, acc, rfl, hi, hI, hbw, hal, hlt⟩ := hrel
    have hsz := hbw.size
    by_cases hin : i < l.length
    · have hin' : (i : Int) < (l.length : Int) := by omega
      obtain ⟨t, ht⟩ : ∃ t, l[i]? = some t := ⟨_, List.getElem?_eq_getElem hin⟩
      obtain ⟨c0, c1, c2, c3⟩ := hc i t ht
      have hne : l ≠ [] := by rintro rfl; simp at hin
      have hbl : b < w.heap.size := hb hne
      obtain rfl := hbase hne
      rw [← hbw.cell hbl] at c0 c1 c2 c3
      have hA := hI.alloc (.cells #[.int .i64 t.kind, .int .i64 t.num, .int .i64 t.atF, .string t.text] 35)
      have hbA := hbw.alloc hsz (.cells #[.int .i64 t.kind, .int .i64 t.num, .int .i64 t.atF, .string t.text] 35)
      obtain ⟨s1, ok, hs1⟩ : ∃ s1 ok, lexis_text t = some (s1, ok) := by
        rw [List.drop_eq_getElem_cons hin, (List.getElem?_eq_some_iff.1 ht).2] at hlt
        unfold ltext at hlt
        cases hq : lexis_text t with
        | none => rw [hq] at hlt; cases hlt
        | some p => exact ⟨p.1, p.2, rfl⟩
      go_wp2_with (go_at_call 29; refine (text_calls hs1 _ (Utf8Tabs_below hu hbA) (fun k hk => (hbA.cell (p := ⟨4, k, none⟩) h4).trans (hp k hk))).mono ?_)
      try simp only [and_imp]
      intro e W1 he b1
      subst he
      have b1 : Below (wr.alloc (.cells #[.int .i64 t.kind, .int .i64 t.num, .int .i64 t.atF, .string t.text] 35)).heap.size (wr.alloc (.cells #[.int .i64 t.kind, .int .i64 t.num, .int .i64 t.atF, .string t.text] 35)) W1 := by
        first | exact b1 | (rw [show (wr.alloc (.cells #[.int .i64 t.kind, .int .i64 t.num, .int .i64 t.atF, .string t.text] 35)).heap.size = wr.heap.size + 1 by simp]; exact b1)
      have hB1 := builder_below hA b1
      have hbw1 := hbA.trans (b1.mono hbA.size)
      have d0 : W1.cell? ⟨wr.heap.size, 0, none⟩ = some (.int .i64 t.kind) := by
        rw [b1.cell (p := ⟨wr.heap.size, 0, none⟩) (by simp), World.cell?_alloc_new]
        rfl
      rw [List.drop_eq_getElem_cons hin, (List.getElem?_eq_some_iff.1 ht).2] at hlt
      unfold ltext at hlt
      rw [hs1] at hlt
      cases ok with
      | false =>
        go_wp2
        go_ret2
        obtain ⟨e1, e2⟩ := Prod.mk.inj (Option.some.inj hlt)
        rw [← e1, ← e2]
        exact ⟨rfl, hbw1⟩
      | true =>
        simp only at hlt
        split at hlt
        case isFalse => cases hlt
        rename_i hsz1
        have hfin : ∀ (g : List UInt8) (p : Value) (W : World), g = gapT (if i = 0 then none else l[i - 1]?) t → p = .pointer (some ⟨w.heap.size, 0, none⟩) → Lib.BuilderAtF 59 5 w.heap.size w.heap.size p (Lib.byteCells (acc ++ g) ++ Lib.strCells s1) W → Below w.heap.size w W →
            ∃ (i' : Nat) (acc' : List UInt8), Value.int .i64 ((i : Int) + 1) = .int .i64 i' ∧ i' ≤ l.length ∧ Lib.IsBuilderF 59 5 w.heap.size w.heap.size (Lib.byteCells acc') W ∧ Below w.heap.size w W ∧ acc'.length ≤ 1001 * i' ∧ ltext (if i' = 0 then none else l[i' - 1]?) (l.drop i') acc' = some (r0, r1) := by
          intro g p W hg hpp hB hW
          subst hpp
          have hgl : g.length ≤ 1 := by
            rw [hg]; unfold gapT
            split
            · simp
            · split <;> simp
          refine ⟨i + 1, acc ++ g ++ s1.data.toList, by simp, by omega, .inr ?_, hW, ?_, ?_⟩
          · rw [Lib.byteCells_append, ← Lib.strCells_eq]
            exact hB
          · have hs2 : s1.data.toList.length = s1.size := (Lib.size_eq s1).symm
            simp only [List.length_append, hs2]
            omega
          · rw [if_neg (by omega), Nat.add_sub_cancel, ht, hg]
            exact hlt
        by_cases hi0 : i = 0
        · subst hi0
          go_wp2_with (go_at_call 31; refine (Tryd.bwriteString w.heap.size w.heap.size _ s1 _ hB1 (by rw [Lib.byteCells_length]; omega) hbw1.size).mono ?_)
          rintro e W2 ⟨he, h2, b2, k2⟩
          subst he
          go_wp2
          go_roundw
          case rel => exact hfin [] _ W2 rfl rfl (by rw [List.append_nil]; exact h2) (hbw1.trans b2)
          case measure => simp [intOf]; omega
        · obtain ⟨q, hq⟩ : ∃ q, l[i - 1]? = some q := ⟨_, List.getElem?_eq_getElem (by omega)⟩
          obtain ⟨q0, _, _, _⟩ := hc (i - 1) q hq
          rw [← hbw1.cell hbl] at q0
          have hip : (0 : Int) < (i : Int) := by omega
          have him : (i : Int) - 1 = ((i - 1 : Nat) : Int) := by omega
          have gp : gapT (if i = 0 then none else l[i - 1]?) t = if q.kind ≠ 1 ∧ t.kind ≠ 2 then [32] else [] := by rw [if_neg hi0, hq]; rfl
          by_cases hk1 : q.kind = 1
          · have g0 : [] = gapT (if i = 0 then none else l[i - 1]?) t := by rw [gp, if_neg (fun hh => hh.1 hk1)]
            rw [hk1] at q0
            go_wp2_with (go_at_call 31; refine (Tryd.bwriteString w.heap.size w.heap.size _ s1 _ hB1 (by rw [Lib.byteCells_length]; omega) hbw1.size).mono ?_)
            all_goals try (go_at_call 31; refine (Tryd.bwriteString w.heap.size w.heap.size _ s1 _ hB1 (by rw [Lib.byteCells_length]; omega) hbw1.size).mono ?_)
            all_goals (rintro e W2 ⟨he, h2, b2, k2⟩; subst he)
            all_goals go_wp2
            all_goals go_roundw
            all_goals first | exact hfin [] _ W2 g0 rfl (by rw [List.append_nil]; exact h2) (hbw1.trans b2) | (simp [intOf]; omega)
          · by_cases hk2 : t.kind = 2
            · have g0 : [] = gapT (if i = 0 then none else l[i - 1]?) t := by rw [gp, if_neg (fun hh => hh.2 hk2)]
              go_wp2_with (go_at_call 31; refine (Tryd.bwriteString w.heap.size w.heap.size _ s1 _ hB1 (by rw [Lib.byteCells_length]; omega) hbw1.size).mono ?_)
              all_goals try (go_at_call 31; refine (Tryd.bwriteString w.heap.size w.heap.size _ s1 _ hB1 (by rw [Lib.byteCells_length]; omega) hbw1.size).mono ?_)
              all_goals (rintro e W2 ⟨he, h2, b2, k2⟩; subst he)
              all_goals go_wp2
              all_goals go_roundw
              all_goals first | exact hfin [] _ W2 g0 rfl (by rw [List.append_nil]; exact h2) (hbw1.trans b2) | (simp [intOf]; omega)
            · have g0 : [32] = gapT (if i = 0 then none else l[i - 1]?) t := by rw [gp, if_pos ⟨hk1, hk2⟩]
              have hb1 : (q.kind != 1) = true := by simp [hk1]
              have hb2 : (t.kind != 2) = true := by simp [hk2]
              go_wp2_with (go_at_call 30; refine (Tryd.bwriteByte w.heap.size w.heap.size _ 32 _ hB1 (by rw [Lib.byteCells_length]; omega) hbw1.size).mono ?_)
              rintro e W2 ⟨he, h2, b2, k2⟩
              subst he
              have hl2 : (Lib.byteCells acc ++ [Value.int .u8 32]).length + s1.size ≤ 140737488355328 := by
                rw [List.length_append, Lib.byteCells_length]; simp only [List.length_cons, List.length_nil]; omega
              have hbw2 := hbw1.trans b2
              go_wp2_with (go_at_call 31; refine (Tryd.bwriteString w.heap.size w.heap.size _ s1 _ (.inr h2) hl2 hbw2.size).mono ?_)
              rintro e W3 ⟨he, h3, b3, k3⟩
              subst he
              go_wp2
              go_roundw
              case rel => exact hfin [32] _ W3 g0 rfl (by rw [Lib.byteCells_append]; exact h3) (hbw2.trans b3)
              case measure => simp [intOf]; omega
    · have hin' : ¬ (i : Int) < (l.length : Int) := by omega
      go_wp2_with (go_at_call 32; refine (Tryd.Builder_String_any_k w.heap.size w.heap.size acc _ hI (by omega)).mono ?_)
      try simp only [and_imp]
      intro e W1 he h1 b1 k1
      subst he
      go_wp2
      go_ret2
      rw [List.drop_eq_nil_of_le (by omega)] at hlt
      obtain ⟨e1, e2⟩ := Prod.mk.inj (Option.some.inj hlt)
      rw [← e1, ← e2]
      exact ⟨rfl, hbw.trans b1⟩

set_option maxHeartbeats 4000000 in
set_option maxRecDepth 1000000 in
theorem text_walk0 (n cap : Nat) (base : Option Addr) (w : World) (hl : 2048 < n) :
    Calls Tryd.prog 16 #[.slice base n cap] w fun e w' => e = .returned (.tuple #[.string ⟨#[]⟩, .int .i64 3]) ∧ Below w.heap.size w w' := by
  have hl' : (2048 : Int) < (n : Int) := by omega
  go_enter Tryd.func16, Tryd.ntmps16
  go_wp2
  all_goals try (exfalso; omega)
  go_ret2
  exact ⟨rfl, Below.refl _ _⟩

theorem tok_cells {F : Imm} {G : Nat → Nat} {n : Nat} : ∀ {l : List Tkn} {vs : List Value}, PRepL F G n ((l.map Tkn.av).flatMap AV.cells) vs → ∀ (i : Nat) (t : Tkn), l[i]? = some t →
    vs[i * 4]? = some (.int .i64 t.kind) ∧ vs[i * 4 + 1]? = some (.int .i64 t.num) ∧ vs[i * 4 + 2]? = some (.int .i64 t.atF) ∧ vs[i * 4 + 3]? = some (.string t.text)
  | [], vs, h, i, t, hi => by simp at hi
  | x :: l, vs, h, i, t, hi => by
    rw [List.map_cons, List.flatMap_cons, Tkn.cells_av] at h
    cases h with | cons a1 h => cases h with | cons a2 h => cases h with | cons a3 h => cases h with | cons a4 h =>
    cases a1; cases a2; cases a3; cases a4
    cases i with
    | zero =>
      obtain rfl := Option.some.inj hi
      exact ⟨rfl, rfl, rfl, rfl⟩
    | succ i =>
      have := tok_cells h i t (by simpa using hi)
      rw [show (i + 1) * 4 = i * 4 + 1 + 1 + 1 + 1 by omega, show i * 4 + 1 + 1 + 1 + 1 + 1 = (i * 4 + 1) + 1 + 1 + 1 + 1 by omega, show i * 4 + 1 + 1 + 1 + 1 + 2 = (i * 4 + 2) + 1 + 1 + 1 + 1 by omega, show i * 4 + 1 + 1 + 1 + 1 + 3 = (i * 4 + 3) + 1 + 1 + 1 + 1 by omega]
      simpa using this

theorem enters16 : entersB Tryd.prog 16 = true := by kernel_rfl
theorem r_lexis_Text (T : Tabs) (hT : LexT T) {H : Heap} {a0 : List Tkn} {r0 : ByteArray} {r1 : Int} (hm : lexis_Text a0 = some (r0, r1)) :
    ACall Tryd.prog T 16 [AV.slice .frz (List.map Tkn.av a0)] H (AV.tuple [AV.sc (.string r0), AV.sc (.int .i64 r1)]) H := by
  refine ACall.ofCalls enters16 fun G F w vs hg ha => ?_
  obtain ⟨v1, rfl, h1⟩ := prepL1 ha
  refine ⟨_, .tuple (.cons (.sc rfl) (.cons (.sc rfl) .nil)), ?_⟩
  cases h1 with
  | @slice _ _ vs b o base cap sz h1 h2 h3 h4 h5 h6 h7 h8 =>
    rw [List.length_map] at h6 ⊢
    unfold lexis_Text at hm
    split at hm
    · rename_i hl
      obtain ⟨e1, e2⟩ := Prod.mk.inj (Option.some.inj hm)
      rw [← e1, ← e2]
      exact text_walk0 _ cap base w hl
    · rename_i hl
      have hcell : ∀ (i : Nat) (v : Value), vs[i]? = some v → w.cell? ⟨b, o + i, none⟩ = some v := fun i v hv => hg.imm b _ v (h2 i v hv)
      refine text_walk a0 base b o cap w (by omega) h6 (fun hne => ?_) (fun hne => h3 (by simpa using hne)) (fun i t ht => ?_) (hT G F H w hg).1 (hT G F H w hg).2 hm
      · obtain ⟨t, ht⟩ : ∃ t, a0[0]? = some t := ⟨_, List.getElem?_eq_getElem (List.length_pos_iff.2 hne)⟩
        have hc := hcell _ _ (tok_cells h1 0 t ht).1
        rcases Nat.lt_or_ge b w.heap.size with h' | h'
        · exact h'
        · unfold World.cell? at hc
          rw [Array.getElem?_eq_none h'] at hc
          cases hc
      · obtain ⟨c0, c1, c2, c3⟩ := tok_cells h1 i t ht
        exact ⟨hcell _ _ c0, hcell _ _ c1, hcell _ _ c2, hcell _ _ c3⟩
end


theorem enters5 : entersB Tryd.prog 5 = true := by kernel_rfl

theorem r_law14_LexisPlaces (T : Tabs) (hT : LexT T) {a0 : (List Int)} {r0 : Bool} (hm : law14_LexisPlaces a0 = some r0) : ACallP Tryd.prog T 5 [AV.slice .frz (List.map (fun n => AV.sc (Value.int .i64 n)) a0)] [] (fun x _ => x = AV.sc (.bool r0)) := by
  rw [law14_LexisPlaces] at hm
  refine ACallP.intro (fn := Tryd.f5) Tryd.func5 rfl enters5 (Nat.le_of_ble_eq_true rfl) ?_
  refine AWp.sr [] fun K1 hk2 => ?_
  simp [hT]
  apply hk2
  refine AWp.seqK fun K3 hk4 => ?_
  refine AWp.sr [] fun K5 hk6 => ?_
  obtain ⟨x7, hx8, hm9⟩ := bind1_some hm
  clear hm
  try dsimp only at hm9
  simp [hT]
  refine CallAt.fn (r_law14_sane T hT hx8) ?_
  simp [hT]
  apply hk6
  refine AWp.condK fun A10 B11 ga12 gb13 => ?_
  rcases ite_some hm9 with ⟨hc14, hm15⟩ | ⟨hc14, hm16⟩
  rotate_left
  · clear hm9
    simp [hT, hc14]
    apply ga12
    refine AWp.sr [] fun K17 hk18 => ?_
    simp [hT, hc14]
    apply hk18
    refine AWp.ret ?_
    obtain rfl := Option.some.inj hm16
    simp [retQ, hT, hc14]
  clear hm9
  simp [hT, hc14]
  apply gb13
  refine AWp.skip ?_
  apply hk4
  refine AWp.seqK fun K19 hk20 => ?_
  refine AWp.sr [] fun K21 hk22 => ?_
  obtain ⟨x23, hx24, hm25⟩ := bind1_some hm15
  clear hm15
  try dsimp only at hm25
  simp [hT, hc14]
  refine CallAt.fn (r_mk_Few T hx24) ?_
  simp [hT, hc14]
  apply hk22
  refine AWp.condK fun A26 B27 ga28 gb29 => ?_
  rcases ite_some hm25 with ⟨hc30, hm31⟩ | ⟨hc30, hm32⟩
  rotate_left
  · clear hm25
    simp [hT, hc14, hc30]
    apply ga28
    refine AWp.sr [] fun K33 hk34 => ?_
    simp [hT, hc14, hc30]
    apply hk34
    refine AWp.ret ?_
    obtain rfl := Option.some.inj hm32
    simp [retQ, hT, hc14, hc30]
  clear hm25
  simp [hT, hc14, hc30]
  apply gb29
  refine AWp.skip ?_
  apply hk20
  refine AWp.sr [] fun K35 hk36 => ?_
  obtain ⟨x37, hx38, hm39⟩ := bind1_some hm31
  clear hm31
  try dsimp only at hm39
  simp [hT, hc14, hc30]
  refine CallAt.fn (r_mk_New T hx38) ?_
  obtain ⟨x40, d41, hx42, hm43⟩ := bind2_some hm39
  clear hm39
  try dsimp only at hm43
  simp [hT, hc14, hc30]
  refine CallAt.fn (r_law14_text T (by simp) hx42) ?_
  simp [hT, hc14, hc30]
  apply hk36
  refine AWp.sr [] fun K44 hk45 => ?_
  obtain ⟨x46, x47, hx48, hm49⟩ := bind2_some hm43
  clear hm43
  try dsimp only at hm49
  simp [hT, hc14, hc30]
  refine CallAt.fn (r_lexis_Tokens T hT hx48) ?_
  simp [hT, hc14, hc30]
  apply hk45
  refine AWp.seqK fun K50 hk51 => ?_
  obtain ⟨j52, hj53, hm54⟩ := joinB_some hm49
  clear hm49
  refine AWp.seqP (fun fr h => ∃ (v55 : Bool), hset [[]] 0 [AV.slice .frz (List.map (fun n => AV.sc (Value.int .i64 n)) d41.l), AV.sc (.int .i64 d41.atF)] = h ∧ (fr.env 3 = AV.sc (.string x40) ∧ fr.env 4 = AV.slice .frz (List.map Tkn.av x46) ∧ fr.env 37 = AV.sc (.bool v55)) ∧ j52 v55 = some r0) (fun K56 hk57 => ?_) ?_
  · refine AWp.region [] (by decide +kernel) ?_
    rcases ite_some hm54 with ⟨hc58, hm59⟩ | ⟨hc58, hm60⟩
    · clear hm54
      simp [hT, hc14, hc30, hc58]
      refine hk57 _ _ ⟨true, ?_, ⟨?_, ?_, ?_⟩, hm59⟩ <;> first | rfl | simp [hT, hc14, hc30, hc58]
    clear hm54
    rcases ite_some hm60 with ⟨hc61, hm62⟩ | ⟨hc61, hm63⟩
    · clear hm60
      simp [hT, hc14, hc30, hc58, hc61]
      refine hk57 _ _ ⟨true, ?_, ⟨?_, ?_, ?_⟩, hm62⟩ <;> first | rfl | simp [hT, hc14, hc30, hc58, hc61]
    clear hm60
    obtain ⟨x64, hx65, hm66⟩ := bind1_some hm63
    clear hm63
    try dsimp only at hm66
    simp [hT, hx65, hc14, hc30, hc58, hc61]
    refine hk57 _ _ ⟨(ine x64.atF 0), ?_, ⟨?_, ?_, ?_⟩, hm66⟩ <;> first | rfl | simp [hT, hx65, hc14, hc30, hc58, hc61]
  clear hm54
  rintro fr67 h67 ⟨v55, rfl, E67, hm68⟩
  subst hj53
  refine AWp.condK fun A69 B70 ga71 gb72 => ?_
  rcases ite_some hm68 with ⟨hc73, hm74⟩ | ⟨hc73, hm75⟩
  · clear hm68
    simp [E67, hT, hc14, hc30, hc73]
    apply ga71
    refine AWp.sr [] fun K76 hk77 => ?_
    simp [E67, hT, hc14, hc30, hc73]
    apply hk77
    refine AWp.ret ?_
    obtain rfl := Option.some.inj hm74
    simp [retQ, E67, hT, hc14, hc30, hc73]
  clear hm68
  simp [E67, hT, hc14, hc30, hc73]
  apply gb72
  refine AWp.skip ?_
  apply hk51
  refine AWp.seqK fun K78 hk79 => ?_
  refine AWp.sr [] fun K80 hk81 => ?_
  simp [E67, hT, hc14, hc30, hc73]
  apply hk81
  obtain ⟨hok82, hm83⟩ := chk_some hm75
  clear hm75
  obtain ⟨F84, hF85, hm86⟩ := joinB_some hm83
  clear hm83
  try dsimp only at hm86
  obtain ⟨out87, hl88, hmB89⟩ := bind1_some hm86
  clear hm86
  refine AWp.blockK fun Q90 nn91 ne92 nx93 nr94 => ?_
  refine AWp.loopF (fun n95 fr h => ∃ (i96 : Nat) (j97 : Int), hset [[]] 0 [AV.slice .frz (List.map (fun n => AV.sc (Value.int .i64 n)) d41.l), AV.sc (.int .i64 d41.atF)] = h ∧ (fr.env 3 = AV.sc (.string x40) ∧ fr.env 4 = AV.slice .frz (List.map Tkn.av x46) ∧ fr.env 38 = AV.slice .frz (List.map Tkn.av x46) ∧ fr.env 39 = AV.sc (.int .i64 (llen x46)) ∧ fr.env 40 = AV.sc (.int .i64 j97)) ∧ j97 = (i96 : Int) ∧ i96 + n95 = List.length x46 ∧ forR F84 (List.drop i96 x46) i96 () = some out87) (List.length x46) ?_ ?_
  · refine ⟨0, 0, ?_, ⟨?_, ?_, ?_, ?_, ?_⟩, rfl, (by simp), hl88⟩ <;> first | rfl | simp [E67, hT, hc14, hc30, hc73]
  rintro n95 fr98 h98 ⟨i96, j97, rfl, E98, hj99, hi100, hl88⟩ K101 hK102
  rcases n95 with _ | n95
  · have hlt103 := ilt_notJ (l := x46) hj99 (by omega)
    refine AWp.sr [] fun K104 hk105 => ?_
    simp [E98, hT, hlt103, hc14, hc30, hc73]
    apply hk105
    refine AWp.seqK fun K106 hk107 => ?_
    refine AWp.condK fun A108 B109 ga110 gb111 => ?_
    simp [E98, hT, hlt103, hc14, hc30, hc73]
    apply gb111
    refine AWp.exit ?_
    apply ne92
    rw [List.drop_eq_nil_of_le (by omega), forR_nil] at hl88
    obtain rfl := Option.some.inj hl88
    rw [sumK_inl] at hmB89
    try dsimp only at hmB89
    apply hk79
    refine AWp.sr [] fun K112 hk113 => ?_
    simp [E98, hT, hlt103, hc14, hc30, hc73]
    apply hk113
    refine AWp.ret ?_
    obtain rfl := Option.some.inj hmB89
    simp [retQ, E98, hT, hlt103, hc14, hc30, hc73]
  have hlt103 := ilt_ofJ (l := x46) hj99 (by omega)
  obtain ⟨x114, hdn95, hg115⟩ := drop_ltJ (l := x46) hj99 (by omega)
  rw [hdn95, forR_cons] at hl88
  obtain ⟨c116, hb117, hk118⟩ := bind1_some hl88
  clear hl88
  rw [hF85, ← hj99] at hb117
  try dsimp only at hb117
  refine AWp.sr [] fun K119 hk120 => ?_
  simp [E98, hT, hlt103, hg115, hc14, hc30, hc73]
  apply hk120
  refine AWp.seqK fun K121 hk122 => ?_
  refine AWp.condK fun A123 B124 ga125 gb126 => ?_
  simp [E98, hT, hlt103, hg115, hc14, hc30, hc73]
  apply ga125
  refine AWp.skip ?_
  apply hk122
  refine AWp.seqK fun K127 hk128 => ?_
  refine AWp.blockK fun Q129 nn130 ne131 nx132 nr133 => ?_
  refine AWp.sr [] fun K134 hk135 => ?_
  simp [E98, hT, hlt103, hg115, hc14, hc30, hc73]
  apply hk135
  refine AWp.sr [] fun K136 hk137 => ?_
  simp [E98, hT, hlt103, hg115, hc14, hc30, hc73]
  apply hk137
  refine AWp.sr [] fun K138 hk139 => ?_
  obtain ⟨x140, x141, hx142, hm143⟩ := bind2_some hb117
  clear hb117
  try dsimp only at hm143
  simp [E98, hT, hlt103, hg115, hc14, hc30, hc73]
  refine CallAt.fn (r_lexis_Text T hT hx142) ?_
  simp [E98, hT, hlt103, hg115, hc14, hc30, hc73]
  apply hk139
  refine AWp.sr [] fun K144 hk145 => ?_
  simp [E98, hT, hlt103, hg115, hc14, hc30, hc73]
  apply hk145
  obtain ⟨j146, hj147, hm148⟩ := joinB_some hm143
  clear hm143
  refine AWp.seqP (fun fr h => ∃ (v149 : Bool), hset [[]] 0 [AV.slice .frz (List.map (fun n => AV.sc (Value.int .i64 n)) d41.l), AV.sc (.int .i64 d41.atF)] = h ∧ (fr.env 3 = AV.sc (.string x40) ∧ fr.env 4 = AV.slice .frz (List.map Tkn.av x46) ∧ fr.env 38 = AV.slice .frz (List.map Tkn.av x46) ∧ fr.env 39 = AV.sc (.int .i64 (llen x46)) ∧ fr.env 40 = AV.sc (.int .i64 j97) ∧ fr.env 96 = AV.sc (.bool v149)) ∧ j146 v149 = some c116) (fun K150 hk151 => ?_) ?_
  rotate_left
  · clear hm148
    rintro fr152 h152 ⟨v149, rfl, E152, hm153⟩
    subst hj147
    refine AWp.condK fun A154 B155 ga156 gb157 => ?_
    rcases ite_some hm153 with ⟨hc158, hm159⟩ | ⟨hc158, hm160⟩
    · clear hm153
      simp [E152, hT, hlt103, hg115, hc14, hc30, hc73, hc158]
      apply ga156
      refine AWp.sr [] fun K161 hk162 => ?_
      simp [E152, hT, hlt103, hg115, hc14, hc30, hc73, hc158]
      apply hk162
      refine AWp.ret ?_
      apply nr133
      apply nr94
      obtain rfl := Option.some.inj hm159
      rw [ctlK_ret] at hk118
      obtain rfl := Option.some.inj hk118
      rw [sumK_inr] at hmB89
      try dsimp only at hmB89
      obtain rfl := Option.some.inj hmB89
      simp [retQ, E152, hT, hlt103, hg115, hc14, hc30, hc73, hc158]
    clear hm153
    simp [E152, hT, hlt103, hg115, hc14, hc30, hc73, hc158]
    apply gb157
    refine AWp.skip ?_
    apply nn130
    apply hk128
    refine AWp.region [] (by decide +kernel) ?_
    simp [E152, hT, hlt103, hg115, hc14, hc30, hc73, hc158]
    obtain rfl := Option.some.inj hm160
    rw [ctlK_next] at hk118
    refine hK102 _ _ n95 (Nat.lt_succ_self _) ⟨(i96 + 1), (iadd .i64 j97 1), ?_, ⟨?_, ?_, ?_, ?_, ?_⟩, (iadd_idxJ hj99 (by omega) hok82), (by omega), hk118⟩ <;> first | rfl | simp [E152, hT, hlt103, hg115, hc14, hc30, hc73, hc158]
  refine AWp.region [] (by decide +kernel) ?_
  rcases ite_some hm148 with ⟨hc163, hm164⟩ | ⟨hc163, hm165⟩
  · clear hm148
    simp [E98, hT, hlt103, hg115, hc14, hc30, hc73, hc163]
    refine hk151 _ _ ⟨true, ?_, ⟨?_, ?_, ?_, ?_, ?_, ?_⟩, hm164⟩ <;> first | rfl | simp [E98, hT, hlt103, hg115, hc14, hc30, hc73, hc163]
  clear hm148
  rcases ite_some hm165 with ⟨hc166, hm167⟩ | ⟨hc166, hm168⟩
  · clear hm165
    simp [E98, hT, hlt103, hg115, hc14, hc30, hc73, hc163, hc166]
    refine hk151 _ _ ⟨true, ?_, ⟨?_, ?_, ?_, ?_, ?_, ?_⟩, hm167⟩ <;> first | rfl | simp [E98, hT, hlt103, hg115, hc14, hc30, hc73, hc163, hc166]
  clear hm165
  rcases ite_some hm168 with ⟨hc169, hm170⟩ | ⟨hc169, hm171⟩
  · clear hm168
    simp [E98, hT, hlt103, hg115, hc14, hc30, hc73, hc163, hc166, hc169]
    refine hk151 _ _ ⟨true, ?_, ⟨?_, ?_, ?_, ?_, ?_, ?_⟩, hm170⟩ <;> first | rfl | simp [E98, hT, hlt103, hg115, hc14, hc30, hc73, hc163, hc166, hc169]
  clear hm168
  obtain ⟨x172, hx173, hm174⟩ := bind1_some hm171
  clear hm171
  try dsimp only at hm174
  rcases ite_some hm174 with ⟨hc175, hm176⟩ | ⟨hc175, hm177⟩
  · clear hm174
    simp [E98, hT, hlt103, hg115, hx173, hc14, hc30, hc73, hc163, hc166, hc169, hc175]
    refine hk151 _ _ ⟨true, ?_, ⟨?_, ?_, ?_, ?_, ?_, ?_⟩, hm176⟩ <;> first | rfl | simp [E98, hT, hlt103, hg115, hx173, hc14, hc30, hc73, hc163, hc166, hc169, hc175]
  clear hm174
  rcases ite_some hm177 with ⟨hc178, hm179⟩ | ⟨hc178, hm180⟩
  rotate_left
  · clear hm177
    simp [E98, hT, hlt103, hg115, hx173, hc14, hc30, hc73, hc163, hc166, hc169, hc175, hc178]
    refine hk151 _ _ ⟨false, ?_, ⟨?_, ?_, ?_, ?_, ?_, ?_⟩, hm180⟩ <;> first | rfl | simp [E98, hT, hlt103, hg115, hx173, hc14, hc30, hc73, hc163, hc166, hc169, hc175, hc178]
  clear hm177
  obtain ⟨x181, hx182, hm183⟩ := bind1_some hm179
  clear hm179
  try dsimp only at hm183
  simp [E98, hT, hlt103, hg115, hx173, hx182, hc14, hc30, hc73, hc163, hc166, hc169, hc175, hc178]
  refine hk151 _ _ ⟨(ile x114.atF x181.atF), ?_, ⟨?_, ?_, ?_, ?_, ?_, ?_⟩, hm183⟩ <;> first | rfl | simp [E98, hT, hlt103, hg115, hx173, hx182, hc14, hc30, hc73, hc163, hc166, hc169, hc175, hc178]

theorem enters34 : entersB Tryd.prog 34 = true := by kernel_rfl

theorem r_ref14_digit (T : Tabs) {H : Heap} {a0 : Int} {r0 : Bool} (hm : ref14_digit a0 = some r0) : ACall Tryd.prog T 34 [AV.sc (.int .u8 a0)] H (AV.sc (.bool r0)) H := by
  rw [ref14_digit] at hm
  refine ACallP.intro (fn := Tryd.f34) Tryd.func34 rfl enters34 (Nat.le_of_ble_eq_true rfl) ?_
  refine AWp.sr [] fun K1 hk2 => ?_
  simp
  apply hk2
  refine AWp.seqP (fun fr h => H = h ∧ fr.env 2 = AV.sc (.bool (sel (ige a0 48) (ile a0 57) false))) (fun K3 hk4 => ?_) ?_
  rotate_left
  · rintro fr5 h5 ⟨rfl, E5⟩
    refine AWp.ret ?_
    obtain rfl := Option.some.inj hm
    simp [retQ, E5]
  refine AWp.region [] (by decide +kernel) ?_
  rcases Bool.eq_false_or_eq_true (ige a0 48) with hc6 | hc6
  · simp [hc6]
    refine hk4 _ _ ⟨?_, ?_⟩ <;> first | rfl | simp [hc6]
  simp [hc6]
  refine hk4 _ _ ⟨?_, ?_⟩ <;> first | rfl | simp [hc6]

theorem enters43 : entersB Tryd.prog 43 = true := by kernel_rfl

theorem r_ref14_number (T : Tabs) {H : Heap} {a0 : ByteArray} {r0 : Int} {r1 : Bool} (hm : ref14_number a0 = some (r0, r1)) : ACall Tryd.prog T 43 [AV.sc (.string a0)] H (AV.tuple [AV.sc (.int .i64 r0), AV.sc (.bool r1)]) H := by
  rw [ref14_number] at hm
  refine ACallP.intro (fn := Tryd.f43) Tryd.func43 rfl enters43 (Nat.le_of_ble_eq_true rfl) ?_
  refine AWp.sr [] fun K1 hk2 => ?_
  simp
  apply hk2
  refine AWp.seqK fun K3 hk4 => ?_
  obtain ⟨j5, hj6, hm7⟩ := joinB_some hm
  clear hm
  refine AWp.seqP (fun fr h => ∃ (v8 : Bool), H = h ∧ (fr.env 0 = AV.sc (.string a0) ∧ fr.env 23 = AV.sc (.bool v8)) ∧ j5 v8 = some (r0, r1)) (fun K9 hk10 => ?_) ?_
  · refine AWp.region [] (by decide +kernel) ?_
    rcases ite_some hm7 with ⟨hc11, hm12⟩ | ⟨hc11, hm13⟩
    · clear hm7
      simp [hc11]
      refine hk10 _ _ ⟨true, ?_, ⟨?_, ?_⟩, hm12⟩ <;> first | rfl | simp [hc11]
    clear hm7
    rcases ite_some hm13 with ⟨hc14, hm15⟩ | ⟨hc14, hm16⟩
    · clear hm13
      simp [hc11, hc14]
      refine hk10 _ _ ⟨true, ?_, ⟨?_, ?_⟩, hm15⟩ <;> first | rfl | simp [hc11, hc14]
    clear hm13
    obtain ⟨x17, hx18, hm19⟩ := bind1_some hm16
    clear hm16
    try dsimp only at hm19
    rcases ite_some hm19 with ⟨hc20, hm21⟩ | ⟨hc20, hm22⟩
    rotate_left
    · clear hm19
      simp [hx18, hc11, hc14, hc20]
      refine hk10 _ _ ⟨false, ?_, ⟨?_, ?_⟩, hm22⟩ <;> first | rfl | simp [hx18, hc11, hc14, hc20]
    clear hm19
    simp [hx18, hc11, hc14, hc20]
    refine hk10 _ _ ⟨(igt (slen a0) 1), ?_, ⟨?_, ?_⟩, hm21⟩ <;> first | rfl | simp [hx18, hc11, hc14, hc20]
  clear hm7
  rintro fr23 h23 ⟨v8, rfl, E23, hm24⟩
  subst hj6
  refine AWp.condK fun A25 B26 ga27 gb28 => ?_
  rcases ite_some hm24 with ⟨hc29, hm30⟩ | ⟨hc29, hm31⟩
  · clear hm24
    simp [E23, hc29]
    apply ga27
    refine AWp.sr [] fun K32 hk33 => ?_
    simp [E23, hc29]
    apply hk33
    refine AWp.ret ?_
    simp only [Option.some.injEq, Prod.mk.injEq] at hm30
    obtain ⟨rfl, rfl⟩ := hm30
    simp [retQ, E23, hc29]
  clear hm24
  simp [E23, hc29]
  apply gb28
  refine AWp.skip ?_
  apply hk4
  refine AWp.sr [] fun K34 hk35 => ?_
  simp [E23, hc29]
  apply hk35
  refine AWp.seqK fun K36 hk37 => ?_
  refine AWp.sr [] fun K38 hk39 => ?_
  simp [E23, hc29]
  apply hk39
  obtain ⟨F40, hF41, hm42⟩ := joinB_some hm31
  clear hm31
  try dsimp only at hm42
  obtain ⟨out43, hl44, hmB45⟩ := bind1_some hm42
  clear hm42
  refine AWp.blockK fun Q46 nn47 ne48 nx49 nr50 => ?_
  refine AWp.loopF (fun n51 fr h => ∃ (v52 : Int) (v53 : Int), H = h ∧ (fr.env 0 = AV.sc (.string a0) ∧ fr.env 4 = AV.sc (.int .i64 v52) ∧ fr.env 5 = AV.sc (.int .i64 v53)) ∧ loopN F40 n51 (v52, v53) = some out43) FU ?_ ?_
  · refine ⟨0, 0, ?_, ⟨?_, ?_, ?_⟩, hl44⟩ <;> first | rfl | simp [E23, hc29]
  rintro n51 fr54 h54 ⟨v52, v53, rfl, E54, hl44⟩ K55 hK56
  rcases n51 with _ | n51
  · rw [loopN_zero] at hl44
    cases hl44
  rw [loopN_succ] at hl44
  obtain ⟨c57, hb58, hk59⟩ := bind1_some hl44
  clear hl44
  rw [hF41] at hb58
  try dsimp only at hb58
  rw [un2_mk] at hb58
  try dsimp only at hb58
  refine AWp.seqK fun K60 hk61 => ?_
  refine AWp.sr [] fun K62 hk63 => ?_
  simp [E54, hc29]
  apply hk63
  refine AWp.condK fun A64 B65 ga66 gb67 => ?_
  rcases ite_some hb58 with ⟨hc68, hm69⟩ | ⟨hc68, hm70⟩
  rotate_left
  · clear hb58
    simp [E54, hc29, hc68]
    apply gb67
    refine AWp.exit ?_
    apply ne48
    obtain rfl := Option.some.inj hm70
    rw [ctlK_brk] at hk59
    obtain rfl := Option.some.inj hk59
    rw [sumK_inl, un2_mk] at hmB45
    try dsimp only at hmB45
    apply hk37
    refine AWp.sr [] fun K71 hk72 => ?_
    simp [E54, hc29, hc68]
    apply hk72
    refine AWp.ret ?_
    simp only [Option.some.injEq, Prod.mk.injEq] at hmB45
    obtain ⟨rfl, rfl⟩ := hmB45
    simp [retQ, E54, hc29, hc68]
  clear hb58
  simp [E54, hc29, hc68]
  apply ga66
  refine AWp.skip ?_
  apply hk61
  refine AWp.seqK fun K73 hk74 => ?_
  refine AWp.blockK fun Q75 nn76 ne77 nx78 nr79 => ?_
  refine AWp.seqK fun K80 hk81 => ?_
  refine AWp.sr [] fun K82 hk83 => ?_
  obtain ⟨x84, hx85, hm86⟩ := bind1_some hm69
  clear hm69
  try dsimp only at hm86
  obtain ⟨x87, hx88, hm89⟩ := bind1_some hm86
  clear hm86
  try dsimp only at hm89
  simp [E54, hx85, hc29, hc68]
  refine CallAt.fn (r_ref14_digit T hx88) ?_
  simp [E54, hx85, hc29, hc68]
  apply hk83
  refine AWp.condK fun A90 B91 ga92 gb93 => ?_
  rcases ite_some hm89 with ⟨hc94, hm95⟩ | ⟨hc94, hm96⟩
  rotate_left
  · clear hm89
    simp [E54, hx85, hc29, hc68, hc94]
    apply ga92
    refine AWp.sr [] fun K97 hk98 => ?_
    simp [E54, hx85, hc29, hc68, hc94]
    apply hk98
    refine AWp.ret ?_
    apply nr79
    apply nr50
    obtain rfl := Option.some.inj hm96
    rw [ctlK_ret] at hk59
    obtain rfl := Option.some.inj hk59
    rw [sumK_inr] at hmB45
    try dsimp only at hmB45
    simp only [Option.some.injEq, Prod.mk.injEq] at hmB45
    obtain ⟨rfl, rfl⟩ := hmB45
    simp [retQ, E54, hx85, hc29, hc68, hc94]
  clear hm89
  simp [E54, hx85, hc29, hc68, hc94]
  apply gb93
  refine AWp.skip ?_
  apply hk81
  refine AWp.region [] (by decide +kernel) ?_
  simp [E54, hx85, hc29, hc68, hc94]
  apply nn76
  apply hk74
  refine AWp.region [] (by decide +kernel) ?_
  simp [E54, hx85, hc29, hc68, hc94]
  obtain rfl := Option.some.inj hm95
  rw [ctlK_next] at hk59
  refine hK56 _ _ n51 (Nat.lt_succ_self _) ⟨(isub .i64 (iadd .i64 (imul .i64 v52 10) (conv .i64 x84)) 48), (iadd .i64 v53 1), ?_, ⟨?_, ?_, ?_⟩, hk59⟩ <;> first | rfl | simp [E54, hx85, hc29, hc68, hc94]

theorem enters35 : entersB Tryd.prog 35 = true := by kernel_rfl

theorem r_ref14_word (T : Tabs) {H : Heap} {a0 : ByteArray} {a1 : Int} {r0 : Tkn} {r1 : Bool} (hm : ref14_word a0 a1 = some (r0, r1)) : ACall Tryd.prog T 35 [AV.sc (.string a0), AV.sc (.int .i64 a1)] H (AV.tuple [Tkn.av r0, AV.sc (.bool r1)]) H := by
  rw [ref14_word] at hm
  refine ACallP.intro (fn := Tryd.f35) Tryd.func35 rfl enters35 (Nat.le_of_ble_eq_true rfl) ?_
  refine AWp.sr [] fun K1 hk2 => ?_
  simp
  apply hk2
  refine AWp.seqK fun K3 hk4 => ?_
  refine AWp.sr [] fun K5 hk6 => ?_
  obtain ⟨x7, x8, hx9, hm10⟩ := bind2_some hm
  clear hm
  try dsimp only at hm10
  simp
  refine CallAt.fn (r_ref14_number T hx9) ?_
  simp
  apply hk6
  refine AWp.sr [] fun K11 hk12 => ?_
  simp
  apply hk12
  refine AWp.condK fun A13 B14 ga15 gb16 => ?_
  rcases ite_some hm10 with ⟨hc17, hm18⟩ | ⟨hc17, hm19⟩
  · clear hm10
    simp [hc17]
    apply ga15
    refine AWp.sr [] fun K20 hk21 => ?_
    simp [hc17]
    apply hk21
    refine AWp.ret ?_
    simp only [Option.some.injEq, Prod.mk.injEq] at hm18
    obtain ⟨rfl, rfl⟩ := hm18
    simp [retQ, hc17]
  clear hm10
  simp [hc17]
  apply gb16
  refine AWp.skip ?_
  apply hk4
  obtain ⟨j22, hj23, hm24⟩ := joinB_some hm19
  clear hm19
  refine AWp.seqP (fun fr h => ∃ (g4_27 : Nat), H = h ∧ (fr.env 0 = AV.sc (.string a0) ∧ fr.env 1 = AV.sc (.int .i64 a1) ∧ fr.env 4 = AV.lptr 4 g4_27 0 ∧ fr.gen 4 = g4_27 ∧ fr.box 4 = some [AV.sc (.int .i64 0), AV.sc (.int .i64 0), AV.sc (.int .i64 0), AV.sc (.string ByteArray.empty)]) ∧ j22 = some (r0, r1)) (fun K25 hk26 => ?_) ?_
  rotate_left
  · clear hm24
    rintro fr27 h27 ⟨g4_27, rfl, E27, hm28⟩
    subst hj23
    refine AWp.sr [] fun K29 hk30 => ?_
    obtain ⟨x31, hx32, hm33⟩ := bind1_some hm28
    clear hm28
    try dsimp only at hm33
    simp [E27, hc17]
    refine CallAt.fn (r_ref14_Name T hx32) ?_
    simp [E27, hc17]
    apply hk30
    refine AWp.ret ?_
    simp only [Option.some.injEq, Prod.mk.injEq] at hm33
    obtain ⟨rfl, rfl⟩ := hm33
    simp [retQ, E27, hc17]
  obtain ⟨j34, hj35, hm36⟩ := joinB_some hm24
  clear hm24
  refine AWp.seqP (fun fr h => ∃ (v37 : Bool) (g4_46 : Nat), H = h ∧ (fr.env 0 = AV.sc (.string a0) ∧ fr.env 1 = AV.sc (.int .i64 a1) ∧ fr.env 4 = AV.lptr 4 g4_46 0 ∧ fr.env 26 = AV.sc (.bool v37) ∧ fr.gen 4 = g4_46 ∧ fr.box 4 = some [AV.sc (.int .i64 0), AV.sc (.int .i64 0), AV.sc (.int .i64 0), AV.sc (.string ByteArray.empty)]) ∧ j34 v37 = some (r0, r1)) (fun K38 hk39 => ?_) ?_
  · refine AWp.region [] (by decide +kernel) ?_
    obtain ⟨x40, hx41, hm42⟩ := bind1_some hm36
    clear hm36
    try dsimp only at hm42
    rcases ite_some hm42 with ⟨hc43, hm44⟩ | ⟨hc43, hm45⟩
    rotate_left
    · clear hm42
      simp [hx41, hc17, hc43]
      refine hk39 _ _ ⟨false, 1, ?_, ⟨?_, ?_, ?_, ?_, ?_, ?_⟩, hm45⟩ <;> first | rfl | simp [hx41, hc17, hc43]
    clear hm42
    simp [hx41, hc17, hc43]
    refine hk39 _ _ ⟨(igt (slen a0) 1), 1, ?_, ⟨?_, ?_, ?_, ?_, ?_, ?_⟩, hm44⟩ <;> first | rfl | simp [hx41, hc17, hc43]
  clear hm36
  rintro fr46 h46 ⟨v37, g4_46, rfl, E46, hm47⟩
  subst hj35
  refine AWp.condK fun A48 B49 ga50 gb51 => ?_
  rcases ite_some hm47 with ⟨hc52, hm53⟩ | ⟨hc52, hm54⟩
  rotate_left
  · clear hm47
    simp [E46, hc17, hc52]
    apply gb51
    refine AWp.skip ?_
    refine hk26 _ _ ⟨g4_46, ?_, ⟨?_, ?_, ?_, ?_, ?_⟩, hm54⟩ <;> first | rfl | simp [E46, hc17, hc52]
  clear hm47
  simp [E46, hc17, hc52]
  apply ga50
  refine AWp.sr [] fun K55 hk56 => ?_
  obtain ⟨x57, hx58, hm59⟩ := bind1_some hm53
  clear hm53
  try dsimp only at hm59
  obtain ⟨x60, x61, hx62, hm63⟩ := bind2_some hm59
  clear hm59
  try dsimp only at hm63
  simp [E46, hx58, hc17, hc52]
  refine CallAt.fn (r_ref14_number T hx62) ?_
  simp [E46, hx58, hc17, hc52]
  apply hk56
  refine AWp.sr [] fun K64 hk65 => ?_
  simp [E46, hx58, hc17, hc52]
  apply hk65
  refine AWp.condK fun A66 B67 ga68 gb69 => ?_
  rcases ite_some hm63 with ⟨hc70, hm71⟩ | ⟨hc70, hm72⟩
  rotate_left
  · clear hm63
    simp [E46, hx58, hc17, hc52, hc70]
    apply gb69
    refine AWp.skip ?_
    refine hk26 _ _ ⟨g4_46, ?_, ⟨?_, ?_, ?_, ?_, ?_⟩, hm72⟩ <;> first | rfl | simp [E46, hx58, hc17, hc52, hc70]
  clear hm63
  simp [E46, hx58, hc17, hc52, hc70]
  apply ga68
  refine AWp.sr [] fun K73 hk74 => ?_
  simp [E46, hx58, hc17, hc52, hc70]
  apply hk74
  refine AWp.ret ?_
  simp only [Option.some.injEq, Prod.mk.injEq] at hm71
  obtain ⟨rfl, rfl⟩ := hm71
  simp [retQ, E46, hx58, hc17, hc52, hc70]

theorem enters17 : entersB Tryd.prog 17 = true := by kernel_rfl

theorem r_ref14_Tokens (T : Tabs) {H : Heap} {a0 : ByteArray} {r0 : (List Tkn)} {r1 : Int} (hm : ref14_Tokens a0 = some (r0, r1)) : ACall Tryd.prog T 17 [AV.sc (.string a0)] H (AV.tuple [AV.slice .frz (List.map Tkn.av r0), AV.sc (.int .i64 r1)]) H := by
  rw [ref14_Tokens] at hm
  refine ACallP.intro (fn := Tryd.f17) Tryd.func17 rfl enters17 (Nat.le_of_ble_eq_true rfl) ?_
  refine AWp.sr [] fun K1 hk2 => ?_
  simp
  apply hk2
  refine AWp.seqK fun K3 hk4 => ?_
  refine AWp.sr [] fun K5 hk6 => ?_
  simp
  apply hk6
  refine AWp.condK fun A7 B8 ga9 gb10 => ?_
  rcases ite_some hm with ⟨hc11, hm12⟩ | ⟨hc11, hm13⟩
  · clear hm
    simp [hc11]
    apply ga9
    refine AWp.sr [] fun K14 hk15 => ?_
    simp [hc11]
    apply hk15
    refine AWp.ret ?_
    simp only [Option.some.injEq, Prod.mk.injEq] at hm12
    obtain ⟨rfl, rfl⟩ := hm12
    simp [retQ, hc11]
  clear hm
  simp [hc11]
  apply gb10
  refine AWp.skip ?_
  apply hk4
  refine AWp.sr [] fun K16 hk17 => ?_
  simp [hc11]
  apply hk17
  refine AWp.seqK fun K18 hk19 => ?_
  refine AWp.sr [] fun K20 hk21 => ?_
  simp [hc11]
  apply hk21
  obtain ⟨F22, hF23, hm24⟩ := joinB_some hm13
  clear hm13
  try dsimp only at hm24
  obtain ⟨out25, hl26, hmB27⟩ := bind1_some hm24
  clear hm24
  refine AWp.blockK fun Q28 nn29 ne30 nx31 nr32 => ?_
  refine AWp.loopF (fun n33 fr h => ∃ (v34 : (List Tkn)) (v35 : Int) (tg0_36 : Tag), H = h ∧ (fr.env 0 = AV.sc (.string a0) ∧ fr.env 4 = AV.slice tg0_36 (List.map Tkn.av v34) ∧ fr.env 5 = AV.sc (.int .i64 v35)) ∧ OwnT fr.tab fr.tgen [52, 76, 88] tg0_36 (List.length v34) ∧ loopN F22 n33 (v34, v35) = some out25) FU ?_ ?_
  · refine ⟨[], 0, .full, ?_, ⟨?_, ?_, ?_⟩, OwnT.full, hl26⟩ <;> first | rfl | simp [hc11]
  rintro n33 fr36 h36 ⟨v34, v35, tg0_36, rfl, E36, o0_36, hl26⟩ K37 hK38
  rcases n33 with _ | n33
  · rw [loopN_zero] at hl26
    cases hl26
  rw [loopN_succ] at hl26
  obtain ⟨c39, hb40, hk41⟩ := bind1_some hl26
  clear hl26
  rw [hF23] at hb40
  try dsimp only at hb40
  rw [un2_mk] at hb40
  try dsimp only at hb40
  refine AWp.seqK fun K42 hk43 => ?_
  refine AWp.sr [] fun K44 hk45 => ?_
  simp [E36, hc11]
  apply hk45
  refine AWp.condK fun A46 B47 ga48 gb49 => ?_
  rcases ite_some hb40 with ⟨hc50, hm51⟩ | ⟨hc50, hm52⟩
  rotate_left
  · clear hb40
    simp [E36, hc11, hc50]
    apply gb49
    refine AWp.exit ?_
    apply ne30
    obtain rfl := Option.some.inj hm52
    rw [ctlK_brk] at hk41
    obtain rfl := Option.some.inj hk41
    rw [sumK_inl, un2_mk] at hmB27
    try dsimp only at hmB27
    apply hk19
    refine AWp.seqK fun K53 hk54 => ?_
    refine AWp.sr [] fun K55 hk56 => ?_
    simp [E36, hc11, hc50]
    apply hk56
    refine AWp.condK fun A57 B58 ga59 gb60 => ?_
    rcases ite_some hmB27 with ⟨hc61, hm62⟩ | ⟨hc61, hm63⟩
    · clear hmB27
      simp [E36, hc11, hc50, hc61]
      apply ga59
      refine AWp.sr [] fun K64 hk65 => ?_
      simp [E36, hc11, hc50, hc61]
      apply hk65
      refine AWp.ret ?_
      simp only [Option.some.injEq, Prod.mk.injEq] at hm62
      obtain ⟨rfl, rfl⟩ := hm62
      simp [retQ, E36, hc11, hc50, hc61]
    clear hmB27
    simp [E36, hc11, hc50, hc61]
    apply gb60
    refine AWp.skip ?_
    apply hk54
    refine AWp.sr [] fun K66 hk67 => ?_
    simp [E36, hc11, hc50, hc61]
    apply hk67
    refine AWp.ret ?_
    simp only [Option.some.injEq, Prod.mk.injEq] at hm63
    obtain ⟨rfl, rfl⟩ := hm63
    simp [retQ, E36, hc11, hc50, hc61]
  clear hb40
  simp [E36, hc11, hc50]
  apply ga48
  refine AWp.skip ?_
  apply hk43
  refine AWp.blockK fun Q68 nn69 ne70 nx71 nr72 => ?_
  refine AWp.blockK fun Q73 nn74 ne75 nx76 nr77 => ?_
  obtain ⟨j78, hj79, hm80⟩ := joinB_some hm51
  clear hm51
  refine AWp.seqP (fun fr h => ∃ (v81 : Bool) (tg0_90 : Tag), H = h ∧ (fr.env 0 = AV.sc (.string a0) ∧ fr.env 4 = AV.slice tg0_90 (List.map Tkn.av v34) ∧ fr.env 5 = AV.sc (.int .i64 v35) ∧ fr.env 54 = AV.sc (.bool v81)) ∧ OwnT fr.tab fr.tgen [52, 76, 88] tg0_90 (List.length v34) ∧ j78 v81 = some c39) (fun K82 hk83 => ?_) ?_
  · refine AWp.region [] (by decide +kernel) ?_
    obtain ⟨x84, hx85, hm86⟩ := bind1_some hm80
    clear hm80
    try dsimp only at hm86
    rcases ite_some hm86 with ⟨hc87, hm88⟩ | ⟨hc87, hm89⟩
    · clear hm86
      simp [E36, hx85, hc11, hc50, hc87]
      refine hk83 _ _ ⟨true, tg0_36, ?_, ⟨?_, ?_, ?_, ?_⟩, (OwnT.mono (D := [52, 76, 88]) o0_36 (by decide)), hm88⟩ <;> first | rfl | simp [E36, hx85, hc11, hc50, hc87]
    clear hm86
    simp [E36, hx85, hc11, hc50, hc87]
    refine hk83 _ _ ⟨(ieq x84 10), tg0_36, ?_, ⟨?_, ?_, ?_, ?_⟩, (OwnT.mono (D := [52, 76, 88]) o0_36 (by decide)), hm89⟩ <;> first | rfl | simp [E36, hx85, hc11, hc50, hc87]
  clear hm80
  rintro fr90 h90 ⟨v81, tg0_90, rfl, E90, o0_90, hm91⟩
  subst hj79
  refine AWp.condK fun A92 B93 ga94 gb95 => ?_
  rcases ite_some hm91 with ⟨hc96, hm97⟩ | ⟨hc96, hm98⟩
  · clear hm91
    simp [E90, hc11, hc50, hc96]
    apply ga94
    refine AWp.region [] (by decide +kernel) ?_
    simp [E90, hc11, hc50, hc96]
    apply nn74
    apply nn69
    obtain rfl := Option.some.inj hm97
    rw [ctlK_next] at hk41
    refine hK38 _ _ n33 (Nat.lt_succ_self _) ⟨v34, (iadd .i64 v35 1), tg0_90, ?_, ⟨?_, ?_, ?_⟩, (OwnT.mono (D := [52, 76, 88]) o0_90 (by decide)), hk41⟩ <;> first | rfl | simp [E90, hc11, hc50, hc96]
  clear hm91
  simp [E90, hc11, hc50, hc96]
  apply gb95
  refine AWp.sr [] fun K99 hk100 => ?_
  obtain ⟨x101, hx102, hm103⟩ := bind1_some hm98
  clear hm98
  try dsimp only at hm103
  simp [E90, hx102, hc11, hc50, hc96]
  apply hk100
  refine AWp.condK fun A104 B105 ga106 gb107 => ?_
  rcases ite_some hm103 with ⟨hc108, hm109⟩ | ⟨hc108, hm110⟩
  · clear hm103
    simp [E90, hx102, hc11, hc50, hc96, hc108]
    apply ga106
    refine AWp.sr [] fun K111 hk112 => ?_
    obtain ⟨ha113, hm114⟩ := chk_some hm109
    clear hm109
    simp [E90, hx102, hc11, hc50, hc96, hc108]
    refine AppAt2.own (f := Tkn.av) v34 [(Tkn.mk 1 0 v35 ByteArray.empty)] o0_90 ap30 (by intro x; simp) ha113 (by first | rfl | simp) (by first | rfl | simp) ?_
    simp [E90, hx102, hc11, hc50, hc96, hc108]
    apply hk112
    refine AWp.region [] (by decide +kernel) ?_
    simp [E90, hx102, hc11, hc50, hc96, hc108]
    apply nn74
    apply nn69
    obtain rfl := Option.some.inj hm114
    rw [ctlK_next] at hk41
    refine hK38 _ _ n33 (Nat.lt_succ_self _) ⟨(lapp v34 [(Tkn.mk 1 0 v35 ByteArray.empty)]), (iadd .i64 v35 1), (.loc 76 (fr90.tgen 76 + 1)), ?_, ⟨?_, ?_, ?_⟩, (OwnT.mono (D := [76]) (OwnT.new (D := [76]) (d := 76) (by decide)) (by decide)), hk41⟩ <;> first | rfl | simp [E90, hx102, hc11, hc50, hc96, hc108]
  clear hm103
  simp [E90, hx102, hc11, hc50, hc96, hc108]
  apply gb107
  refine AWp.sr [] fun K115 hk116 => ?_
  simp [E90, hx102, hc11, hc50, hc96, hc108]
  apply hk116
  refine AWp.condK fun A117 B118 ga119 gb120 => ?_
  rcases ite_some hm110 with ⟨hc121, hm122⟩ | ⟨hc121, hm123⟩
  · clear hm110
    simp [E90, hx102, hc11, hc50, hc96, hc108, hc121]
    apply ga119
    refine AWp.sr [] fun K124 hk125 => ?_
    obtain ⟨ha126, hm127⟩ := chk_some hm122
    clear hm122
    simp [E90, hx102, hc11, hc50, hc96, hc108, hc121]
    refine AppAt2.own (f := Tkn.av) v34 [(Tkn.mk 2 0 v35 ByteArray.empty)] o0_90 ap30 (by intro x; simp) ha126 (by first | rfl | simp) (by first | rfl | simp) ?_
    simp [E90, hx102, hc11, hc50, hc96, hc108, hc121]
    apply hk125
    refine AWp.region [] (by decide +kernel) ?_
    simp [E90, hx102, hc11, hc50, hc96, hc108, hc121]
    apply nn74
    apply nn69
    obtain rfl := Option.some.inj hm127
    rw [ctlK_next] at hk41
    refine hK38 _ _ n33 (Nat.lt_succ_self _) ⟨(lapp v34 [(Tkn.mk 2 0 v35 ByteArray.empty)]), (iadd .i64 v35 1), (.loc 88 (fr90.tgen 88 + 1)), ?_, ⟨?_, ?_, ?_⟩, (OwnT.mono (D := [88]) (OwnT.new (D := [88]) (d := 88) (by decide)) (by decide)), hk41⟩ <;> first | rfl | simp [E90, hx102, hc11, hc50, hc96, hc108, hc121]
  clear hm110
  simp [E90, hx102, hc11, hc50, hc96, hc108, hc121]
  apply gb120
  refine AWp.sr [] fun K128 hk129 => ?_
  simp [E90, hx102, hc11, hc50, hc96, hc108, hc121]
  apply hk129
  refine AWp.seqK fun K130 hk131 => ?_
  obtain ⟨F132, hF133, hm134⟩ := joinB_some hm123
  clear hm123
  try dsimp only at hm134
  obtain ⟨out135, hl136, hmB137⟩ := bind1_some hm134
  clear hm134
  refine AWp.blockK fun Q138 nn139 ne140 nx141 nr142 => ?_
  refine AWp.loopF (fun n143 fr h => ∃ (v144 : Int) (tg0_145 : Tag), H = h ∧ (fr.env 0 = AV.sc (.string a0) ∧ fr.env 4 = AV.slice tg0_145 (List.map Tkn.av v34) ∧ fr.env 5 = AV.sc (.int .i64 v35) ∧ fr.env 6 = AV.sc (.int .i64 v144)) ∧ OwnT fr.tab fr.tgen [52, 76, 88] tg0_145 (List.length v34) ∧ loopN F132 n143 v144 = some out135) FU ?_ ?_
  · refine ⟨v35, tg0_90, ?_, ⟨?_, ?_, ?_, ?_⟩, (OwnT.mono (D := [52, 76, 88]) o0_90 (by decide)), hl136⟩ <;> first | rfl | simp [E90, hx102, hc11, hc50, hc96, hc108, hc121]
  rintro n143 fr145 h145 ⟨v144, tg0_145, rfl, E145, o0_145, hl136⟩ K146 hK147
  rcases n143 with _ | n143
  · rw [loopN_zero] at hl136
    cases hl136
  rw [loopN_succ] at hl136
  obtain ⟨c148, hb149, hk150⟩ := bind1_some hl136
  clear hl136
  rw [hF133] at hb149
  try dsimp only at hb149
  refine AWp.seqK fun K151 hk152 => ?_
  obtain ⟨j153, hj154, hm155⟩ := joinB_some hb149
  clear hb149
  refine AWp.seqP (fun fr h => ∃ (v156 : Bool) (tg0_174 : Tag), H = h ∧ (fr.env 0 = AV.sc (.string a0) ∧ fr.env 4 = AV.slice tg0_174 (List.map Tkn.av v34) ∧ fr.env 5 = AV.sc (.int .i64 v35) ∧ fr.env 6 = AV.sc (.int .i64 v144) ∧ fr.env 32 = AV.sc (.bool v156)) ∧ OwnT fr.tab fr.tgen [52, 76, 88] tg0_174 (List.length v34) ∧ j153 v156 = some c148) (fun K157 hk158 => ?_) ?_
  · refine AWp.region [] (by decide +kernel) ?_
    rcases ite_some hm155 with ⟨hc159, hm160⟩ | ⟨hc159, hm161⟩
    rotate_left
    · clear hm155
      simp [E145, hx102, hc11, hc50, hc96, hc108, hc121, hc159]
      refine hk158 _ _ ⟨false, tg0_145, ?_, ⟨?_, ?_, ?_, ?_, ?_⟩, (OwnT.mono (D := [52, 76, 88]) o0_145 (by decide)), hm161⟩ <;> first | rfl | simp [E145, hx102, hc11, hc50, hc96, hc108, hc121, hc159]
    clear hm155
    obtain ⟨x162, hx163, hm164⟩ := bind1_some hm160
    clear hm160
    try dsimp only at hm164
    obtain ⟨x165, hx166, hm167⟩ := bind1_some hm164
    clear hm164
    try dsimp only at hm167
    simp [E145, hx102, hx163, hc11, hc50, hc96, hc108, hc121, hc159]
    refine CallAt.fn (r_ref14_letter T hx166) ?_
    rcases ite_some hm167 with ⟨hc168, hm169⟩ | ⟨hc168, hm170⟩
    · clear hm167
      simp [E145, hx102, hx163, hc11, hc50, hc96, hc108, hc121, hc159, hc168]
      refine hk158 _ _ ⟨true, tg0_145, ?_, ⟨?_, ?_, ?_, ?_, ?_⟩, (OwnT.mono (D := [52, 76, 88]) o0_145 (by decide)), hm169⟩ <;> first | rfl | simp [E145, hx102, hx163, hc11, hc50, hc96, hc108, hc121, hc159, hc168]
    clear hm167
    obtain ⟨x171, hx172, hm173⟩ := bind1_some hm170
    clear hm170
    try dsimp only at hm173
    simp [E145, hx102, hx163, hc11, hc50, hc96, hc108, hc121, hc159, hc168]
    refine CallAt.fn (r_ref14_digit T hx172) ?_
    simp [E145, hx102, hx163, hc11, hc50, hc96, hc108, hc121, hc159, hc168]
    refine hk158 _ _ ⟨x171, tg0_145, ?_, ⟨?_, ?_, ?_, ?_, ?_⟩, (OwnT.mono (D := [52, 76, 88]) o0_145 (by decide)), hm173⟩ <;> first | rfl | simp [E145, hx102, hx163, hc11, hc50, hc96, hc108, hc121, hc159, hc168]
  clear hm155
  rintro fr174 h174 ⟨v156, tg0_174, rfl, E174, o0_174, hm175⟩
  subst hj154
  refine AWp.condK fun A176 B177 ga178 gb179 => ?_
  rcases ite_some hm175 with ⟨hc180, hm181⟩ | ⟨hc180, hm182⟩
  · clear hm175
    simp [E174, hx102, hc11, hc50, hc96, hc108, hc121, hc180]
    apply ga178
    refine AWp.skip ?_
    apply hk152
    refine AWp.blockK fun Q183 nn184 ne185 nx186 nr187 => ?_
    refine AWp.region [] (by decide +kernel) ?_
    simp [E174, hx102, hc11, hc50, hc96, hc108, hc121, hc180]
    apply nn184
    obtain rfl := Option.some.inj hm181
    rw [ctlK_next] at hk150
    refine hK147 _ _ n143 (Nat.lt_succ_self _) ⟨(iadd .i64 v144 1), tg0_174, ?_, ⟨?_, ?_, ?_, ?_⟩, (OwnT.mono (D := [52, 76, 88]) o0_174 (by decide)), hk150⟩ <;> first | rfl | simp [E174, hx102, hc11, hc50, hc96, hc108, hc121, hc180]
  clear hm175
  simp [E174, hx102, hc11, hc50, hc96, hc108, hc121, hc180]
  apply gb179
  refine AWp.exit ?_
  apply ne140
  obtain rfl := Option.some.inj hm182
  rw [ctlK_brk] at hk150
  obtain rfl := Option.some.inj hk150
  rw [sumK_inl] at hmB137
  try dsimp only at hmB137
  apply hk131
  refine AWp.seqK fun K188 hk189 => ?_
  refine AWp.sr [] fun K190 hk191 => ?_
  simp [E174, hx102, hc11, hc50, hc96, hc108, hc121, hc180]
  apply hk191
  refine AWp.condK fun A192 B193 ga194 gb195 => ?_
  rcases ite_some hmB137 with ⟨hc196, hm197⟩ | ⟨hc196, hm198⟩
  · clear hmB137
    simp [E174, hx102, hc11, hc50, hc96, hc108, hc121, hc180, hc196]
    apply ga194
    refine AWp.sr [] fun K199 hk200 => ?_
    simp [E174, hx102, hc11, hc50, hc96, hc108, hc121, hc180, hc196]
    apply hk200
    refine AWp.ret ?_
    apply nr77
    apply nr72
    apply nr32
    obtain rfl := Option.some.inj hm197
    rw [ctlK_ret] at hk41
    obtain rfl := Option.some.inj hk41
    rw [sumK_inr] at hmB27
    try dsimp only at hmB27
    simp only [Option.some.injEq, Prod.mk.injEq] at hmB27
    obtain ⟨rfl, rfl⟩ := hmB27
    simp [retQ, E174, hx102, hc11, hc50, hc96, hc108, hc121, hc180, hc196]
  clear hmB137
  simp [E174, hx102, hc11, hc50, hc96, hc108, hc121, hc180, hc196]
  apply gb195
  refine AWp.skip ?_
  apply hk189
  refine AWp.sr [] fun K201 hk202 => ?_
  obtain ⟨x203, hx204, hm205⟩ := bind1_some hm198
  clear hm198
  try dsimp only at hm205
  obtain ⟨x206, x207, hx208, hm209⟩ := bind2_some hm205
  clear hm205
  try dsimp only at hm209
  simp [E174, hx102, hx204, hc11, hc50, hc96, hc108, hc121, hc180, hc196]
  refine CallAt.fn (r_ref14_word T hx208) ?_
  simp [E174, hx102, hx204, hc11, hc50, hc96, hc108, hc121, hc180, hc196]
  apply hk202
  refine AWp.seqK fun K210 hk211 => ?_
  refine AWp.sr [] fun K212 hk213 => ?_
  simp [E174, hx102, hx204, hc11, hc50, hc96, hc108, hc121, hc180, hc196]
  apply hk213
  refine AWp.condK fun A214 B215 ga216 gb217 => ?_
  rcases ite_some hm209 with ⟨hc218, hm219⟩ | ⟨hc218, hm220⟩
  rotate_left
  · clear hm209
    simp [E174, hx102, hx204, hc11, hc50, hc96, hc108, hc121, hc180, hc196, hc218]
    apply ga216
    refine AWp.sr [] fun K221 hk222 => ?_
    simp [E174, hx102, hx204, hc11, hc50, hc96, hc108, hc121, hc180, hc196, hc218]
    apply hk222
    refine AWp.ret ?_
    apply nr77
    apply nr72
    apply nr32
    obtain rfl := Option.some.inj hm220
    rw [ctlK_ret] at hk41
    obtain rfl := Option.some.inj hk41
    rw [sumK_inr] at hmB27
    try dsimp only at hmB27
    simp only [Option.some.injEq, Prod.mk.injEq] at hmB27
    obtain ⟨rfl, rfl⟩ := hmB27
    simp [retQ, E174, hx102, hx204, hc11, hc50, hc96, hc108, hc121, hc180, hc196, hc218]
  clear hm209
  simp [E174, hx102, hx204, hc11, hc50, hc96, hc108, hc121, hc180, hc196, hc218]
  apply gb217
  refine AWp.skip ?_
  apply hk211
  refine AWp.sr [] fun K223 hk224 => ?_
  obtain ⟨ha225, hm226⟩ := chk_some hm219
  clear hm219
  simp [E174, hx102, hx204, hc11, hc50, hc96, hc108, hc121, hc180, hc196, hc218]
  refine AppAt2.own (f := Tkn.av) v34 [x206] o0_174 ap30 (by intro x; simp) ha225 (by first | rfl | simp) (by first | rfl | simp) ?_
  simp [E174, hx102, hx204, hc11, hc50, hc96, hc108, hc121, hc180, hc196, hc218]
  apply hk224
  refine AWp.region [] (by decide +kernel) ?_
  simp [E174, hx102, hx204, hc11, hc50, hc96, hc108, hc121, hc180, hc196, hc218]
  apply nn74
  apply nn69
  obtain rfl := Option.some.inj hm226
  rw [ctlK_next] at hk41
  refine hK38 _ _ n33 (Nat.lt_succ_self _) ⟨(lapp v34 [x206]), v144, (.loc 52 (fr174.tgen 52 + 1)), ?_, ⟨?_, ?_, ?_⟩, (OwnT.mono (D := [52]) (OwnT.new (D := [52]) (d := 52) (by decide)) (by decide)), hk41⟩ <;> first | rfl | simp [E174, hx102, hx204, hc11, hc50, hc96, hc108, hc121, hc180, hc196, hc218]

theorem enters18 : entersB Tryd.prog 18 = true := by kernel_rfl

theorem r_law14_same (T : Tabs) {H : Heap} {a0 : (List Tkn)} {a1 : (List Tkn)} {r0 : Bool} (hm : law14_same a0 a1 = some r0) : ACall Tryd.prog T 18 [AV.slice .frz (List.map Tkn.av a0), AV.slice .frz (List.map Tkn.av a1)] H (AV.sc (.bool r0)) H := by
  rw [law14_same] at hm
  refine ACallP.intro (fn := Tryd.f18) Tryd.func18 rfl enters18 (Nat.le_of_ble_eq_true rfl) ?_
  refine AWp.sr [] fun K1 hk2 => ?_
  simp
  apply hk2
  refine AWp.seqK fun K3 hk4 => ?_
  refine AWp.sr [] fun K5 hk6 => ?_
  simp
  apply hk6
  refine AWp.condK fun A7 B8 ga9 gb10 => ?_
  rcases ite_some hm with ⟨hc11, hm12⟩ | ⟨hc11, hm13⟩
  · clear hm
    simp [hc11]
    apply ga9
    refine AWp.sr [] fun K14 hk15 => ?_
    simp [hc11]
    apply hk15
    refine AWp.ret ?_
    obtain rfl := Option.some.inj hm12
    simp [retQ, hc11]
  clear hm
  simp [hc11]
  apply gb10
  refine AWp.skip ?_
  apply hk4
  refine AWp.seqK fun K16 hk17 => ?_
  refine AWp.sr [] fun K18 hk19 => ?_
  simp [hc11]
  apply hk19
  obtain ⟨hok20, hm21⟩ := chk_some hm13
  clear hm13
  obtain ⟨F22, hF23, hm24⟩ := joinB_some hm21
  clear hm21
  try dsimp only at hm24
  obtain ⟨out25, hl26, hmB27⟩ := bind1_some hm24
  clear hm24
  refine AWp.blockK fun Q28 nn29 ne30 nx31 nr32 => ?_
  refine AWp.loopF (fun n33 fr h => ∃ (i34 : Nat) (j35 : Int), H = h ∧ (fr.env 0 = AV.slice .frz (List.map Tkn.av a0) ∧ fr.env 1 = AV.slice .frz (List.map Tkn.av a1) ∧ fr.env 12 = AV.sc (.int .i64 (llen a0)) ∧ fr.env 13 = AV.sc (.int .i64 j35)) ∧ j35 = (i34 : Int) ∧ i34 + n33 = List.length a0 ∧ forR F22 (List.drop i34 a0) i34 () = some out25) (List.length a0) ?_ ?_
  · refine ⟨0, 0, ?_, ⟨?_, ?_, ?_, ?_⟩, rfl, (by simp), hl26⟩ <;> first | rfl | simp [hc11]
  rintro n33 fr36 h36 ⟨i34, j35, rfl, E36, hj37, hi38, hl26⟩ K39 hK40
  rcases n33 with _ | n33
  · have hlt41 := ilt_notJ (l := a0) hj37 (by omega)
    refine AWp.sr [] fun K42 hk43 => ?_
    simp [E36, hlt41, hc11]
    apply hk43
    refine AWp.seqK fun K44 hk45 => ?_
    refine AWp.condK fun A46 B47 ga48 gb49 => ?_
    simp [E36, hlt41, hc11]
    apply gb49
    refine AWp.exit ?_
    apply ne30
    rw [List.drop_eq_nil_of_le (by omega), forR_nil] at hl26
    obtain rfl := Option.some.inj hl26
    rw [sumK_inl] at hmB27
    try dsimp only at hmB27
    apply hk17
    refine AWp.sr [] fun K50 hk51 => ?_
    simp [E36, hlt41, hc11]
    apply hk51
    refine AWp.ret ?_
    obtain rfl := Option.some.inj hmB27
    simp [retQ, E36, hlt41, hc11]
  have hlt41 := ilt_ofJ (l := a0) hj37 (by omega)
  obtain ⟨x52, hdn33, hg53⟩ := drop_ltJ (l := a0) hj37 (by omega)
  rw [hdn33, forR_cons] at hl26
  obtain ⟨c54, hb55, hk56⟩ := bind1_some hl26
  clear hl26
  rw [hF23, ← hj37] at hb55
  try dsimp only at hb55
  refine AWp.sr [] fun K57 hk58 => ?_
  simp [E36, hlt41, hg53, hc11]
  apply hk58
  refine AWp.seqK fun K59 hk60 => ?_
  refine AWp.condK fun A61 B62 ga63 gb64 => ?_
  simp [E36, hlt41, hg53, hc11]
  apply ga63
  refine AWp.skip ?_
  apply hk60
  refine AWp.seqK fun K65 hk66 => ?_
  refine AWp.blockK fun Q67 nn68 ne69 nx70 nr71 => ?_
  refine AWp.sr [] fun K72 hk73 => ?_
  simp [E36, hlt41, hg53, hc11]
  apply hk73
  refine AWp.seqK fun K74 hk75 => ?_
  refine AWp.regionD [] false mixed (by decide +kernel) (by decide +kernel) ?_
  obtain ⟨x76, hx77, hm78⟩ := bind1_some hb55
  clear hb55
  try dsimp only at hm78
  simp [E36, hlt41, hg53, hx77, hc11]
  apply hk75
  refine AWp.condK fun A79 B80 ga81 gb82 => ?_
  rcases ite_some hm78 with ⟨hc83, hm84⟩ | ⟨hc83, hm85⟩
  rotate_left
  · clear hm78
    simp [E36, hlt41, hg53, hx77, hc11, hc83]
    apply ga81
    refine AWp.sr [] fun K86 hk87 => ?_
    simp [E36, hlt41, hg53, hx77, hc11, hc83]
    apply hk87
    refine AWp.ret ?_
    apply nr71
    apply nr32
    obtain rfl := Option.some.inj hm85
    rw [ctlK_ret] at hk56
    obtain rfl := Option.some.inj hk56
    rw [sumK_inr] at hmB27
    try dsimp only at hmB27
    obtain rfl := Option.some.inj hmB27
    simp [retQ, E36, hlt41, hg53, hx77, hc11, hc83]
  clear hm78
  simp [E36, hlt41, hg53, hx77, hc11, hc83]
  apply gb82
  refine AWp.skip ?_
  apply nn68
  apply hk66
  refine AWp.region [] (by decide +kernel) ?_
  simp [E36, hlt41, hg53, hx77, hc11, hc83]
  obtain rfl := Option.some.inj hm84
  rw [ctlK_next] at hk56
  refine hK40 _ _ n33 (Nat.lt_succ_self _) ⟨(i34 + 1), (iadd .i64 j35 1), ?_, ⟨?_, ?_, ?_, ?_⟩, (iadd_idxJ hj37 (by omega) hok20), (by omega), hk56⟩ <;> first | rfl | simp [E36, hlt41, hg53, hx77, hc11, hc83]

theorem enters21 : entersB Tryd.prog 21 = true := by kernel_rfl

theorem r_ref14_Same (T : Tabs) {H : Heap} {a0 : (List Tkn)} {a1 : (List Tkn)} {r0 : Bool} (hm : ref14_Same a0 a1 = some r0) : ACall Tryd.prog T 21 [AV.slice .frz (List.map Tkn.av a0), AV.slice .frz (List.map Tkn.av a1)] H (AV.sc (.bool r0)) H := by
  rw [ref14_Same] at hm
  refine ACallP.intro (fn := Tryd.f21) Tryd.func21 rfl enters21 (Nat.le_of_ble_eq_true rfl) ?_
  refine AWp.sr [] fun K1 hk2 => ?_
  simp
  apply hk2
  refine AWp.seqK fun K3 hk4 => ?_
  refine AWp.sr [] fun K5 hk6 => ?_
  simp
  apply hk6
  refine AWp.condK fun A7 B8 ga9 gb10 => ?_
  rcases ite_some hm with ⟨hc11, hm12⟩ | ⟨hc11, hm13⟩
  · clear hm
    simp [hc11]
    apply ga9
    refine AWp.sr [] fun K14 hk15 => ?_
    simp [hc11]
    apply hk15
    refine AWp.ret ?_
    obtain rfl := Option.some.inj hm12
    simp [retQ, hc11]
  clear hm
  simp [hc11]
  apply gb10
  refine AWp.skip ?_
  apply hk4
  refine AWp.seqK fun K16 hk17 => ?_
  refine AWp.sr [] fun K18 hk19 => ?_
  simp [hc11]
  apply hk19
  obtain ⟨hok20, hm21⟩ := chk_some hm13
  clear hm13
  obtain ⟨F22, hF23, hm24⟩ := joinB_some hm21
  clear hm21
  try dsimp only at hm24
  obtain ⟨out25, hl26, hmB27⟩ := bind1_some hm24
  clear hm24
  refine AWp.blockK fun Q28 nn29 ne30 nx31 nr32 => ?_
  refine AWp.loopF (fun n33 fr h => ∃ (i34 : Nat) (j35 : Int), H = h ∧ (fr.env 0 = AV.slice .frz (List.map Tkn.av a0) ∧ fr.env 1 = AV.slice .frz (List.map Tkn.av a1) ∧ fr.env 12 = AV.sc (.int .i64 (llen a0)) ∧ fr.env 13 = AV.sc (.int .i64 j35)) ∧ j35 = (i34 : Int) ∧ i34 + n33 = List.length a0 ∧ forR F22 (List.drop i34 a0) i34 () = some out25) (List.length a0) ?_ ?_
  · refine ⟨0, 0, ?_, ⟨?_, ?_, ?_, ?_⟩, rfl, (by simp), hl26⟩ <;> first | rfl | simp [hc11]
  rintro n33 fr36 h36 ⟨i34, j35, rfl, E36, hj37, hi38, hl26⟩ K39 hK40
  rcases n33 with _ | n33
  · have hlt41 := ilt_notJ (l := a0) hj37 (by omega)
    refine AWp.sr [] fun K42 hk43 => ?_
    simp [E36, hlt41, hc11]
    apply hk43
    refine AWp.seqK fun K44 hk45 => ?_
    refine AWp.condK fun A46 B47 ga48 gb49 => ?_
    simp [E36, hlt41, hc11]
    apply gb49
    refine AWp.exit ?_
    apply ne30
    rw [List.drop_eq_nil_of_le (by omega), forR_nil] at hl26
    obtain rfl := Option.some.inj hl26
    rw [sumK_inl] at hmB27
    try dsimp only at hmB27
    apply hk17
    refine AWp.sr [] fun K50 hk51 => ?_
    simp [E36, hlt41, hc11]
    apply hk51
    refine AWp.ret ?_
    obtain rfl := Option.some.inj hmB27
    simp [retQ, E36, hlt41, hc11]
  have hlt41 := ilt_ofJ (l := a0) hj37 (by omega)
  obtain ⟨x52, hdn33, hg53⟩ := drop_ltJ (l := a0) hj37 (by omega)
  rw [hdn33, forR_cons] at hl26
  obtain ⟨c54, hb55, hk56⟩ := bind1_some hl26
  clear hl26
  rw [hF23, ← hj37] at hb55
  try dsimp only at hb55
  refine AWp.sr [] fun K57 hk58 => ?_
  simp [E36, hlt41, hg53, hc11]
  apply hk58
  refine AWp.seqK fun K59 hk60 => ?_
  refine AWp.condK fun A61 B62 ga63 gb64 => ?_
  simp [E36, hlt41, hg53, hc11]
  apply ga63
  refine AWp.skip ?_
  apply hk60
  refine AWp.seqK fun K65 hk66 => ?_
  refine AWp.blockK fun Q67 nn68 ne69 nx70 nr71 => ?_
  refine AWp.sr [] fun K72 hk73 => ?_
  simp [E36, hlt41, hg53, hc11]
  apply hk73
  obtain ⟨j74, hj75, hm76⟩ := joinB_some hb55
  clear hb55
  refine AWp.seqP (fun fr h => ∃ (v77 : Bool), H = h ∧ (fr.env 0 = AV.slice .frz (List.map Tkn.av a0) ∧ fr.env 1 = AV.slice .frz (List.map Tkn.av a1) ∧ fr.env 12 = AV.sc (.int .i64 (llen a0)) ∧ fr.env 13 = AV.sc (.int .i64 j35) ∧ fr.env 52 = AV.sc (.bool v77)) ∧ j74 v77 = some c54) (fun K78 hk79 => ?_) ?_
  · refine AWp.regionD [] false mixed (by decide +kernel) (by decide +kernel) ?_
    obtain ⟨x80, hx81, hm82⟩ := bind1_some hm76
    clear hm76
    try dsimp only at hm82
    rcases ite_some hm82 with ⟨hc83, hm84⟩ | ⟨hc83, hm85⟩
    · clear hm82
      simp [E36, hlt41, hg53, hx81, hc11, hc83]
      refine hk79 _ _ ⟨true, ?_, ⟨?_, ?_, ?_, ?_, ?_⟩, hm84⟩ <;> first | rfl | simp [E36, hlt41, hg53, hx81, hc11, hc83]
    clear hm82
    rcases ite_some hm85 with ⟨hc86, hm87⟩ | ⟨hc86, hm88⟩
    · clear hm85
      simp [E36, hlt41, hg53, hx81, hc11, hc83, hc86]
      refine hk79 _ _ ⟨true, ?_, ⟨?_, ?_, ?_, ?_, ?_⟩, hm87⟩ <;> first | rfl | simp [E36, hlt41, hg53, hx81, hc11, hc83, hc86]
    clear hm85
    simp [E36, hlt41, hg53, hx81, hc11, hc83, hc86]
    refine hk79 _ _ ⟨(sne x52.text x80.text), ?_, ⟨?_, ?_, ?_, ?_, ?_⟩, hm88⟩ <;> first | rfl | simp [E36, hlt41, hg53, hx81, hc11, hc83, hc86]
  clear hm76
  rintro fr89 h89 ⟨v77, rfl, E89, hm90⟩
  subst hj75
  refine AWp.condK fun A91 B92 ga93 gb94 => ?_
  rcases ite_some hm90 with ⟨hc95, hm96⟩ | ⟨hc95, hm97⟩
  · clear hm90
    simp [E89, hlt41, hg53, hc11, hc95]
    apply ga93
    refine AWp.sr [] fun K98 hk99 => ?_
    simp [E89, hlt41, hg53, hc11, hc95]
    apply hk99
    refine AWp.ret ?_
    apply nr71
    apply nr32
    obtain rfl := Option.some.inj hm96
    rw [ctlK_ret] at hk56
    obtain rfl := Option.some.inj hk56
    rw [sumK_inr] at hmB27
    try dsimp only at hmB27
    obtain rfl := Option.some.inj hmB27
    simp [retQ, E89, hlt41, hg53, hc11, hc95]
  clear hm90
  simp [E89, hlt41, hg53, hc11, hc95]
  apply gb94
  refine AWp.skip ?_
  apply nn68
  apply hk66
  refine AWp.region [] (by decide +kernel) ?_
  simp [E89, hlt41, hg53, hc11, hc95]
  obtain rfl := Option.some.inj hm97
  rw [ctlK_next] at hk56
  refine hK40 _ _ n33 (Nat.lt_succ_self _) ⟨(i34 + 1), (iadd .i64 j35 1), ?_, ⟨?_, ?_, ?_, ?_⟩, (iadd_idxJ hj37 (by omega) hok20), (by omega), hk56⟩ <;> first | rfl | simp [E89, hlt41, hg53, hc11, hc95]

theorem enters7 : entersB Tryd.prog 7 = true := by kernel_rfl

theorem r_law14_LexisBack (T : Tabs) (hT : LexT T) {a0 : (List Int)} {a1 : (List Tkn)} {r0 : Bool} (hm : law14_LexisBack a0 a1 = some r0) : ACallP Tryd.prog T 7 [AV.slice .frz (List.map (fun n => AV.sc (Value.int .i64 n)) a0), AV.slice .frz (List.map Tkn.av a1)] [] (fun x _ => x = AV.sc (.bool r0)) := by
  rw [law14_LexisBack] at hm
  refine ACallP.intro (fn := Tryd.f7) Tryd.func7 rfl enters7 (Nat.le_of_ble_eq_true rfl) ?_
  refine AWp.sr [] fun K1 hk2 => ?_
  simp [hT]
  apply hk2
  refine AWp.seqK fun K3 hk4 => ?_
  refine AWp.sr [] fun K5 hk6 => ?_
  obtain ⟨x7, hx8, hm9⟩ := bind1_some hm
  clear hm
  try dsimp only at hm9
  simp [hT]
  refine CallAt.fn (r_law14_sane T hT hx8) ?_
  simp [hT]
  apply hk6
  refine AWp.condK fun A10 B11 ga12 gb13 => ?_
  rcases ite_some hm9 with ⟨hc14, hm15⟩ | ⟨hc14, hm16⟩
  rotate_left
  · clear hm9
    simp [hT, hc14]
    apply ga12
    refine AWp.sr [] fun K17 hk18 => ?_
    simp [hT, hc14]
    apply hk18
    refine AWp.ret ?_
    obtain rfl := Option.some.inj hm16
    simp [retQ, hT, hc14]
  clear hm9
  simp [hT, hc14]
  apply gb13
  refine AWp.skip ?_
  apply hk4
  refine AWp.seqK fun K19 hk20 => ?_
  obtain ⟨j21, hj22, hm23⟩ := joinB_some hm15
  clear hm15
  refine AWp.seqP (fun fr h => ∃ (v24 : Bool), ([] : Heap) = h ∧ (fr.env 0 = AV.slice .frz (List.map (fun n => AV.sc (Value.int .i64 n)) a0) ∧ fr.env 1 = AV.slice .frz (List.map Tkn.av a1) ∧ fr.env 29 = AV.sc (.bool v24)) ∧ j21 v24 = some r0) (fun K25 hk26 => ?_) ?_
  · refine AWp.region [] (by decide +kernel) ?_
    obtain ⟨x27, hx28, hm29⟩ := bind1_some hm23
    clear hm23
    try dsimp only at hm29
    simp [hT, hc14]
    refine CallAt.fn (r_mk_Few T hx28) ?_
    rcases ite_some hm29 with ⟨hc30, hm31⟩ | ⟨hc30, hm32⟩
    rotate_left
    · clear hm29
      simp [hT, hc14, hc30]
      refine hk26 _ _ ⟨true, ?_, ⟨?_, ?_, ?_⟩, hm32⟩ <;> first | rfl | simp [hT, hc14, hc30]
    clear hm29
    simp [hT, hc14, hc30]
    refine hk26 _ _ ⟨(igt (llen a1) 300), ?_, ⟨?_, ?_, ?_⟩, hm31⟩ <;> first | rfl | simp [hT, hc14, hc30]
  clear hm23
  rintro fr33 h33 ⟨v24, rfl, E33, hm34⟩
  subst hj22
  refine AWp.condK fun A35 B36 ga37 gb38 => ?_
  rcases ite_some hm34 with ⟨hc39, hm40⟩ | ⟨hc39, hm41⟩
  · clear hm34
    simp [E33, hT, hc14, hc39]
    apply ga37
    refine AWp.sr [] fun K42 hk43 => ?_
    simp [E33, hT, hc14, hc39]
    apply hk43
    refine AWp.ret ?_
    obtain rfl := Option.some.inj hm40
    simp [retQ, E33, hT, hc14, hc39]
  clear hm34
  simp [E33, hT, hc14, hc39]
  apply gb38
  refine AWp.skip ?_
  apply hk20
  refine AWp.sr [] fun K44 hk45 => ?_
  obtain ⟨x46, hx47, hm48⟩ := bind1_some hm41
  clear hm41
  try dsimp only at hm48
  simp [E33, hT, hc14, hc39]
  refine CallAt.fn (r_mk_New T hx47) ?_
  simp [E33, hT, hc14, hc39]
  apply hk45
  refine AWp.sr [] fun K49 hk50 => ?_
  simp [E33, hT, hc14, hc39]
  apply hk50
  refine AWp.seqK fun K51 hk52 => ?_
  refine AWp.sr [] fun K53 hk54 => ?_
  simp [E33, hT, hc14, hc39]
  apply hk54
  obtain ⟨hok55, hm56⟩ := chk_some hm48
  clear hm48
  obtain ⟨F57, hF58, hm59⟩ := joinB_some hm56
  clear hm56
  try dsimp only at hm59
  obtain ⟨out60, hl61, hmB62⟩ := bind1_some hm59
  clear hm59
  refine AWp.blockK fun Q63 nn64 ne65 nx66 nr67 => ?_
  refine AWp.loopF (fun n68 fr h => ∃ (i69 : Nat) (j70 : Int) (v71 : (List Tkn)) (tg0_72 : Tag), hset [[]] 0 [AV.slice .frz (List.map (fun n => AV.sc (Value.int .i64 n)) x46.l), AV.sc (.int .i64 x46.atF)] = h ∧ (fr.env 5 = AV.gptr 0 0 ∧ fr.env 6 = AV.slice tg0_72 (List.map Tkn.av v71) ∧ fr.env 32 = AV.slice .frz (List.map Tkn.av a1) ∧ fr.env 33 = AV.sc (.int .i64 (llen a1)) ∧ fr.env 34 = AV.sc (.int .i64 j70)) ∧ OwnT fr.tab fr.tgen [64] tg0_72 (List.length v71) ∧ j70 = (i69 : Int) ∧ i69 + n68 = List.length a1 ∧ forR F57 (List.drop i69 a1) i69 v71 = some out60) (List.length a1) ?_ ?_
  · refine ⟨0, 0, [], .full, ?_, ⟨?_, ?_, ?_, ?_, ?_⟩, OwnT.full, rfl, (by simp), hl61⟩ <;> first | rfl | simp [E33, hT, hc14, hc39]
  rintro n68 fr72 h72 ⟨i69, j70, v71, tg0_72, rfl, E72, o0_72, hj73, hi74, hl61⟩ K75 hK76
  rcases n68 with _ | n68
  rotate_left
  · have hlt77 := ilt_ofJ (l := a1) hj73 (by omega)
    obtain ⟨x78, hdn68, hg79⟩ := drop_ltJ (l := a1) hj73 (by omega)
    rw [hdn68, forR_cons] at hl61
    obtain ⟨c80, hb81, hk82⟩ := bind1_some hl61
    clear hl61
    rw [hF58, ← hj73] at hb81
    try dsimp only at hb81
    refine AWp.sr [] fun K83 hk84 => ?_
    simp [E72, hT, hlt77, hg79, hc14, hc39]
    apply hk84
    refine AWp.seqK fun K85 hk86 => ?_
    refine AWp.condK fun A87 B88 ga89 gb90 => ?_
    simp [E72, hT, hlt77, hg79, hc14, hc39]
    apply ga89
    refine AWp.skip ?_
    apply hk86
    refine AWp.seqK fun K91 hk92 => ?_
    refine AWp.blockK fun Q93 nn94 ne95 nx96 nr97 => ?_
    refine AWp.sr [] fun K98 hk99 => ?_
    simp [E72, hT, hlt77, hg79, hc14, hc39]
    apply hk99
    refine AWp.sr [] fun K100 hk101 => ?_
    obtain ⟨x102, hx103, hm104⟩ := bind1_some hb81
    clear hb81
    try dsimp only at hm104
    simp [E72, hT, hlt77, hg79, hc14, hc39]
    refine CallAt.fn (r_mk_Mod T hx103) ?_
    simp [E72, hT, hlt77, hg79, hc14, hc39]
    apply hk101
    obtain ⟨j105, hj106, hm107⟩ := joinB_some hm104
    clear hm104
    refine AWp.seqP (fun fr h => ∃ (v108 : Int) (v109 : ByteArray) (tg0_112 : Tag) (g9_112 : Nat), hset [[]] 0 [AV.slice .frz (List.map (fun n => AV.sc (Value.int .i64 n)) x46.l), AV.sc (.int .i64 x46.atF)] = h ∧ (fr.env 5 = AV.gptr 0 0 ∧ fr.env 6 = AV.slice tg0_112 (List.map Tkn.av v71) ∧ fr.env 9 = AV.lptr 9 g9_112 0 ∧ fr.env 32 = AV.slice .frz (List.map Tkn.av a1) ∧ fr.env 33 = AV.sc (.int .i64 (llen a1)) ∧ fr.env 34 = AV.sc (.int .i64 j70) ∧ fr.gen 9 = g9_112 ∧ fr.box 9 = some [AV.sc (.int .i64 (iadd .i64 1 x102)), AV.sc (.int .i64 v108), AV.sc (.int .i64 0), AV.sc (.string v109)]) ∧ OwnT fr.tab fr.tgen [64] tg0_112 (List.length v71) ∧ j105 v108 v109 = some c80) (fun K110 hk111 => ?_) ?_
    rotate_left
    · clear hm107
      rintro fr112 h112 ⟨v108, v109, tg0_112, g9_112, rfl, E112, o0_112, hm113⟩
      subst hj106
      refine AWp.region [] (by decide +kernel) ?_
      obtain ⟨ha114, hm115⟩ := chk_some hm113
      clear hm113
      simp [E112, hT, hlt77, hg79, hc14, hc39]
      refine AppAt2.own (f := Tkn.av) v71 [(Tkn.mk (iadd .i64 1 x102) v108 0 v109)] o0_112 ap30 (by intro x; simp) ha114 (by first | rfl | simp) (by first | rfl | simp) ?_
      simp [E112, hT, hlt77, hg79, hc14, hc39]
      apply nn94
      apply hk92
      refine AWp.region [] (by decide +kernel) ?_
      simp [E112, hT, hlt77, hg79, hc14, hc39]
      obtain rfl := Option.some.inj hm115
      rw [ctlK_next] at hk82
      refine hK76 _ _ n68 (Nat.lt_succ_self _) ⟨(i69 + 1), (iadd .i64 j70 1), (lapp v71 [(Tkn.mk (iadd .i64 1 x102) v108 0 v109)]), (.loc 64 (fr112.tgen 64 + 1)), ?_, ⟨?_, ?_, ?_, ?_, ?_⟩, (OwnT.mono (D := [64]) (OwnT.new (D := [64]) (d := 64) (by decide)) (by decide)), (iadd_idxJ hj73 (by omega) hok55), (by omega), hk82⟩ <;> first | rfl | simp [E112, hT, hlt77, hg79, hc14, hc39]
    refine AWp.sr [] fun K116 hk117 => ?_
    simp [E72, hT, hlt77, hg79, hc14, hc39]
    apply hk117
    refine AWp.blockK fun Q118 nn119 ne120 nx121 nr122 => ?_
    refine AWp.sr [] fun K123 hk124 => ?_
    simp [E72, hT, hlt77, hg79, hc14, hc39]
    apply hk124
    refine AWp.condK fun A125 B126 ga127 gb128 => ?_
    rcases ite_some hm107 with ⟨hc129, hm130⟩ | ⟨hc129, hm131⟩
    · clear hm107
      simp [E72, hT, hlt77, hg79, hc14, hc39, hc129]
      apply ga127
      refine AWp.region [] (by decide +kernel) ?_
      obtain ⟨x132, hx133, hm134⟩ := bind1_some hm130
      clear hm130
      try dsimp only at hm134
      simp [E72, hT, hlt77, hg79, hc14, hc39, hc129]
      refine CallAt.fn (r_mk_Mod T hx133) ?_
      obtain ⟨L135, hL136, hm137⟩ := joinB_some hm134
      clear hm134
      try dsimp only at hm137
      have hf138 : [AV.sc (.string (ByteArray.mk #[97])), AV.sc (.string (ByteArray.mk #[115, 117, 99, 99])), AV.sc (.string (ByteArray.mk #[120, 121])), AV.sc (.string (ByteArray.mk #[120])), AV.sc (.string (ByteArray.mk #[101, 113]))] = List.map (fun s => AV.sc (Value.string s)) L135 := by rw [hL136]; rfl
      obtain ⟨x139, hx140, hm141⟩ := bind1_some hm137
      clear hm137
      try dsimp only at hm141
      simp [E72, hT, hlt77, hg79, hf138, hx140, hc14, hc39, hc129]
      apply nn119
      refine hk111 _ _ ⟨0, x139, tg0_72, (fr72.gen 9 + 1), ?_, ⟨?_, ?_, ?_, ?_, ?_, ?_, ?_, ?_⟩, (OwnT.mono (D := [64]) o0_72 (by decide)), hm141⟩ <;> first | rfl | simp [E72, hT, hlt77, hg79, hf138, hx140, hc14, hc39, hc129]
    clear hm107
    simp [E72, hT, hlt77, hg79, hc14, hc39, hc129]
    apply gb128
    refine AWp.seqP (fun fr h => ∃ (tg0_151 : Tag) (g8_151 : Nat) (g9_151 : Nat), hset [[]] 0 [AV.slice .frz (List.map (fun n => AV.sc (Value.int .i64 n)) x46.l), AV.sc (.int .i64 x46.atF)] = h ∧ (fr.env 5 = AV.gptr 0 0 ∧ fr.env 6 = AV.slice tg0_151 (List.map Tkn.av v71) ∧ fr.env 8 = AV.lptr 8 g8_151 0 ∧ fr.env 9 = AV.lptr 9 g9_151 0 ∧ fr.env 32 = AV.slice .frz (List.map Tkn.av a1) ∧ fr.env 33 = AV.sc (.int .i64 (llen a1)) ∧ fr.env 34 = AV.sc (.int .i64 j70) ∧ fr.env 54 = AV.sc (.bool (sel (ieq (iadd .i64 1 x102) 4) true (ieq (iadd .i64 1 x102) 5))) ∧ fr.gen 8 = g8_151 ∧ fr.box 8 = some [AV.sc (.int .i64 x78.kind), AV.sc (.int .i64 x78.num), AV.sc (.int .i64 x78.atF), AV.sc (.string x78.text)] ∧ fr.gen 9 = g9_151 ∧ fr.box 9 = some [AV.sc (.int .i64 (iadd .i64 1 x102)), AV.sc (.int .i64 0), AV.sc (.int .i64 0), AV.sc (.string ByteArray.empty)]) ∧ OwnT fr.tab fr.tgen [64] tg0_151 (List.length v71)) (fun K142 hk143 => ?_) ?_
    · refine AWp.sr [] fun K144 hk145 => ?_
      simp [E72, hT, hlt77, hg79, hc14, hc39, hc129]
      apply hk145
      refine AWp.condK fun A146 B147 ga148 gb149 => ?_
      rcases Bool.eq_false_or_eq_true (ieq (iadd .i64 1 x102) 4) with hc150 | hc150
      · simp [E72, hT, hlt77, hg79, hc14, hc39, hc129, hc150]
        apply ga148
        refine AWp.skip ?_
        refine hk143 _ _ ⟨tg0_72, (fr72.gen 8 + 1), (fr72.gen 9 + 1), ?_, ⟨?_, ?_, ?_, ?_, ?_, ?_, ?_, ?_, ?_, ?_, ?_, ?_⟩, (OwnT.mono (D := [64]) o0_72 (by decide))⟩ <;> first | rfl | simp [E72, hT, hlt77, hg79, hc14, hc39, hc129, hc150]
      simp [E72, hT, hlt77, hg79, hc14, hc39, hc129, hc150]
      apply gb149
      refine AWp.region [] (by decide +kernel) ?_
      simp [E72, hT, hlt77, hg79, hc14, hc39, hc129, hc150]
      refine hk143 _ _ ⟨tg0_72, (fr72.gen 8 + 1), (fr72.gen 9 + 1), ?_, ⟨?_, ?_, ?_, ?_, ?_, ?_, ?_, ?_, ?_, ?_, ?_, ?_⟩, (OwnT.mono (D := [64]) o0_72 (by decide))⟩ <;> first | rfl | simp [E72, hT, hlt77, hg79, hc14, hc39, hc129, hc150]
    rintro fr151 h151 ⟨tg0_151, g8_151, g9_151, rfl, E151, o0_151⟩
    refine AWp.condK fun A152 B153 ga154 gb155 => ?_
    rcases ite_some hm131 with ⟨hc156, hm157⟩ | ⟨hc156, hm158⟩
    rotate_left
    · clear hm131
      simp [E151, hT, hlt77, hg79, hc14, hc39, hc129, hc156]
      apply gb155
      refine AWp.skip ?_
      apply nn119
      refine hk111 _ _ ⟨0, ByteArray.empty, tg0_151, g9_151, ?_, ⟨?_, ?_, ?_, ?_, ?_, ?_, ?_, ?_⟩, (OwnT.mono (D := [64]) o0_151 (by decide)), hm158⟩ <;> first | rfl | simp [E151, hT, hlt77, hg79, hc14, hc39, hc129, hc156]
    clear hm131
    simp [E151, hT, hlt77, hg79, hc14, hc39, hc129, hc156]
    apply ga154
    refine AWp.region [] (by decide +kernel) ?_
    obtain ⟨x159, hx160, hm161⟩ := bind1_some hm157
    clear hm157
    try dsimp only at hm161
    simp [E151, hT, hlt77, hg79, hc14, hc39, hc129, hc156]
    refine CallAt.fn (r_mk_Mod T hx160) ?_
    simp [E151, hT, hlt77, hg79, hc14, hc39, hc129, hc156]
    apply nn119
    refine hk111 _ _ ⟨x159, ByteArray.empty, tg0_151, g9_151, ?_, ⟨?_, ?_, ?_, ?_, ?_, ?_, ?_, ?_⟩, (OwnT.mono (D := [64]) o0_151 (by decide)), hm161⟩ <;> first | rfl | simp [E151, hT, hlt77, hg79, hc14, hc39, hc129, hc156]
  have hlt77 := ilt_notJ (l := a1) hj73 (by omega)
  refine AWp.sr [] fun K162 hk163 => ?_
  simp [E72, hT, hlt77, hc14, hc39]
  apply hk163
  refine AWp.seqK fun K164 hk165 => ?_
  refine AWp.condK fun A166 B167 ga168 gb169 => ?_
  simp [E72, hT, hlt77, hc14, hc39]
  apply gb169
  refine AWp.exit ?_
  apply ne65
  rw [List.drop_eq_nil_of_le (by omega), forR_nil] at hl61
  obtain rfl := Option.some.inj hl61
  rw [sumK_inl] at hmB62
  try dsimp only at hmB62
  apply hk52
  refine AWp.sr [] fun K170 hk171 => ?_
  obtain ⟨x172, x173, hx174, hm175⟩ := bind2_some hmB62
  clear hmB62
  try dsimp only at hm175
  simp [E72, hT, hlt77, hc14, hc39]
  refine CallAt.fn (r_lexis_Text T hT hx174) ?_
  simp [E72, hT, hlt77, hc14, hc39]
  apply hk171
  refine AWp.sr [] fun K176 hk177 => ?_
  obtain ⟨x178, x179, hx180, hm181⟩ := bind2_some hm175
  clear hm175
  try dsimp only at hm181
  simp [E72, hT, hlt77, hc14, hc39]
  refine CallAt.fn (r_lexis_Tokens T hT hx180) ?_
  simp [E72, hT, hlt77, hc14, hc39]
  apply hk177
  refine AWp.sr [] fun K182 hk183 => ?_
  simp [E72, hT, hlt77, hc14, hc39]
  apply hk183
  refine AWp.seqK fun K184 hk185 => ?_
  refine AWp.sr [] fun K186 hk187 => ?_
  simp [E72, hT, hlt77, hc14, hc39]
  apply hk187
  obtain ⟨F188, hF189, hm190⟩ := joinB_some hm181
  clear hm181
  try dsimp only at hm190
  obtain ⟨out191, hl192, hmB193⟩ := bind1_some hm190
  clear hm190
  refine AWp.blockK fun Q194 nn195 ne196 nx197 nr198 => ?_
  refine AWp.loopF (fun n199 fr h => ∃ (v200 : ByteArray) (v201 : Int) (v202 : Smk_Deck) (tg0_203 : Tag), hset [[]] 0 [AV.slice .frz (List.map (fun n => AV.sc (Value.int .i64 n)) v202.l), AV.sc (.int .i64 v202.atF)] = h ∧ (fr.env 5 = AV.gptr 0 0 ∧ fr.env 6 = AV.slice tg0_203 (List.map Tkn.av v71) ∧ fr.env 10 = AV.sc (.string x172) ∧ fr.env 11 = AV.sc (.int .i64 x173) ∧ fr.env 12 = AV.slice .frz (List.map Tkn.av x178) ∧ fr.env 13 = AV.sc (.int .i64 x179) ∧ fr.env 14 = AV.sc (.string v200) ∧ fr.env 15 = AV.sc (.int .i64 v201)) ∧ OwnT fr.tab fr.tgen [64] tg0_203 (List.length v71) ∧ loopN F188 n199 (v200, v201, v202) = some out191) FU ?_ ?_
  · refine ⟨(ByteArray.mk #[32]), 0, x46, tg0_72, ?_, ⟨?_, ?_, ?_, ?_, ?_, ?_, ?_, ?_⟩, (OwnT.mono (D := [64]) o0_72 (by decide)), hl192⟩ <;> first | rfl | simp [E72, hT, hlt77, hc14, hc39]
  rintro n199 fr203 h203 ⟨v200, v201, v202, tg0_203, rfl, E203, o0_203, hl192⟩ K204 hK205
  rcases n199 with _ | n199
  · rw [loopN_zero] at hl192
    cases hl192
  rw [loopN_succ] at hl192
  obtain ⟨c206, hb207, hk208⟩ := bind1_some hl192
  clear hl192
  rw [hF189] at hb207
  try dsimp only at hb207
  rw [un3_mk] at hb207
  try dsimp only at hb207
  refine AWp.seqK fun K209 hk210 => ?_
  refine AWp.sr [] fun K211 hk212 => ?_
  simp [E203, hT, hlt77, hc14, hc39]
  apply hk212
  refine AWp.condK fun A213 B214 ga215 gb216 => ?_
  rcases ite_some hb207 with ⟨hc217, hm218⟩ | ⟨hc217, hm219⟩
  rotate_left
  · clear hb207
    simp [E203, hT, hlt77, hc14, hc39, hc217]
    apply gb216
    refine AWp.exit ?_
    apply ne196
    obtain rfl := Option.some.inj hm219
    rw [ctlK_brk] at hk208
    obtain rfl := Option.some.inj hk208
    rw [sumK_inl, un3_mk] at hmB193
    try dsimp only at hmB193
    apply hk185
    refine AWp.sr [] fun K220 hk221 => ?_
    obtain ⟨x222, x223, hx224, hm225⟩ := bind2_some hmB193
    clear hmB193
    try dsimp only at hm225
    simp [E203, hT, hlt77, hc14, hc39, hc217]
    refine CallAt.fn (r_lexis_Tokens T hT hx224) ?_
    simp [E203, hT, hlt77, hc14, hc39, hc217]
    apply hk221
    refine AWp.sr [] fun K226 hk227 => ?_
    obtain ⟨x228, x229, hx230, hm231⟩ := bind2_some hm225
    clear hm225
    try dsimp only at hm231
    simp [E203, hT, hlt77, hc14, hc39, hc217]
    refine CallAt.fn (r_lexis_Text T hT hx230) ?_
    simp [E203, hT, hlt77, hc14, hc39, hc217]
    apply hk227
    obtain ⟨j232, hj233, hm234⟩ := joinB_some hm231
    clear hm231
    refine AWp.seqP (fun fr h => ∃ (v235 : Bool), hset [[]] 0 [AV.slice .frz (List.map (fun n => AV.sc (Value.int .i64 n)) v202.l), AV.sc (.int .i64 v202.atF)] = h ∧ fr.env 4 = AV.sc (.bool v235) ∧ j232 v235 = some r0) (fun K236 hk237 => ?_) ?_
    rotate_left
    · clear hm234
      rintro fr238 h238 ⟨v235, rfl, E238, hm239⟩
      subst hj233
      refine AWp.ret ?_
      obtain rfl := Option.some.inj hm239
      simp [retQ, E238, hT, hlt77, hc14, hc39, hc217]
    refine AWp.region [] (by decide +kernel) ?_
    rcases ite_some hm234 with ⟨hc240, hm241⟩ | ⟨hc240, hm242⟩
    rotate_left
    · clear hm234
      simp [E203, hT, hlt77, hc14, hc39, hc217, hc240]
      refine hk237 _ _ ⟨false, ?_, ?_, hm242⟩ <;> first | rfl | simp [E203, hT, hlt77, hc14, hc39, hc217, hc240]
    clear hm234
    rcases ite_some hm241 with ⟨hc243, hm244⟩ | ⟨hc243, hm245⟩
    rotate_left
    · clear hm241
      simp [E203, hT, hlt77, hc14, hc39, hc217, hc240, hc243]
      refine hk237 _ _ ⟨false, ?_, ?_, hm245⟩ <;> first | rfl | simp [E203, hT, hlt77, hc14, hc39, hc217, hc240, hc243]
    clear hm241
    rcases ite_some hm244 with ⟨hc246, hm247⟩ | ⟨hc246, hm248⟩
    rotate_left
    · clear hm244
      simp [E203, hT, hlt77, hc14, hc39, hc217, hc240, hc243, hc246]
      refine hk237 _ _ ⟨false, ?_, ?_, hm248⟩ <;> first | rfl | simp [E203, hT, hlt77, hc14, hc39, hc217, hc240, hc243, hc246]
    clear hm244
    rcases ite_some hm247 with ⟨hc249, hm250⟩ | ⟨hc249, hm251⟩
    rotate_left
    · clear hm247
      simp [E203, hT, hlt77, hc14, hc39, hc217, hc240, hc243, hc246, hc249]
      refine hk237 _ _ ⟨false, ?_, ?_, hm251⟩ <;> first | rfl | simp [E203, hT, hlt77, hc14, hc39, hc217, hc240, hc243, hc246, hc249]
    clear hm247
    obtain ⟨x252, hx253, hm254⟩ := bind1_some hm250
    clear hm250
    try dsimp only at hm254
    simp [E203, hT, hlt77, hc14, hc39, hc217, hc240, hc243, hc246, hc249]
    refine CallAt.fn (r_lexis_Same T hx253) ?_
    rcases ite_some hm254 with ⟨hc255, hm256⟩ | ⟨hc255, hm257⟩
    rotate_left
    · clear hm254
      simp [E203, hT, hlt77, hc14, hc39, hc217, hc240, hc243, hc246, hc249, hc255]
      refine hk237 _ _ ⟨false, ?_, ?_, hm257⟩ <;> first | rfl | simp [E203, hT, hlt77, hc14, hc39, hc217, hc240, hc243, hc246, hc249, hc255]
    clear hm254
    obtain ⟨x258, hx259, hm260⟩ := bind1_some hm256
    clear hm256
    try dsimp only at hm260
    simp [E203, hT, hlt77, hc14, hc39, hc217, hc240, hc243, hc246, hc249, hc255]
    refine CallAt.fn (r_lexis_Same T hx259) ?_
    rcases ite_some hm260 with ⟨hc261, hm262⟩ | ⟨hc261, hm263⟩
    rotate_left
    · clear hm260
      simp [E203, hT, hlt77, hc14, hc39, hc217, hc240, hc243, hc246, hc249, hc255, hc261]
      refine hk237 _ _ ⟨false, ?_, ?_, hm263⟩ <;> first | rfl | simp [E203, hT, hlt77, hc14, hc39, hc217, hc240, hc243, hc246, hc249, hc255, hc261]
    clear hm260
    simp [E203, hT, hlt77, hc14, hc39, hc217, hc240, hc243, hc246, hc249, hc255, hc261]
    refine hk237 _ _ ⟨(seq x228 x172), ?_, ?_, hm262⟩ <;> first | rfl | simp [E203, hT, hlt77, hc14, hc39, hc217, hc240, hc243, hc246, hc249, hc255, hc261]
  clear hb207
  simp [E203, hT, hlt77, hc14, hc39, hc217]
  apply ga215
  refine AWp.skip ?_
  apply hk210
  obtain ⟨j264, hj265, hm266⟩ := joinB_some hm218
  clear hm218
  refine AWp.seqP (fun fr h => ∃ (v267 : ByteArray) (v268 : Smk_Deck) (tg0_271 : Tag), hset [[]] 0 [AV.slice .frz (List.map (fun n => AV.sc (Value.int .i64 n)) v268.l), AV.sc (.int .i64 v268.atF)] = h ∧ (fr.env 5 = AV.gptr 0 0 ∧ fr.env 6 = AV.slice tg0_271 (List.map Tkn.av v71) ∧ fr.env 10 = AV.sc (.string x172) ∧ fr.env 11 = AV.sc (.int .i64 x173) ∧ fr.env 12 = AV.slice .frz (List.map Tkn.av x178) ∧ fr.env 13 = AV.sc (.int .i64 x179) ∧ fr.env 14 = AV.sc (.string v267) ∧ fr.env 15 = AV.sc (.int .i64 v201)) ∧ OwnT fr.tab fr.tgen [64] tg0_271 (List.length v71) ∧ j264 v267 v268 = some c206) (fun K269 hk270 => ?_) ?_
  rotate_left
  · clear hm266
    rintro fr271 h271 ⟨v267, v268, tg0_271, rfl, E271, o0_271, hm272⟩
    subst hj265
    refine AWp.region [] (by decide +kernel) ?_
    simp [E271, hT, hlt77, hc14, hc39, hc217]
    obtain rfl := Option.some.inj hm272
    rw [ctlK_next] at hk208
    refine hK205 _ _ n199 (Nat.lt_succ_self _) ⟨v267, (iadd .i64 v201 1), v268, tg0_271, ?_, ⟨?_, ?_, ?_, ?_, ?_, ?_, ?_, ?_⟩, (OwnT.mono (D := [64]) o0_271 (by decide)), hk208⟩ <;> first | rfl | simp [E271, hT, hlt77, hc14, hc39, hc217]
  refine AWp.blockK fun Q273 nn274 ne275 nx276 nr277 => ?_
  refine AWp.sr [] fun K278 hk279 => ?_
  obtain ⟨x280, hx281, hm282⟩ := bind1_some hm266
  clear hm266
  try dsimp only at hm282
  obtain ⟨hx283, hm284⟩ := chk_some hm282
  clear hm282
  simp [E203, hT, hlt77, hx281, hx283, hc14, hc39, hc217]
  apply hk279
  obtain ⟨j285, hj286, hm287⟩ := joinB_some hm284
  clear hm284
  refine AWp.seqP (fun fr h => ∃ (v288 : Bool) (tg0_300 : Tag), hset [[]] 0 [AV.slice .frz (List.map (fun n => AV.sc (Value.int .i64 n)) v202.l), AV.sc (.int .i64 v202.atF)] = h ∧ (fr.env 5 = AV.gptr 0 0 ∧ fr.env 6 = AV.slice tg0_300 (List.map Tkn.av v71) ∧ fr.env 10 = AV.sc (.string x172) ∧ fr.env 11 = AV.sc (.int .i64 x173) ∧ fr.env 12 = AV.slice .frz (List.map Tkn.av x178) ∧ fr.env 13 = AV.sc (.int .i64 x179) ∧ fr.env 14 = AV.sc (.string (v200 ++ x280)) ∧ fr.env 15 = AV.sc (.int .i64 v201) ∧ fr.env 104 = AV.sc (.bool v288)) ∧ OwnT fr.tab fr.tgen [64] tg0_300 (List.length v71) ∧ j285 v288 = some c206) (fun K289 hk290 => ?_) ?_
  · refine AWp.region [] (by decide +kernel) ?_
    obtain ⟨x291, hx292, hm293⟩ := bind1_some hm287
    clear hm287
    try dsimp only at hm293
    rcases ite_some hm293 with ⟨hc294, hm295⟩ | ⟨hc294, hm296⟩
    · clear hm293
      simp [E203, hT, hlt77, hx281, hx283, hx292, hc14, hc39, hc217, hc294]
      refine hk290 _ _ ⟨true, tg0_203, ?_, ⟨?_, ?_, ?_, ?_, ?_, ?_, ?_, ?_, ?_⟩, (OwnT.mono (D := [64]) o0_203 (by decide)), hm295⟩ <;> first | rfl | simp [E203, hT, hlt77, hx281, hx283, hx292, hc14, hc39, hc217, hc294]
    clear hm293
    rcases ite_some hm296 with ⟨hc297, hm298⟩ | ⟨hc297, hm299⟩
    · clear hm296
      simp [E203, hT, hlt77, hx281, hx283, hx292, hc14, hc39, hc217, hc294, hc297]
      refine hk290 _ _ ⟨true, tg0_203, ?_, ⟨?_, ?_, ?_, ?_, ?_, ?_, ?_, ?_, ?_⟩, (OwnT.mono (D := [64]) o0_203 (by decide)), hm298⟩ <;> first | rfl | simp [E203, hT, hlt77, hx281, hx283, hx292, hc14, hc39, hc217, hc294, hc297]
    clear hm296
    simp [E203, hT, hlt77, hx281, hx283, hx292, hc14, hc39, hc217, hc294, hc297]
    refine hk290 _ _ ⟨(ieq x291 41), tg0_203, ?_, ⟨?_, ?_, ?_, ?_, ?_, ?_, ?_, ?_, ?_⟩, (OwnT.mono (D := [64]) o0_203 (by decide)), hm299⟩ <;> first | rfl | simp [E203, hT, hlt77, hx281, hx283, hx292, hc14, hc39, hc217, hc294, hc297]
  clear hm287
  rintro fr300 h300 ⟨v288, tg0_300, rfl, E300, o0_300, hm301⟩
  subst hj286
  refine AWp.condK fun A302 B303 ga304 gb305 => ?_
  rcases ite_some hm301 with ⟨hc306, hm307⟩ | ⟨hc306, hm308⟩
  rotate_left
  · clear hm301
    simp [E300, hT, hlt77, hx281, hx283, hc14, hc39, hc217, hc306]
    apply gb305
    refine AWp.skip ?_
    apply nn274
    refine hk270 _ _ ⟨(v200 ++ x280), v202, tg0_300, ?_, ⟨?_, ?_, ?_, ?_, ?_, ?_, ?_, ?_⟩, (OwnT.mono (D := [64]) o0_300 (by decide)), hm308⟩ <;> first | rfl | simp [E300, hT, hlt77, hx281, hx283, hc14, hc39, hc217, hc306]
  clear hm301
  simp [E300, hT, hlt77, hx281, hx283, hc14, hc39, hc217, hc306]
  apply ga304
  refine AWp.region [] (by decide +kernel) ?_
  obtain ⟨x309, d310, hx311, hm312⟩ := bind2_some hm307
  clear hm307
  try dsimp only at hm312
  simp [E300, hT, hlt77, hx281, hx283, hc14, hc39, hc217, hc306]
  refine CallAt.fn (r_mk_Deck_Next T (by simp) hx311) ?_
  obtain ⟨L313, hL314, hm315⟩ := joinB_some hm312
  clear hm312
  try dsimp only at hm315
  have hf316 : [AV.sc (.string (ByteArray.mk #[32])), AV.sc (.string (ByteArray.mk #[10])), AV.sc (.string (ByteArray.mk #[])), AV.sc (.string (ByteArray.mk #[32, 32]))] = List.map (fun s => AV.sc (Value.string s)) L313 := by rw [hL314]; rfl
  obtain ⟨x317, hx318, hm319⟩ := bind1_some hm315
  clear hm315
  try dsimp only at hm319
  obtain ⟨hx320, hm321⟩ := chk_some hm319
  clear hm319
  simp [E300, hT, hlt77, hx281, hx283, hf316, hx318, hx320, hc14, hc39, hc217, hc306]
  apply nn274
  refine hk270 _ _ ⟨((v200 ++ x280) ++ x317), d310, tg0_300, ?_, ⟨?_, ?_, ?_, ?_, ?_, ?_, ?_, ?_⟩, (OwnT.mono (D := [64]) o0_300 (by decide)), hm321⟩ <;> first | rfl | simp [E300, hT, hlt77, hx281, hx283, hf316, hx318, hx320, hc14, hc39, hc217, hc306]

end Go.Proofs.YtooibjkhgdpnaaaDoor
