/- Walks of the program's functions. -/
import Derived.Test.YtmjieefhjmiagaaDoorWL0
import Derived.Test.YtmjieefhjmiagaaDoorWI
set_option linter.all false
namespace Go.Proofs.YtmjieefhjmiagaaDoor.G
open Go Go.RowKit
theorem lawCompose_c (a b : Tra) {v1 v2 : Value} {I : Heap} {w : World} (hI : hle I (hp w)) (hT : Tabs I) (R1 : a.rd I v1) (R2 : b.rd I v2) : Calls A 3 #[v1, v2] w (Ret w I fun r _ => r = .bool true) := by
  obtain ⟨fu1, au1, rfl, Rf1, Ra1⟩ := R1
  obtain ⟨fu2, au2, rfl, Rf2, Ra2⟩ := R2
  have M := Mem.start hI
  refine enter Tryd.func3 rfl 39 Tryd.ntmps3 [_, _] rfl ?_
  refine wc_seq ?_
  refine wc_region ?_
  refine wl_e (e_box M rfl) rfl rfl ?_
  rintro _ w1 ⟨b2, rfl, M⟩
  refine wl_e (e_box M rfl) rfl rfl ?_
  rintro _ w2 ⟨b3, rfl, M⟩
  refine wl_m M (q_assign rfl) rfl rfl ?_
  refine wl_nil ?_
  refine wc_seq ?_
  refine wc_seq ?_
  refine wc_join (α := Unit) [9, 10, 11, 12, 13, 14, 15, 16, 17] (fun _ => [(17, .bool ((!true) || (!([a, b].all fewB))))]) (fun _ w' => Mem w I I (box b3 25 [.int .i64 b.states, .int .i64 b.start, sv fu2, sv au2] :: box b2 25 [.int .i64 a.states, .int .i64 a.start, sv fu1, sv au1] :: []) w') ?_ ?_
  · refine wc_region ?_
    refine wl_e (e_callC M (awake_c M.imm hT) Tryd.func10 rfl rfl) rfl rfl ?_
    rintro _ w3 ⟨J9, hJ9, rfl, M⟩
    replace M := M.less hJ9 (fun _ _ => rfl)
    refine wl_m M (q_not rfl) rfl rfl ?_
    refine wl_m M (q_move rfl) rfl rfl ?_
    rcases Bool.eq_false_or_eq_true (!true) with hg11 | hg11
    · refine wl_m M (q_off 2 rfl rfl rfl hg11) rfl rfl ?_
      refine wl_m M (q_off 2 rfl rfl rfl hg11) rfl rfl ?_
      refine wl_m M (q_off 2 rfl rfl rfl hg11) rfl rfl ?_
      refine wl_m M (q_off 2 rfl rfl rfl hg11) rfl rfl ?_
      refine wl_m M (q_off 2 rfl rfl rfl hg11) rfl rfl ?_
      refine wl_m M (q_pickT rfl hg11 rfl) rfl rfl ?_
      refine wl_nil ?_
      exact ⟨(), M, ⟨(show some (Value.bool true) = some (Value.bool ((!true) || (!([a, b].all fewB)))) from by first | (simp only [hg11, Bool.true_or, Bool.false_or, Bool.true_and, Bool.false_and, Bool.or_true, Bool.or_false, Bool.and_true, Bool.and_false]; done) | simp_all), trivial⟩, unw_take 9 rfl rfl⟩
    · refine wl_m M (q_guard 2 rfl rfl rfl hg11 (q_ldbA 1 Tryd.underlying25 rfl sz25 rfl rfl rfl rfl)) rfl rfl ?_
      refine wl_m M (q_guard 2 rfl rfl rfl hg11 (q_ldbA 0 Tryd.underlying25 rfl sz25 rfl rfl rfl rfl)) rfl rfl ?_
      refine wl_e (e_guard 2 rfl rfl rfl hg11 (e_bsI (E := ETra) (xs := [(RTra.mk a.states a.start fu1 au1), (RTra.mk b.states b.start fu2 au2)]) M (bs_37_2 _ _ _ _ _ _ _ _) ⟨⟨rfl, rfl⟩, ⟨rfl, rfl⟩, trivial⟩ rfl rfl (by decide))) rfl rfl ?_
      rintro _ w4 ⟨u14, J14, rfl, hJ14, R14, M⟩
      have hoJ14 := M.old
      refine wl_e (e_guard 2 rfl rfl rfl hg11 (e_callC M (few_c M.imm (rdTras2 R14 (Rf1.mono hJ14) (Ra1.mono hJ14) (Rf2.mono hJ14) (Ra2.mono hJ14))) Tryd.func11 rfl rfl)) rfl rfl ?_
      rintro _ w5 ⟨J15, hJ15, rfl, M⟩
      replace M := M.less hJ15 hoJ14
      refine wl_m M (q_guard 2 rfl rfl rfl hg11 (q_not rfl)) rfl rfl ?_
      refine wl_m M (q_pickF rfl hg11 rfl) rfl rfl ?_
      refine wl_nil ?_
      replace M := M.less hJ14 (fun _ _ => rfl)
      exact ⟨(), M, ⟨(show some (Value.bool (!([a, b].all fewB))) = some (Value.bool ((!true) || (!([a, b].all fewB)))) from by first | (simp only [hg11, Bool.true_or, Bool.false_or, Bool.true_and, Bool.false_and, Bool.or_true, Bool.or_false, Bool.and_true, Bool.and_false]; done) | simp_all), trivial⟩, unw_take 9 rfl rfl⟩
  rintro _ jr1 w6 M
  refine wc_cond rfl (fun ht17 => ?_) (fun ht17 => ?_)
  · refine wc_seq ?_
    refine wc_region ?_
    refine wl_e (e_callC M (awake_c M.imm hT) Tryd.func10 rfl rfl) rfl rfl ?_
    rintro _ w7 ⟨J18, hJ18, rfl, M⟩
    replace M := M.less hJ18 (fun _ _ => rfl)
    refine wl_m M (q_assign rfl) rfl rfl ?_
    refine wl_nil ?_
    refine wc_ret ?_
    exact out1 rfl rfl ⟨_, _, rfl, M.grow, rfl⟩
  · have hfa : fewB a = true := by simp at ht17; simp [ht17]
    have hfb : fewB b = true := by simp at ht17; simp [ht17]
    refine wc_skip ?_
    refine wc_seq ?_
    refine wc_region ?_
    refine wl_m M (q_ldbA 1 Tryd.underlying25 rfl sz25 rfl rfl rfl rfl) rfl rfl ?_
    refine wl_m M (q_ldbA 0 Tryd.underlying25 rfl sz25 rfl rfl rfl rfl) rfl rfl ?_
    refine wl_e (e_callC M (compose_c a b (few_big hfa hfb) M.imm ⟨fu1, au1, rfl, Rf1, Ra1⟩ ⟨fu2, au2, rfl, Rf2, Ra2⟩) Tryd.func12 rfl rfl) rfl rfl ?_
    rintro _ w8 ⟨J22, hJ22, ⟨_, t22, e22, rfl, ⟨fu22, au22, rfl, Rf22, Ra22⟩, hc22⟩, M⟩
    replace hc22 : (t22, e22) = CompS a b := cmp_S hc22
    have hoJ22 := M.old
    refine wl_m M (q_move rfl) rfl rfl ?_
    refine wl_m M (q_ext rfl rfl) rfl rfl ?_
    refine wl_m M (q_ext rfl rfl) rfl rfl ?_
    refine wl_e (e_alloc M z25) rfl rfl ?_
    rintro _ w9 ⟨b5, rfl, M⟩
    refine wl_e0 (e_stW 0 M rfl rfl rfl sz25 rfl rfl) rfl ?_
    intro _ w10 M
    simp only [List.set_cons_zero, List.set_cons_succ] at M
    refine wl_m M (q_assign rfl) rfl rfl ?_
    refine wl_nil ?_
    refine wc_seq ?_
    refine wc_region ?_
    refine wl_m M (q_ldbA 2 Tryd.underlying25 rfl sz25 rfl rfl rfl rfl) rfl rfl ?_
    refine wl_m M (q_ldbA 1 Tryd.underlying25 rfl sz25 rfl rfl rfl rfl) rfl rfl ?_
    refine wl_e (e_callC M (compose5_c a b M.imm ⟨fu1, au1, rfl, (Rf1.mono hJ22), (Ra1.mono hJ22)⟩ ⟨fu2, au2, rfl, (Rf2.mono hJ22), (Ra2.mono hJ22)⟩) Tryd.func13 rfl rfl) rfl rfl ?_
    rintro _ w11 ⟨J28, hJ28, ⟨_, t28, e28, rfl, ⟨fu28, au28, rfl, Rf28, Ra28⟩, hc28⟩, M⟩
    replace hc28 : (t28, e28) = CompS a b := ref_S hc28
    have hoJ28 := M.old
    refine wl_m M (q_move rfl) rfl rfl ?_
    refine wl_m M (q_ext rfl rfl) rfl rfl ?_
    refine wl_m M (q_ext rfl rfl) rfl rfl ?_
    refine wl_e (e_alloc M z25) rfl rfl ?_
    rintro _ w12 ⟨b7, rfl, M⟩
    refine wl_e0 (e_stW 0 M rfl rfl rfl sz25 rfl rfl) rfl ?_
    intro _ w13 M
    simp only [List.set_cons_zero, List.set_cons_succ] at M
    refine wl_m M (q_assign rfl) rfl rfl ?_
    refine wl_nil ?_
    refine wc_seq ?_
    refine wc_join (α := Unit) [4, 31, 32, 33, 34, 35, 36, 37, 38] (fun _ => [(4, .bool ((decide (e22 = e28)) && (decide (t22 = t28))))]) (fun _ w' => Mem w I J28 (box b7 25 [.int .i64 t28.states, .int .i64 t28.start, sv fu28, sv au28] :: box b5 25 [.int .i64 t22.states, .int .i64 t22.start, sv fu22, sv au22] :: box b3 25 [.int .i64 b.states, .int .i64 b.start, sv fu2, sv au2] :: box b2 25 [.int .i64 a.states, .int .i64 a.start, sv fu1, sv au1] :: []) w') ?_ ?_
    · refine wc_region ?_
      refine wl_m M (q_move rfl) rfl rfl ?_
      refine wl_m M (q_move rfl) rfl rfl ?_
      refine wl_m M (q_eql rfl rfl) rfl rfl ?_
      refine wl_m M (q_move rfl) rfl rfl ?_
      rcases Bool.eq_false_or_eq_true (decide (e22 = e28)) with hg34 | hg34
      · refine wl_m M (q_guard 3 rfl rfl rfl hg34 (q_ldbA 1 Tryd.underlying25 rfl sz25 rfl rfl rfl rfl)) rfl rfl ?_
        refine wl_m M (q_guard 3 rfl rfl rfl hg34 (q_ldbA 0 Tryd.underlying25 rfl sz25 rfl rfl rfl rfl)) rfl rfl ?_
        refine wl_e (e_guard 3 rfl rfl rfl hg34 (e_callC M (same_c t22 t28 M.imm ⟨_, _, rfl, (Rf22.mono hJ28), (Ra22.mono hJ28)⟩ ⟨_, _, rfl, Rf28, Ra28⟩) Tryd.func14 rfl rfl)) rfl rfl ?_
        rintro _ w14 ⟨J37, hJ37, rfl, M⟩
        replace M := M.less hJ37 hoJ28
        refine wl_m M (q_pickT rfl hg34 rfl) rfl rfl ?_
        refine wl_m M (q_assign rfl) rfl rfl ?_
        refine wl_nil ?_
        exact ⟨(), M, ⟨(show some (Value.bool (decide (t22 = t28))) = some (Value.bool ((decide (e22 = e28)) && (decide (t22 = t28)))) from by first | (simp only [hg34, Bool.true_or, Bool.false_or, Bool.true_and, Bool.false_and, Bool.or_true, Bool.or_false, Bool.and_true, Bool.and_false]; done) | simp_all), trivial⟩, unw_take 9 rfl rfl⟩
      · refine wl_m M (q_off 3 rfl rfl rfl hg34) rfl rfl ?_
        refine wl_m M (q_off 3 rfl rfl rfl hg34) rfl rfl ?_
        refine wl_m M (q_off 3 rfl rfl rfl hg34) rfl rfl ?_
        refine wl_m M (q_pickF rfl hg34 rfl) rfl rfl ?_
        refine wl_m M (q_assign rfl) rfl rfl ?_
        refine wl_nil ?_
        exact ⟨(), M, ⟨(show some (Value.bool false) = some (Value.bool ((decide (e22 = e28)) && (decide (t22 = t28)))) from by first | (simp only [hg34, Bool.true_or, Bool.false_or, Bool.true_and, Bool.false_and, Bool.or_true, Bool.or_false, Bool.and_true, Bool.and_false]; done) | simp_all), trivial⟩, unw_take 9 rfl rfl⟩
    rintro _ jr5 w15 M
    refine wc_ret ?_
    exact out1 rfl rfl ⟨_, _, rfl, M.grow, by have := hc22.trans hc28.symm; cases this; simp⟩
end Go.Proofs.YtmjieefhjmiagaaDoor.G
