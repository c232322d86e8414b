/- Walks of the program's functions. -/
import Derived.Test.YtmjieefhjmiagaaDoorWCh
import Derived.Test.YtmjieefhjmiagaaDoorWCi
import Derived.Test.YtmjieefhjmiagaaDoorWL0
import Derived.Test.YtmjieefhjmiagaaDoorWX
set_option linter.all false
namespace Go.Proofs.YtmjieefhjmiagaaDoor.G
open Go Go.RowKit
theorem lawChain_c (ts : List Tra) {v1 : Value} {I : Heap} {w : World} (hI : hle I (hp w)) (hT : Tabs I) (R : rdTras I v1 ts) : Calls A 6 #[v1] w (Ret w I fun r _ => r = .bool true) := by
  obtain ⟨rs, R0, hl, hts⟩ := R
  obtain ⟨u, rfl⟩ := rdSl_slice R0
  have hll0 := R0.len_le
  have M := Mem.start hI
  refine enter Tryd.func6 rfl 60 Tryd.ntmps6 [_] rfl ?_
  refine wc_seq ?_
  refine wc_region ?_
  refine wl_m M (q_assign rfl) rfl rfl ?_
  refine wl_nil ?_
  refine wc_seq ?_
  refine wc_seq ?_
  refine wc_join (α := Unit) [8, 9, 10, 11, 12, 13, 14, 15, 16, 17, 18, 19] (fun _ => [(19, .bool (((!true) || (!(ts.all fewB))) || (decide (4 < (rs.length : Int)))))]) (fun _ w' => Mem w I I ([]) w') ?_ ?_
  · refine wc_region ?_
    refine wl_e (e_callC M (awake_c M.imm hT) Tryd.func10 rfl rfl) rfl rfl ?_
    rintro _ w1 ⟨J8, hJ8, rfl, M⟩
    replace M := M.less hJ8 (fun _ _ => rfl)
    refine wl_m M (q_not rfl) rfl rfl ?_
    refine wl_m M (q_move rfl) rfl rfl ?_
    rcases Bool.eq_false_or_eq_true (!true) with hg10 | hg10
    · refine wl_m M (q_off 2 rfl rfl rfl hg10) rfl rfl ?_
      refine wl_m M (q_off 2 rfl rfl rfl hg10) rfl rfl ?_
      refine wl_m M (q_off 2 rfl rfl rfl hg10) rfl rfl ?_
      refine wl_m M (q_pickT rfl hg10 rfl) rfl rfl ?_
      refine wl_m M (q_move rfl) rfl rfl ?_
      refine wl_m M (q_off 7 rfl rfl rfl rfl) rfl rfl ?_
      refine wl_m M (q_off 7 rfl rfl rfl rfl) rfl rfl ?_
      refine wl_m M (q_off 7 rfl rfl rfl rfl) rfl rfl ?_
      refine wl_m M (q_pickT rfl rfl rfl) rfl rfl ?_
      refine wl_nil ?_
      exact ⟨(), M, ⟨(show some (Value.bool true) = some (Value.bool (((!true) || (!(ts.all fewB))) || (decide (4 < (rs.length : Int))))) from by first | (simp only [hg10, Bool.true_or, Bool.false_or, Bool.true_and, Bool.false_and, Bool.or_true, Bool.or_false, Bool.and_true, Bool.and_false]; done) | simp_all), trivial⟩, unw_take 12 rfl rfl⟩
    · refine wl_m M (q_guard 2 rfl rfl rfl hg10 (q_move rfl)) rfl rfl ?_
      refine wl_e (e_guard 2 rfl rfl rfl hg10 (e_callC M (few_c M.imm (rdTras.mono (hle.refl _) ⟨rs, R0, hl, hts⟩)) Tryd.func11 rfl rfl)) rfl rfl ?_
      rintro _ w2 ⟨J12, hJ12, rfl, M⟩
      replace M := M.less hJ12 (fun _ _ => rfl)
      refine wl_m M (q_guard 2 rfl rfl rfl hg10 (q_not rfl)) rfl rfl ?_
      refine wl_m M (q_pickF rfl hg10 rfl) rfl rfl ?_
      refine wl_m M (q_move rfl) rfl rfl ?_
      rcases Bool.eq_false_or_eq_true (!(ts.all fewB)) with hg15 | hg15
      · refine wl_m M (q_off 7 rfl rfl rfl hg15) rfl rfl ?_
        refine wl_m M (q_off 7 rfl rfl rfl hg15) rfl rfl ?_
        refine wl_m M (q_off 7 rfl rfl rfl hg15) rfl rfl ?_
        refine wl_m M (q_pickT rfl hg15 rfl) rfl rfl ?_
        refine wl_nil ?_
        exact ⟨(), M, ⟨(show some (Value.bool true) = some (Value.bool (((!true) || (!(ts.all fewB))) || (decide (4 < (rs.length : Int))))) from by first | (simp only [hg10, hg15, Bool.true_or, Bool.false_or, Bool.true_and, Bool.false_and, Bool.or_true, Bool.or_false, Bool.and_true, Bool.and_false]; done) | simp_all), trivial⟩, unw_take 12 rfl rfl⟩
      · refine wl_m M (q_guard 7 rfl rfl rfl hg15 (q_move rfl)) rfl rfl ?_
        refine wl_m M (q_guard 7 rfl rfl rfl hg15 (q_lenR R0 Tryd.underlying37 rfl)) rfl rfl ?_
        refine wl_m M (q_guard 7 rfl rfl rfl hg15 (q_gtr rfl rfl)) rfl rfl ?_
        refine wl_m M (q_pickF rfl hg15 rfl) rfl rfl ?_
        refine wl_nil ?_
        exact ⟨(), M, ⟨(show some (Value.bool (decide (4 < (rs.length : Int)))) = some (Value.bool (((!true) || (!(ts.all fewB))) || (decide (4 < (rs.length : Int))))) from by first | (simp only [hg10, hg15, Bool.true_or, Bool.false_or, Bool.true_and, Bool.false_and, Bool.or_true, Bool.or_false, Bool.and_true, Bool.and_false]; done) | simp_all), trivial⟩, unw_take 12 rfl rfl⟩
  rintro _ jr1 w3 M
  refine wc_cond rfl (fun ht19 => ?_) (fun ht19 => ?_)
  · refine wc_seq ?_
    refine wc_region ?_
    refine wl_e (e_callC M (awake_c M.imm hT) Tryd.func10 rfl rfl) rfl rfl ?_
    rintro _ w4 ⟨J20, hJ20, rfl, M⟩
    replace M := M.less hJ20 (fun _ _ => rfl)
    refine wl_m M (q_assign rfl) rfl rfl ?_
    refine wl_nil ?_
    refine wc_ret ?_
    exact out1 rfl rfl ⟨_, _, rfl, M.grow, rfl⟩
  · have hfew : ts.all fewB = true := by revert ht19; generalize ts.all fewB = q; cases q <;> simp
    refine wc_skip ?_
    refine wc_seq ?_
    refine wc_seq ?_
    refine wc_region ?_
    refine wl_m M (q_assign rfl) rfl rfl ?_
    refine wl_nil ?_
    refine wc_block ?_
    refine wc_loop (α := Nat) [2, 3, 21, 22, 23, 24, 25, 26, 27, 28, 29, 30, 31, 32, 33, 34, 35, 36, 37, 38, 39, 40, 41] (fun (k0 : Nat) => [(3, .int .i64 (k0 : Int))])
      (fun (k0 : Nat) w' => (k0 ≤ rs.length) ∧ Mem w I I ([]) w')
      (fun (k0 : Nat) => rs.length - k0) (0) ⟨rfl, trivial⟩ ?_ ?_
    · refine ⟨Nat.zero_le _, ?_⟩
      exact M
    rintro k0 jj0 w5 ⟨hk0, M⟩
    refine wc_seq ?_
    refine wc_seq ?_
    refine wc_region ?_
    refine wl_m M (q_move rfl) rfl rfl ?_
    refine wl_m M (q_move rfl) rfl rfl ?_
    refine wl_m M (q_lenR R0 Tryd.underlying37 rfl) rfl rfl ?_
    refine wl_m M (q_lss rfl rfl) rfl rfl ?_
    refine wl_nil ?_
    refine wc_dec rfl (fun ht24 => ?_) (fun ht24 => ?_)
    · obtain ⟨x0, hx0⟩ : ∃ x_, rs[k0]? = some x_ := ⟨_, List.getElem?_eq_getElem (by omega)⟩
      have hll0 := (R0).len_le
      obtain ⟨t0, ht0⟩ : ∃ t, ts[k0]? = some t := ⟨_, List.getElem?_eq_getElem (by omega)⟩
      obtain ⟨fu0, au0, he0, Rf0, Ra0⟩ := hts k0 x0 t0 hx0 ht0
      obtain rfl := RTra.eq he0
      refine wc_skip ?_
      refine wc_seq ?_
      refine wc_block ?_
      refine wc_seq ?_
      refine wc_join (α := Unit) [27, 28, 29, 30, 31, 32, 33, 34, 35, 36, 37, 38, 39, 40, 41] (fun _ => [(41, .bool ((decide (3 < t0.states)) || (decide (6 < (t0.arcs.length : Int)))))]) (fun _ w' => Mem w I I ([]) w') ?_ ?_
      · refine wc_region ?_
        refine wl_m M (q_move rfl) rfl rfl ?_
        refine wl_m M (q_move rfl) rfl rfl ?_
        refine wl_ix (j := k0) M R0 Tryd.underlying37 rfl rfl hx0 rfl (fun b29 o29 p29 => ?_)
        refine wl_m M (q_fa fo_25_0 rfl) rfl rfl ?_
        refine wl_m M (q_ldf p29 Tryd.underlying3 rfl rfl rfl) rfl rfl ?_
        refine wl_m M (q_gtr rfl rfl) rfl rfl ?_
        refine wl_m M (q_move rfl) rfl rfl ?_
        rcases Bool.eq_false_or_eq_true (decide (3 < t0.states)) with hg33 | hg33
        · refine wl_m M (q_off 6 rfl rfl rfl hg33) rfl rfl ?_
          refine wl_m M (q_off 6 rfl rfl rfl hg33) rfl rfl ?_
          refine wl_m M (q_off 6 rfl rfl rfl hg33) rfl rfl ?_
          refine wl_m M (q_off 6 rfl rfl rfl hg33) rfl rfl ?_
          refine wl_m M (q_off 6 rfl rfl rfl hg33) rfl rfl ?_
          refine wl_m M (q_off 6 rfl rfl rfl hg33) rfl rfl ?_
          refine wl_m M (q_off 6 rfl rfl rfl hg33) rfl rfl ?_
          refine wl_m M (q_pickT rfl hg33 rfl) rfl rfl ?_
          refine wl_nil ?_
          exact ⟨(), M, ⟨(show some (Value.bool true) = some (Value.bool ((decide (3 < t0.states)) || (decide (6 < (t0.arcs.length : Int))))) from by first | (simp only [hg33, Bool.true_or, Bool.false_or, Bool.true_and, Bool.false_and, Bool.or_true, Bool.or_false, Bool.and_true, Bool.and_false]; done) | simp_all), trivial⟩, unw_take 15 rfl rfl⟩
        · refine wl_m M (q_guard 6 rfl rfl rfl hg33 (q_move rfl)) rfl rfl ?_
          refine wl_m M (q_guard 6 rfl rfl rfl hg33 (q_move rfl)) rfl rfl ?_
          refine wl_ixG (j := k0) 6 rfl rfl rfl hg33 M R0 Tryd.underlying37 rfl rfl hx0 rfl (fun b36 o36 p36 => ?_)
          refine wl_m M (q_guard 6 rfl rfl rfl hg33 (q_fa fo_25_3 rfl)) rfl rfl ?_
          refine wl_m M (q_guard 6 rfl rfl rfl hg33 (q_ldf p36 Tryd.underlying23 rfl rfl rfl)) rfl rfl ?_
          refine wl_m M (q_guard 6 rfl rfl rfl hg33 (q_lenR Ra0 Tryd.underlying23 rfl)) rfl rfl ?_
          refine wl_m M (q_guard 6 rfl rfl rfl hg33 (q_gtr rfl rfl)) rfl rfl ?_
          refine wl_m M (q_pickF rfl hg33 rfl) rfl rfl ?_
          refine wl_nil ?_
          exact ⟨(), M, ⟨(show some (Value.bool (decide (6 < (t0.arcs.length : Int)))) = some (Value.bool ((decide (3 < t0.states)) || (decide (6 < (t0.arcs.length : Int))))) from by first | (simp only [hg33, Bool.true_or, Bool.false_or, Bool.true_and, Bool.false_and, Bool.or_true, Bool.or_false, Bool.and_true, Bool.and_false]; done) | simp_all), trivial⟩, unw_take 15 rfl rfl⟩
      rintro _ jr6 w6 M
      refine wc_cond rfl (fun ht41 => ?_) (fun ht41 => ?_)
      · refine wc_seq ?_
        refine wc_region ?_
        refine wl_m M (q_assign rfl) rfl rfl ?_
        refine wl_nil ?_
        refine wc_ret ?_
        exact out1 rfl rfl ⟨_, _, rfl, M.grow, rfl⟩
      · refine wc_skip ?_
        refine wc_region ?_
        refine wl_m M (q_move rfl) rfl rfl ?_
        refine wl_m M (q_add rfl rfl (IntWalk.i64_in _ (by omega))) rfl rfl ?_
        refine wl_m M (q_assign rfl) rfl rfl ?_
        refine wl_nil ?_
        refine ⟨(k0 + 1), ?_, ⟨(by omega), M⟩, ⟨rfl, trivial⟩, unw_look rfl (unw_hav rfl (unw_look rfl unw_base))⟩
        show rs.length - (k0 + 1) < rs.length - k0
        omega
    · have hke0 : k0 = rs.length := by omega
      refine wc_exit rfl ?_
      refine wc_seq ?_
      refine wc_region ?_
      refine wl_m M (q_move rfl) rfl rfl ?_
      refine wl_e (e_callC M (chain_c ts hfew M.imm (rdTras.mono (hle.refl _) ⟨rs, R0, hl, hts⟩)) Tryd.func18 rfl rfl) rfl rfl ?_
      rintro _ w7 ⟨J44, hJ44, ⟨_, t44, e44, rfl, ⟨fu44, au44, rfl, Rf44, Ra44⟩, hc44⟩, M⟩
      have hoJ44 := M.old
      refine wl_m M (q_move rfl) rfl rfl ?_
      refine wl_m M (q_ext rfl rfl) rfl rfl ?_
      refine wl_m M (q_ext rfl rfl) rfl rfl ?_
      refine wl_e (e_alloc M z25) rfl rfl ?_
      rintro _ w8 ⟨b4, rfl, M⟩
      refine wl_e0 (e_stW 0 M rfl rfl rfl sz25 rfl rfl) rfl ?_
      intro _ w9 M
      simp only [List.set_cons_zero, List.set_cons_succ] at M
      refine wl_m M (q_assign rfl) rfl rfl ?_
      refine wl_nil ?_
      refine wc_seq ?_
      refine wc_region ?_
      refine wl_m M (q_move rfl) rfl rfl ?_
      refine wl_e (e_callC M (chain5_c ts M.imm (rdTras.mono hJ44 ⟨rs, R0, hl, hts⟩)) Tryd.func19 rfl rfl) rfl rfl ?_
      rintro _ w10 ⟨J49, hJ49, ⟨_, t49, e49, rfl, ⟨fu49, au49, rfl, Rf49, Ra49⟩, hc49⟩, M⟩
      have hoJ49 := M.old
      refine wl_m M (q_move rfl) rfl rfl ?_
      refine wl_m M (q_ext rfl rfl) rfl rfl ?_
      refine wl_m M (q_ext rfl rfl) rfl rfl ?_
      refine wl_e (e_alloc M z25) rfl rfl ?_
      rintro _ w11 ⟨b6, rfl, M⟩
      refine wl_e0 (e_stW 0 M rfl rfl rfl sz25 rfl rfl) rfl ?_
      intro _ w12 M
      simp only [List.set_cons_zero, List.set_cons_succ] at M
      refine wl_m M (q_assign rfl) rfl rfl ?_
      refine wl_nil ?_
      refine wc_seq ?_
      refine wc_join (α := Unit) [2, 52, 53, 54, 55, 56, 57, 58, 59] (fun _ => [(2, .bool ((decide (e44 = e49)) && (decide (t44 = t49))))]) (fun _ w' => Mem w I J49 (box b6 25 [.int .i64 t49.states, .int .i64 t49.start, sv fu49, sv au49] :: box b4 25 [.int .i64 t44.states, .int .i64 t44.start, sv fu44, sv au44] :: []) w') ?_ ?_
      · refine wc_region ?_
        refine wl_m M (q_move rfl) rfl rfl ?_
        refine wl_m M (q_move rfl) rfl rfl ?_
        refine wl_m M (q_eql rfl rfl) rfl rfl ?_
        refine wl_m M (q_move rfl) rfl rfl ?_
        rcases Bool.eq_false_or_eq_true (decide (e44 = e49)) with hg55 | hg55
        · refine wl_m M (q_guard 3 rfl rfl rfl hg55 (q_ldbA 1 Tryd.underlying25 rfl sz25 rfl rfl rfl rfl)) rfl rfl ?_
          refine wl_m M (q_guard 3 rfl rfl rfl hg55 (q_ldbA 0 Tryd.underlying25 rfl sz25 rfl rfl rfl rfl)) rfl rfl ?_
          refine wl_e (e_guard 3 rfl rfl rfl hg55 (e_callC M (same_c t44 t49 M.imm ⟨_, _, rfl, (Rf44.mono hJ49), (Ra44.mono hJ49)⟩ ⟨_, _, rfl, Rf49, Ra49⟩) Tryd.func14 rfl rfl)) rfl rfl ?_
          rintro _ w13 ⟨J58, hJ58, rfl, M⟩
          replace M := M.less hJ58 hoJ49
          refine wl_m M (q_pickT rfl hg55 rfl) rfl rfl ?_
          refine wl_m M (q_assign rfl) rfl rfl ?_
          refine wl_nil ?_
          exact ⟨(), M, ⟨(show some (Value.bool (decide (t44 = t49))) = some (Value.bool ((decide (e44 = e49)) && (decide (t44 = t49)))) from by first | (simp only [hg55, Bool.true_or, Bool.false_or, Bool.true_and, Bool.false_and, Bool.or_true, Bool.or_false, Bool.and_true, Bool.and_false]; done) | simp_all), trivial⟩, unw_take 9 rfl rfl⟩
        · refine wl_m M (q_off 3 rfl rfl rfl hg55) rfl rfl ?_
          refine wl_m M (q_off 3 rfl rfl rfl hg55) rfl rfl ?_
          refine wl_m M (q_off 3 rfl rfl rfl hg55) rfl rfl ?_
          refine wl_m M (q_pickF rfl hg55 rfl) rfl rfl ?_
          refine wl_m M (q_assign rfl) rfl rfl ?_
          refine wl_nil ?_
          exact ⟨(), M, ⟨(show some (Value.bool false) = some (Value.bool ((decide (e44 = e49)) && (decide (t44 = t49)))) from by first | (simp only [hg55, Bool.true_or, Bool.false_or, Bool.true_and, Bool.false_and, Bool.or_true, Bool.or_false, Bool.and_true, Bool.and_false]; done) | simp_all), trivial⟩, unw_take 9 rfl rfl⟩
      rintro _ jr10 w14 M
      refine wc_ret ?_
      exact out1 rfl rfl ⟨_, _, rfl, M.grow, by have := hc44.trans hc49.symm; cases this; simp⟩
end Go.Proofs.YtmjieefhjmiagaaDoor.G
