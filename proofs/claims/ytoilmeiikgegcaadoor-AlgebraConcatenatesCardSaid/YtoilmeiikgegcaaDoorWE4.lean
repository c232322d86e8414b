/- Walks of the program's functions. -/
import Derived.Test.YtoilmeiikgegcaaDoorWA
import Derived.Test.YtoilmeiikgegcaaDoorGRf4
set_option linter.all false
namespace Go.Proofs.YtoilmeiikgegcaaDoor.G
open Go Go.RowKit
theorem less_c (x y : Arc) {I : Heap} {w : World} (hI : hle I (hp w)) : Calls A 109 #[EArc.val x, EArc.val y] w (Ret w I fun v _ => v = .bool (ltOf ordA x y)) := by
 have M := Mem.start hI
 refine enter Tryd.func109 rfl 40 Tryd.ntmps109 [_, _] rfl ?_
 refine wc_seq ?_
 refine wc_region ?_
 refine wl_e (e_box M rfl) rfl rfl ?_
 rintro _ w1 ⟨b2, rfl, M⟩
 refine wl_e (e_box M rfl) rfl rfl ?_
 rintro _ w2 ⟨b3, rfl, M⟩
 refine wl_as M rfl rfl ?_
 refine wl_nil ?_
 refine wc_seq ?_
 refine wc_seq ?_
 refine wc_region ?_
 refine wl_m M (q_fa fo_52_0 rfl) rfl rfl ?_
 refine wl_m M (q_ldb 1 Tryd.underlying3 rfl rfl rfl rfl) rfl rfl ?_
 refine wl_m M (q_fa fo_52_0 rfl) rfl rfl ?_
 refine wl_m M (q_ldb 0 Tryd.underlying3 rfl rfl rfl rfl) rfl rfl ?_
 refine wl_m M (q_neq rfl rfl) rfl rfl ?_
 refine wl_nil ?_
 refine wc_cond rfl (fun ht9 => ?_) (fun ht9 => ?_)
 ·refine wc_seq ?_
  refine wc_region ?_
  refine wl_m M (q_fa fo_52_0 rfl) rfl rfl ?_
  refine wl_m M (q_ldb 1 Tryd.underlying3 rfl rfl rfl rfl) rfl rfl ?_
  refine wl_m M (q_fa fo_52_0 rfl) rfl rfl ?_
  refine wl_m M (q_ldb 0 Tryd.underlying3 rfl rfl rfl rfl) rfl rfl ?_
  refine wl_m M (q_lss rfl rfl) rfl rfl ?_
  refine wl_as M rfl rfl ?_
  refine wl_nil ?_
  refine wc_ret ?_
  refine out1 rfl rfl ⟨_, _, rfl, M.grow, congrArg Value.bool ?_⟩
  rw [Bool.eq_iff_iff, ltA]; unfold ltArc; simp at *; omega
 refine wc_skip ?_
 refine wc_seq ?_
 refine wc_seq ?_
 refine wc_region ?_
 refine wl_m M (q_fa fo_52_1 rfl) rfl rfl ?_
 refine wl_m M (q_ldb 1 Tryd.underlying3 rfl rfl rfl rfl) rfl rfl ?_
 refine wl_m M (q_fa fo_52_1 rfl) rfl rfl ?_
 refine wl_m M (q_ldb 0 Tryd.underlying3 rfl rfl rfl rfl) rfl rfl ?_
 refine wl_m M (q_neq rfl rfl) rfl rfl ?_
 refine wl_nil ?_
 refine wc_cond rfl (fun ht19 => ?_) (fun ht19 => ?_)
 ·refine wc_seq ?_
  refine wc_region ?_
  refine wl_m M (q_fa fo_52_1 rfl) rfl rfl ?_
  refine wl_m M (q_ldb 1 Tryd.underlying3 rfl rfl rfl rfl) rfl rfl ?_
  refine wl_m M (q_fa fo_52_1 rfl) rfl rfl ?_
  refine wl_m M (q_ldb 0 Tryd.underlying3 rfl rfl rfl rfl) rfl rfl ?_
  refine wl_m M (q_lss rfl rfl) rfl rfl ?_
  refine wl_as M rfl rfl ?_
  refine wl_nil ?_
  refine wc_ret ?_
  refine out1 rfl rfl ⟨_, _, rfl, M.grow, congrArg Value.bool ?_⟩
  rw [Bool.eq_iff_iff, ltA]; unfold ltArc; simp at *; omega
 refine wc_skip ?_
 refine wc_seq ?_
 refine wc_seq ?_
 refine wc_region ?_
 refine wl_m M (q_fa fo_52_2 rfl) rfl rfl ?_
 refine wl_m M (q_ldb 1 Tryd.underlying21 rfl rfl rfl rfl) rfl rfl ?_
 refine wl_m M (q_fa fo_52_2 rfl) rfl rfl ?_
 refine wl_m M (q_ldb 0 Tryd.underlying21 rfl rfl rfl rfl) rfl rfl ?_
 refine wl_m M (q_neq rfl rfl) rfl rfl ?_
 refine wl_nil ?_
 refine wc_cond rfl (fun ht29 => ?_) (fun ht29 => ?_)
 ·refine wc_seq ?_
  refine wc_region ?_
  refine wl_m M (q_fa fo_52_2 rfl) rfl rfl ?_
  refine wl_m M (q_ldb 1 Tryd.underlying21 rfl rfl rfl rfl) rfl rfl ?_
  refine wl_m M (q_fa fo_52_2 rfl) rfl rfl ?_
  refine wl_m M (q_ldb 0 Tryd.underlying21 rfl rfl rfl rfl) rfl rfl ?_
  refine wl_m M (q_lss rfl rfl) rfl rfl ?_
  refine wl_as M rfl rfl ?_
  refine wl_nil ?_
  refine wc_ret ?_
  refine out1 rfl rfl ⟨_, _, rfl, M.grow, congrArg Value.bool ?_⟩
  rw [Bool.eq_iff_iff, ltA]; unfold ltArc; simp at *; omega
 refine wc_skip ?_
 refine wc_seq ?_
 refine wc_region ?_
 refine wl_m M (q_fa fo_52_3 rfl) rfl rfl ?_
 refine wl_m M (q_ldb 1 Tryd.underlying21 rfl rfl rfl rfl) rfl rfl ?_
 refine wl_m M (q_fa fo_52_3 rfl) rfl rfl ?_
 refine wl_m M (q_ldb 0 Tryd.underlying21 rfl rfl rfl rfl) rfl rfl ?_
 refine wl_m M (q_lss rfl rfl) rfl rfl ?_
 refine wl_as M rfl rfl ?_
 refine wl_nil ?_
 refine wc_ret ?_
 refine out1 rfl rfl ⟨_, _, rfl, M.grow, congrArg Value.bool ?_⟩
 rw [Bool.eq_iff_iff, ltA]; unfold ltArc; simp at *; omega
theorem validRune4_c (r : Int) {I : Heap} {w : World} (hI : hle I (hp w)) : Calls A 76 #[.int .i32 r] w (Ret w I fun v _ => v = .bool (vRune r)) := by
 have M := Mem.start hI
 refine enter Tryd.func76 rfl 17 Tryd.ntmps76 [_] rfl ?_
 refine wc_seq ?_
 refine wc_region ?_
 refine wl_as M rfl rfl ?_
 refine wl_nil ?_
 refine wc_seq ?_
 refine wc_join (α := Unit) [2, 3, 4, 5, 6, 7, 8, 9, 10, 11, 12, 13, 14, 15, 16] (fun _ => [(2, .bool (((decide (0 ≤ r)) && (decide (r ≤ 1114111))) && ((decide (r < 55296)) || (decide (57343 < r)))))]) (fun _ w' => Mem w I I ([]) w') ?_ ?_
 ·refine wc_region ?_
  refine wl_mv M rfl rfl ?_
  refine wl_m M (q_geq rfl rfl) rfl rfl ?_
  refine wl_mv M rfl rfl ?_
  rcases Bool.eq_false_or_eq_true (decide (0 ≤ r)) with hg5 | hg5
  ·refine wl_m M (q_guard 2 rfl rfl rfl hg5 (q_move rfl)) rfl rfl ?_
   refine wl_m M (q_guard 2 rfl rfl rfl hg5 (q_leq rfl rfl)) rfl rfl ?_
   refine wl_m M (q_pickT rfl hg5 rfl) rfl rfl ?_
   refine wl_mv M rfl rfl ?_
   rcases Bool.eq_false_or_eq_true (decide (r ≤ 1114111)) with hg9 | hg9
   ·refine wl_m M (q_guard 6 rfl rfl rfl hg9 (q_move rfl)) rfl rfl ?_
    refine wl_m M (q_guard 6 rfl rfl rfl hg9 (q_lss rfl rfl)) rfl rfl ?_
    refine wl_m M (q_guard 6 rfl rfl rfl hg9 (q_move rfl)) rfl rfl ?_
    rcases Bool.eq_false_or_eq_true (decide (r < 55296)) with hg12 | hg12
    ·refine wl_m M (q_off 9 rfl rfl rfl hg12) rfl rfl ?_
     refine wl_m M (q_off 9 rfl rfl rfl hg12) rfl rfl ?_
     refine wl_m M (q_guard 6 rfl rfl rfl hg9 (q_pickT rfl hg12 rfl)) rfl rfl ?_
     refine wl_m M (q_pickT rfl hg9 rfl) rfl rfl ?_
     refine wl_as M rfl rfl ?_
     refine wl_nil ?_
     exact ⟨(), M, ⟨(show some (Value.bool true) = some (Value.bool (((decide (0 ≤ r)) && (decide (r ≤ 1114111))) && ((decide (r < 55296)) || (decide (57343 < r))))) from by first | (simp only [hg12, hg5, hg9, Bool.true_or, Bool.false_or, Bool.true_and, Bool.false_and, Bool.or_true, Bool.or_false, Bool.and_true, Bool.and_false]; done) | simp_all), trivial⟩, unw_take 15 rfl rfl⟩
    refine wl_m M (q_guard 9 rfl rfl rfl hg12 (q_move rfl)) rfl rfl ?_
    refine wl_m M (q_guard 9 rfl rfl rfl hg12 (q_gtr rfl rfl)) rfl rfl ?_
    refine wl_m M (q_guard 6 rfl rfl rfl hg9 (q_pickF rfl hg12 rfl)) rfl rfl ?_
    refine wl_m M (q_pickT rfl hg9 rfl) rfl rfl ?_
    refine wl_as M rfl rfl ?_
    refine wl_nil ?_
    exact ⟨(), M, ⟨(show some (Value.bool (decide (57343 < r))) = some (Value.bool (((decide (0 ≤ r)) && (decide (r ≤ 1114111))) && ((decide (r < 55296)) || (decide (57343 < r))))) from by first | (simp only [hg12, hg5, hg9, Bool.true_or, Bool.false_or, Bool.true_and, Bool.false_and, Bool.or_true, Bool.or_false, Bool.and_true, Bool.and_false]; done) | simp_all), trivial⟩, unw_take 15 rfl rfl⟩
   refine wl_m M (q_off 6 rfl rfl rfl hg9) rfl rfl ?_
   refine wl_m M (q_off 6 rfl rfl rfl hg9) rfl rfl ?_
   refine wl_m M (q_off 6 rfl rfl rfl hg9) rfl rfl ?_
   refine wl_m M (q_offu 9 rfl rfl rfl) rfl rfl ?_
   refine wl_m M (q_offu 9 rfl rfl rfl) rfl rfl ?_
   refine wl_m M (q_off 6 rfl rfl rfl hg9) rfl rfl ?_
   refine wl_m M (q_pickF rfl hg9 rfl) rfl rfl ?_
   refine wl_as M rfl rfl ?_
   refine wl_nil ?_
   exact ⟨(), M, ⟨(show some (Value.bool false) = some (Value.bool (((decide (0 ≤ r)) && (decide (r ≤ 1114111))) && ((decide (r < 55296)) || (decide (57343 < r))))) from by first | (simp only [hg5, hg9, Bool.true_or, Bool.false_or, Bool.true_and, Bool.false_and, Bool.or_true, Bool.or_false, Bool.and_true, Bool.and_false]; done) | simp_all), trivial⟩, unw_take 15 rfl rfl⟩
  refine wl_m M (q_off 2 rfl rfl rfl hg5) rfl rfl ?_
  refine wl_m M (q_off 2 rfl rfl rfl hg5) rfl rfl ?_
  refine wl_m M (q_pickF rfl hg5 rfl) rfl rfl ?_
  refine wl_mv M rfl rfl ?_
  refine wl_m M (q_off 6 rfl rfl rfl rfl) rfl rfl ?_
  refine wl_m M (q_off 6 rfl rfl rfl rfl) rfl rfl ?_
  refine wl_m M (q_off 6 rfl rfl rfl rfl) rfl rfl ?_
  refine wl_m M (q_offu 9 rfl rfl rfl) rfl rfl ?_
  refine wl_m M (q_offu 9 rfl rfl rfl) rfl rfl ?_
  refine wl_m M (q_off 6 rfl rfl rfl rfl) rfl rfl ?_
  refine wl_m M (q_pickF rfl rfl rfl) rfl rfl ?_
  refine wl_as M rfl rfl ?_
  refine wl_nil ?_
  exact ⟨(), M, ⟨(show some (Value.bool false) = some (Value.bool (((decide (0 ≤ r)) && (decide (r ≤ 1114111))) && ((decide (r < 55296)) || (decide (57343 < r))))) from by first | (simp only [hg5, Bool.true_or, Bool.false_or, Bool.true_and, Bool.false_and, Bool.or_true, Bool.or_false, Bool.and_true, Bool.and_false]; done) | simp_all), trivial⟩, unw_take 15 rfl rfl⟩
 rintro _ jr1 w1 M
 refine wc_ret ?_
 exact out1 rfl rfl ⟨_, _, rfl, M.grow, rfl⟩
theorem valid4_c (t : Tra) {v : Value} {I : Heap} {w : World} (hI : hle I (hp w)) (R : t.rd I v) : Calls A 56 #[v] w (Ret w I fun r _ => r = .bool (validT t)) := by
 obtain ⟨fu, au, rfl, Rf, Ra⟩ := R
 have M := Mem.start hI
 refine enter Tryd.func56 rfl 106 Tryd.ntmps56 [_] rfl ?_
 refine wc_seq ?_
 refine wc_region ?_
 refine wl_e (e_box M rfl) rfl rfl ?_
 rintro _ w1 ⟨b1, rfl, M⟩
 refine wl_as M rfl rfl ?_
 refine wl_nil ?_
 refine wc_seq ?_
 refine wc_seq ?_
 refine wc_join (α := Unit) [7, 8, 9, 10, 11, 12, 13, 14, 15, 16, 17, 18, 19, 20, 21, 22, 23, 24, 25, 26, 27, 28, 29, 30, 31, 32] (fun _ => [(32, .bool (((((decide (t.states < 1)) || (decide (512 < t.states))) || (decide (4096 < (t.arcs.length : Int)))) || (decide (t.start < 0))) || (decide (t.states ≤ t.start))))]) (fun _ w' => Mem w I I (box b1 29 [.int .i64 t.states, .int .i64 t.start, sv fu, sv au] :: []) w') ?_ ?_
 ·refine wc_region ?_
  refine wl_m M (q_fa fo_29_0 rfl) rfl rfl ?_
  refine wl_m M (q_ldb 0 Tryd.underlying3 rfl rfl rfl rfl) rfl rfl ?_
  refine wl_m M (q_lss rfl rfl) rfl rfl ?_
  refine wl_mv M rfl rfl ?_
  rcases Bool.eq_false_or_eq_true (decide (t.states < 1)) with hg10 | hg10
  ·refine wl_m M (q_off 3 rfl rfl rfl hg10) rfl rfl ?_
   refine wl_m M (q_off 3 rfl rfl rfl hg10) rfl rfl ?_
   refine wl_m M (q_off 3 rfl rfl rfl hg10) rfl rfl ?_
   refine wl_m M (q_pickT rfl hg10 rfl) rfl rfl ?_
   refine wl_mv M rfl rfl ?_
   refine wl_m M (q_off 8 rfl rfl rfl rfl) rfl rfl ?_
   refine wl_m M (q_off 8 rfl rfl rfl rfl) rfl rfl ?_
   refine wl_m M (q_off 8 rfl rfl rfl rfl) rfl rfl ?_
   refine wl_m M (q_off 8 rfl rfl rfl rfl) rfl rfl ?_
   refine wl_m M (q_pickT rfl rfl rfl) rfl rfl ?_
   refine wl_mv M rfl rfl ?_
   refine wl_m M (q_off 14 rfl rfl rfl rfl) rfl rfl ?_
   refine wl_m M (q_off 14 rfl rfl rfl rfl) rfl rfl ?_
   refine wl_m M (q_off 14 rfl rfl rfl rfl) rfl rfl ?_
   refine wl_m M (q_pickT rfl rfl rfl) rfl rfl ?_
   refine wl_mv M rfl rfl ?_
   refine wl_m M (q_off 19 rfl rfl rfl rfl) rfl rfl ?_
   refine wl_m M (q_off 19 rfl rfl rfl rfl) rfl rfl ?_
   refine wl_m M (q_off 19 rfl rfl rfl rfl) rfl rfl ?_
   refine wl_m M (q_off 19 rfl rfl rfl rfl) rfl rfl ?_
   refine wl_m M (q_off 19 rfl rfl rfl rfl) rfl rfl ?_
   refine wl_m M (q_pickT rfl rfl rfl) rfl rfl ?_
   refine wl_nil ?_
   exact ⟨(), M, ⟨(show some (Value.bool true) = some (Value.bool (((((decide (t.states < 1)) || (decide (512 < t.states))) || (decide (4096 < (t.arcs.length : Int)))) || (decide (t.start < 0))) || (decide (t.states ≤ t.start)))) from by first | (simp only [hg10, Bool.true_or, Bool.false_or, Bool.true_and, Bool.false_and, Bool.or_true, Bool.or_false, Bool.and_true, Bool.and_false]; done) | simp_all), trivial⟩, unw_take 26 rfl rfl⟩
  refine wl_m M (q_guard 3 rfl rfl rfl hg10 (q_fa fo_29_0 rfl)) rfl rfl ?_
  refine wl_m M (q_guard 3 rfl rfl rfl hg10 (q_ldb 0 Tryd.underlying3 rfl rfl rfl rfl)) rfl rfl ?_
  refine wl_m M (q_guard 3 rfl rfl rfl hg10 (q_gtr rfl rfl)) rfl rfl ?_
  refine wl_m M (q_pickF rfl hg10 rfl) rfl rfl ?_
  refine wl_mv M rfl rfl ?_
  rcases Bool.eq_false_or_eq_true (decide (512 < t.states)) with hg15 | hg15
  ·refine wl_m M (q_off 8 rfl rfl rfl hg15) rfl rfl ?_
   refine wl_m M (q_off 8 rfl rfl rfl hg15) rfl rfl ?_
   refine wl_m M (q_off 8 rfl rfl rfl hg15) rfl rfl ?_
   refine wl_m M (q_off 8 rfl rfl rfl hg15) rfl rfl ?_
   refine wl_m M (q_pickT rfl hg15 rfl) rfl rfl ?_
   refine wl_mv M rfl rfl ?_
   refine wl_m M (q_off 14 rfl rfl rfl rfl) rfl rfl ?_
   refine wl_m M (q_off 14 rfl rfl rfl rfl) rfl rfl ?_
   refine wl_m M (q_off 14 rfl rfl rfl rfl) rfl rfl ?_
   refine wl_m M (q_pickT rfl rfl rfl) rfl rfl ?_
   refine wl_mv M rfl rfl ?_
   refine wl_m M (q_off 19 rfl rfl rfl rfl) rfl rfl ?_
   refine wl_m M (q_off 19 rfl rfl rfl rfl) rfl rfl ?_
   refine wl_m M (q_off 19 rfl rfl rfl rfl) rfl rfl ?_
   refine wl_m M (q_off 19 rfl rfl rfl rfl) rfl rfl ?_
   refine wl_m M (q_off 19 rfl rfl rfl rfl) rfl rfl ?_
   refine wl_m M (q_pickT rfl rfl rfl) rfl rfl ?_
   refine wl_nil ?_
   exact ⟨(), M, ⟨(show some (Value.bool true) = some (Value.bool (((((decide (t.states < 1)) || (decide (512 < t.states))) || (decide (4096 < (t.arcs.length : Int)))) || (decide (t.start < 0))) || (decide (t.states ≤ t.start)))) from by first | (simp only [hg10, hg15, Bool.true_or, Bool.false_or, Bool.true_and, Bool.false_and, Bool.or_true, Bool.or_false, Bool.and_true, Bool.and_false]; done) | simp_all), trivial⟩, unw_take 26 rfl rfl⟩
  refine wl_m M (q_guard 8 rfl rfl rfl hg15 (q_fa fo_29_3 rfl)) rfl rfl ?_
  refine wl_m M (q_guard 8 rfl rfl rfl hg15 (q_ldb 0 Tryd.underlying27 rfl rfl rfl rfl)) rfl rfl ?_
  refine wl_m M (q_guard 8 rfl rfl rfl hg15 (q_lenR Ra Tryd.underlying27 rfl)) rfl rfl ?_
  refine wl_m M (q_guard 8 rfl rfl rfl hg15 (q_gtr rfl rfl)) rfl rfl ?_
  refine wl_m M (q_pickF rfl hg15 rfl) rfl rfl ?_
  refine wl_mv M rfl rfl ?_
  rcases Bool.eq_false_or_eq_true (decide (4096 < (t.arcs.length : Int))) with hg21 | hg21
  ·refine wl_m M (q_off 14 rfl rfl rfl hg21) rfl rfl ?_
   refine wl_m M (q_off 14 rfl rfl rfl hg21) rfl rfl ?_
   refine wl_m M (q_off 14 rfl rfl rfl hg21) rfl rfl ?_
   refine wl_m M (q_pickT rfl hg21 rfl) rfl rfl ?_
   refine wl_mv M rfl rfl ?_
   refine wl_m M (q_off 19 rfl rfl rfl rfl) rfl rfl ?_
   refine wl_m M (q_off 19 rfl rfl rfl rfl) rfl rfl ?_
   refine wl_m M (q_off 19 rfl rfl rfl rfl) rfl rfl ?_
   refine wl_m M (q_off 19 rfl rfl rfl rfl) rfl rfl ?_
   refine wl_m M (q_off 19 rfl rfl rfl rfl) rfl rfl ?_
   refine wl_m M (q_pickT rfl rfl rfl) rfl rfl ?_
   refine wl_nil ?_
   exact ⟨(), M, ⟨(show some (Value.bool true) = some (Value.bool (((((decide (t.states < 1)) || (decide (512 < t.states))) || (decide (4096 < (t.arcs.length : Int)))) || (decide (t.start < 0))) || (decide (t.states ≤ t.start)))) from by first | (simp only [hg10, hg15, hg21, Bool.true_or, Bool.false_or, Bool.true_and, Bool.false_and, Bool.or_true, Bool.or_false, Bool.and_true, Bool.and_false]; done) | simp_all), trivial⟩, unw_take 26 rfl rfl⟩
  refine wl_m M (q_guard 14 rfl rfl rfl hg21 (q_fa fo_29_1 rfl)) rfl rfl ?_
  refine wl_m M (q_guard 14 rfl rfl rfl hg21 (q_ldb 0 Tryd.underlying3 rfl rfl rfl rfl)) rfl rfl ?_
  refine wl_m M (q_guard 14 rfl rfl rfl hg21 (q_lss rfl rfl)) rfl rfl ?_
  refine wl_m M (q_pickF rfl hg21 rfl) rfl rfl ?_
  refine wl_mv M rfl rfl ?_
  rcases Bool.eq_false_or_eq_true (decide (t.start < 0)) with hg26 | hg26
  ·refine wl_m M (q_off 19 rfl rfl rfl hg26) rfl rfl ?_
   refine wl_m M (q_off 19 rfl rfl rfl hg26) rfl rfl ?_
   refine wl_m M (q_off 19 rfl rfl rfl hg26) rfl rfl ?_
   refine wl_m M (q_off 19 rfl rfl rfl hg26) rfl rfl ?_
   refine wl_m M (q_off 19 rfl rfl rfl hg26) rfl rfl ?_
   refine wl_m M (q_pickT rfl hg26 rfl) rfl rfl ?_
   refine wl_nil ?_
   exact ⟨(), M, ⟨(show some (Value.bool true) = some (Value.bool (((((decide (t.states < 1)) || (decide (512 < t.states))) || (decide (4096 < (t.arcs.length : Int)))) || (decide (t.start < 0))) || (decide (t.states ≤ t.start)))) from by first | (simp only [hg10, hg15, hg21, hg26, Bool.true_or, Bool.false_or, Bool.true_and, Bool.false_and, Bool.or_true, Bool.or_false, Bool.and_true, Bool.and_false]; done) | simp_all), trivial⟩, unw_take 26 rfl rfl⟩
  refine wl_m M (q_guard 19 rfl rfl rfl hg26 (q_fa fo_29_1 rfl)) rfl rfl ?_
  refine wl_m M (q_guard 19 rfl rfl rfl hg26 (q_ldb 0 Tryd.underlying3 rfl rfl rfl rfl)) rfl rfl ?_
  refine wl_m M (q_guard 19 rfl rfl rfl hg26 (q_fa fo_29_0 rfl)) rfl rfl ?_
  refine wl_m M (q_guard 19 rfl rfl rfl hg26 (q_ldb 0 Tryd.underlying3 rfl rfl rfl rfl)) rfl rfl ?_
  refine wl_m M (q_guard 19 rfl rfl rfl hg26 (q_geq rfl rfl)) rfl rfl ?_
  refine wl_m M (q_pickF rfl hg26 rfl) rfl rfl ?_
  refine wl_nil ?_
  exact ⟨(), M, ⟨(show some (Value.bool (decide (t.states ≤ t.start))) = some (Value.bool (((((decide (t.states < 1)) || (decide (512 < t.states))) || (decide (4096 < (t.arcs.length : Int)))) || (decide (t.start < 0))) || (decide (t.states ≤ t.start)))) from by first | (simp only [hg10, hg15, hg21, hg26, Bool.true_or, Bool.false_or, Bool.true_and, Bool.false_and, Bool.or_true, Bool.or_false, Bool.and_true, Bool.and_false]; done) | simp_all), trivial⟩, unw_take 26 rfl rfl⟩
 rintro _ jr1 w2 M
 refine wc_cond rfl (fun ht32 => ?_) (fun ht32 => ?_)
 ·refine wc_seq ?_
  refine wc_region ?_
  refine wl_as M rfl rfl ?_
  refine wl_nil ?_
  refine wc_ret ?_
  exact out1 rfl rfl ⟨_, _, rfl, M.grow, by rw [valid_split, (valid_head t).trans (congrArg Bool.not ht32)]; rfl⟩
 have h32 := (valid_head t).trans (congrArg Bool.not ht32)
 refine wc_skip ?_
 refine wc_seq ?_
 refine wc_seq ?_
 refine wc_region ?_
 refine wl_m M (q_fa fo_29_2 rfl) rfl rfl ?_
 refine wl_m M (q_ldb 0 Tryd.underlying26 rfl rfl rfl rfl) rfl rfl ?_
 refine wl_m M (q_lenR Rf Tryd.underlying26 rfl) rfl rfl ?_
 refine wl_mv M rfl rfl ?_
 refine wl_nil ?_
 refine wc_block ?_
 refine wc_loop (α := Nat) [2, 3, 4, 36, 37, 38, 39, 40, 41, 42, 43, 44, 45, 46, 47, 48, 49, 50, 51, 52, 53, 54, 55, 56, 57, 58, 59, 60, 61, 62, 63] (fun (k0 : Nat) => [(36, .int .i64 (k0 : Int))])
   (fun (k0 : Nat) w' => (k0 ≤ t.finals.length) ∧ ((List.range k0).all (finAt t.states t.finals) = true) ∧ Mem w I I (box b1 29 [.int .i64 t.states, .int .i64 t.start, sv fu, sv au] :: []) w')
   (fun (k0 : Nat) => t.finals.length - k0) (0) ⟨rfl, trivial⟩ ?_ ?_
 ·refine ⟨Nat.zero_le _, rfl, ?_⟩
  exact M
 rintro k0 jj0 w3 ⟨hk0, hf, M⟩
 refine wc_seq ?_
 refine wc_region ?_
 refine wl_m M (q_lss rfl rfl) rfl rfl ?_
 refine wl_nil ?_
 refine wc_seq ?_
 refine wc_dec rfl (fun ht37 => ?_) (fun ht37 => ?_)
 ·obtain ⟨x0, hx0⟩ : ∃ x_, t.finals[k0]? = some x_ := ⟨_, List.getElem?_eq_getElem (by omega)⟩
  have hll0 := (Rf).len_le
  have hll0 := Rf.len_le
  refine wc_skip ?_
  refine wc_seq ?_
  refine wc_block ?_
  refine wc_seq ?_
  refine wc_region ?_
  refine wl_mv M rfl rfl ?_
  refine wl_ix (j := k0) M Rf Tryd.underlying26 rfl rfl hx0 rfl (fun b39 o39 p39 => ?_)
  refine wl_m M (q_ldp p39 rfl rfl) rfl rfl ?_
  refine wl_as M rfl rfl ?_
  refine wl_as M rfl rfl ?_
  refine wl_nil ?_
  refine wc_seq ?_
  refine wc_join (α := Unit) [41, 42, 43, 44, 45, 46, 47, 48, 49, 50, 51, 52, 53, 54, 55, 56, 57, 58, 59, 60, 61, 62] (fun _ => [(62, .bool (((decide (x0 < 0)) || (decide (t.states ≤ x0))) || ((decide (0 < (k0 : Int))) && (decide (x0 ≤ (t.finals.getD (k0 - 1) 0))))))]) (fun _ w' => Mem w I I (box b1 29 [.int .i64 t.states, .int .i64 t.start, sv fu, sv au] :: []) w') ?_ ?_
  ·refine wc_region ?_
   refine wl_mv M rfl rfl ?_
   refine wl_m M (q_lss rfl rfl) rfl rfl ?_
   refine wl_mv M rfl rfl ?_
   rcases Bool.eq_false_or_eq_true (decide (x0 < 0)) with hg43 | hg43
   ·refine wl_m M (q_off 2 rfl rfl rfl hg43) rfl rfl ?_
    refine wl_m M (q_off 2 rfl rfl rfl hg43) rfl rfl ?_
    refine wl_m M (q_off 2 rfl rfl rfl hg43) rfl rfl ?_
    refine wl_m M (q_off 2 rfl rfl rfl hg43) rfl rfl ?_
    refine wl_m M (q_pickT rfl hg43 rfl) rfl rfl ?_
    refine wl_mv M rfl rfl ?_
    refine wl_m M (q_off 8 rfl rfl rfl rfl) rfl rfl ?_
    refine wl_m M (q_off 8 rfl rfl rfl rfl) rfl rfl ?_
    refine wl_m M (q_off 8 rfl rfl rfl rfl) rfl rfl ?_
    refine wl_m M (q_offu 11 rfl rfl rfl) rfl rfl ?_
    refine wl_m M (q_offu 11 rfl rfl rfl) rfl rfl ?_
    refine wl_m M (q_offu 11 rfl rfl rfl) rfl rfl ?_
    refine wl_m M (q_offu 11 rfl rfl rfl) rfl rfl ?_
    refine wl_m M (q_offu 11 rfl rfl rfl) rfl rfl ?_
    refine wl_m M (q_offu 11 rfl rfl rfl) rfl rfl ?_
    refine wl_m M (q_offu 11 rfl rfl rfl) rfl rfl ?_
    refine wl_m M (q_offu 11 rfl rfl rfl) rfl rfl ?_
    refine wl_m M (q_off 8 rfl rfl rfl rfl) rfl rfl ?_
    refine wl_m M (q_pickT rfl rfl rfl) rfl rfl ?_
    refine wl_nil ?_
    exact ⟨(), M, ⟨(show some (Value.bool true) = some (Value.bool (((decide (x0 < 0)) || (decide (t.states ≤ x0))) || ((decide (0 < (k0 : Int))) && (decide (x0 ≤ (t.finals.getD (k0 - 1) 0)))))) from by first | (simp only [hg43, Bool.true_or, Bool.false_or, Bool.true_and, Bool.false_and, Bool.or_true, Bool.or_false, Bool.and_true, Bool.and_false]; done) | simp_all), trivial⟩, unw_take 22 rfl rfl⟩
   refine wl_m M (q_guard 2 rfl rfl rfl hg43 (q_move rfl)) rfl rfl ?_
   refine wl_m M (q_guard 2 rfl rfl rfl hg43 (q_fa fo_29_0 rfl)) rfl rfl ?_
   refine wl_m M (q_guard 2 rfl rfl rfl hg43 (q_ldb 0 Tryd.underlying3 rfl rfl rfl rfl)) rfl rfl ?_
   refine wl_m M (q_guard 2 rfl rfl rfl hg43 (q_geq rfl rfl)) rfl rfl ?_
   refine wl_m M (q_pickF rfl hg43 rfl) rfl rfl ?_
   refine wl_mv M rfl rfl ?_
   rcases Bool.eq_false_or_eq_true (decide (t.states ≤ x0)) with hg49 | hg49
   ·refine wl_m M (q_off 8 rfl rfl rfl hg49) rfl rfl ?_
    refine wl_m M (q_off 8 rfl rfl rfl hg49) rfl rfl ?_
    refine wl_m M (q_off 8 rfl rfl rfl hg49) rfl rfl ?_
    refine wl_m M (q_offu 11 rfl rfl rfl) rfl rfl ?_
    refine wl_m M (q_offu 11 rfl rfl rfl) rfl rfl ?_
    refine wl_m M (q_offu 11 rfl rfl rfl) rfl rfl ?_
    refine wl_m M (q_offu 11 rfl rfl rfl) rfl rfl ?_
    refine wl_m M (q_offu 11 rfl rfl rfl) rfl rfl ?_
    refine wl_m M (q_offu 11 rfl rfl rfl) rfl rfl ?_
    refine wl_m M (q_offu 11 rfl rfl rfl) rfl rfl ?_
    refine wl_m M (q_offu 11 rfl rfl rfl) rfl rfl ?_
    refine wl_m M (q_off 8 rfl rfl rfl hg49) rfl rfl ?_
    refine wl_m M (q_pickT rfl hg49 rfl) rfl rfl ?_
    refine wl_nil ?_
    exact ⟨(), M, ⟨(show some (Value.bool true) = some (Value.bool (((decide (x0 < 0)) || (decide (t.states ≤ x0))) || ((decide (0 < (k0 : Int))) && (decide (x0 ≤ (t.finals.getD (k0 - 1) 0)))))) from by first | (simp only [hg43, hg49, Bool.true_or, Bool.false_or, Bool.true_and, Bool.false_and, Bool.or_true, Bool.or_false, Bool.and_true, Bool.and_false]; done) | simp_all), trivial⟩, unw_take 22 rfl rfl⟩
   refine wl_m M (q_guard 8 rfl rfl rfl hg49 (q_move rfl)) rfl rfl ?_
   refine wl_m M (q_guard 8 rfl rfl rfl hg49 (q_gtr rfl rfl)) rfl rfl ?_
   refine wl_m M (q_guard 8 rfl rfl rfl hg49 (q_move rfl)) rfl rfl ?_
   rcases Bool.eq_false_or_eq_true (decide (0 < (k0 : Int))) with hg52 | hg52
   ·refine wl_m M (q_guard 11 rfl rfl rfl hg52 (q_fa fo_29_2 rfl)) rfl rfl ?_
    refine wl_m M (q_guard 11 rfl rfl rfl hg52 (q_ldb 0 Tryd.underlying26 rfl rfl rfl rfl)) rfl rfl ?_
    refine wl_m M (q_guard 11 rfl rfl rfl hg52 (q_move rfl)) rfl rfl ?_
    refine wl_m M (q_guard 11 rfl rfl rfl hg52 (q_sub rfl rfl (IntWalk.i64_in _ (by omega)))) rfl rfl ?_
    have hk52 : 0 < k0 := by have := of_decide_eq_true hg52; omega
    refine wl_ixG (j := (k0 - 1)) 11 rfl rfl rfl hg52 M Rf Tryd.underlying26 rfl (ixe (by omega)) (getD_at (d := 0) (by omega)) rfl (fun b57 o57 p57 => ?_)
    refine wl_m M (q_guard 11 rfl rfl rfl hg52 (q_ldp p57 rfl rfl)) rfl rfl ?_
    refine wl_m M (q_guard 11 rfl rfl rfl hg52 (q_move rfl)) rfl rfl ?_
    refine wl_m M (q_guard 11 rfl rfl rfl hg52 (q_geq rfl rfl)) rfl rfl ?_
    refine wl_m M (q_guard 8 rfl rfl rfl hg49 (q_pickT rfl hg52 rfl)) rfl rfl ?_
    refine wl_m M (q_pickF rfl hg49 rfl) rfl rfl ?_
    refine wl_nil ?_
    exact ⟨(), M, ⟨(show some (Value.bool (decide (x0 ≤ (t.finals.getD (k0 - 1) 0)))) = some (Value.bool (((decide (x0 < 0)) || (decide (t.states ≤ x0))) || ((decide (0 < (k0 : Int))) && (decide (x0 ≤ (t.finals.getD (k0 - 1) 0)))))) from by first | (simp only [hg43, hg49, hg52, Bool.true_or, Bool.false_or, Bool.true_and, Bool.false_and, Bool.or_true, Bool.or_false, Bool.and_true, Bool.and_false]; done) | simp_all), trivial⟩, unw_take 22 rfl rfl⟩
   refine wl_m M (q_off 11 rfl rfl rfl hg52) rfl rfl ?_
   refine wl_m M (q_off 11 rfl rfl rfl hg52) rfl rfl ?_
   refine wl_m M (q_off 11 rfl rfl rfl hg52) rfl rfl ?_
   refine wl_m M (q_off 11 rfl rfl rfl hg52) rfl rfl ?_
   refine wl_m M (q_off 11 rfl rfl rfl hg52) rfl rfl ?_
   refine wl_m M (q_off 11 rfl rfl rfl hg52) rfl rfl ?_
   refine wl_m M (q_off 11 rfl rfl rfl hg52) rfl rfl ?_
   refine wl_m M (q_off 11 rfl rfl rfl hg52) rfl rfl ?_
   refine wl_m M (q_guard 8 rfl rfl rfl hg49 (q_pickF rfl hg52 rfl)) rfl rfl ?_
   refine wl_m M (q_pickF rfl hg49 rfl) rfl rfl ?_
   refine wl_nil ?_
   exact ⟨(), M, ⟨(show some (Value.bool false) = some (Value.bool (((decide (x0 < 0)) || (decide (t.states ≤ x0))) || ((decide (0 < (k0 : Int))) && (decide (x0 ≤ (t.finals.getD (k0 - 1) 0)))))) from by first | (simp only [hg43, hg49, hg52, Bool.true_or, Bool.false_or, Bool.true_and, Bool.false_and, Bool.or_true, Bool.or_false, Bool.and_true, Bool.and_false]; done) | simp_all), trivial⟩, unw_take 22 rfl rfl⟩
  rintro _ jr6 w4 M
  refine wc_cond rfl (fun ht62 => ?_) (fun ht62 => ?_)
  ·refine wc_seq ?_
   refine wc_region ?_
   refine wl_as M rfl rfl ?_
   refine wl_nil ?_
   refine wc_ret ?_
   exact out1 rfl rfl ⟨_, _, rfl, M.grow, by rw [valid_split, all_range_false (k := k0) (by omega) (by rw [finAt_of hx0, inR_or, ht62]; rfl)]; simp⟩
  refine wc_skip ?_
  refine wc_region ?_
  refine wl_m M (q_add rfl rfl (IntWalk.i64_in _ (by omega))) rfl rfl ?_
  refine wl_mv M rfl rfl ?_
  refine wl_nil ?_
  refine ⟨(k0 + 1), ?_, ⟨(by omega), (all_range_succ hf (by rw [finAt_of hx0, inR_or, ht62]; rfl)), M⟩, ⟨rfl, trivial⟩, unw_look rfl (unw_hav rfl (unw_look rfl unw_base))⟩
  show t.finals.length - (k0 + 1) < t.finals.length - k0
  omega
 have hke0 : k0 = t.finals.length := by omega
 rw [hke0] at hf
 refine wc_exit rfl ?_
 refine wc_seq ?_
 refine wc_seq ?_
 refine wc_region ?_
 refine wl_m M (q_fa fo_29_3 rfl) rfl rfl ?_
 refine wl_m M (q_ldb 0 Tryd.underlying27 rfl rfl rfl rfl) rfl rfl ?_
 refine wl_m M (q_lenR Ra Tryd.underlying27 rfl) rfl rfl ?_
 refine wl_mv M rfl rfl ?_
 refine wl_nil ?_
 refine wc_block ?_
 refine wc_loop (α := Nat) [2, 6, 67, 68, 69, 70, 71, 72, 73, 74, 75, 76, 77, 78, 79, 80, 81, 82, 83, 84, 85, 86, 87, 88, 89, 90, 91, 92, 93, 94, 95, 96, 97, 98, 99, 100, 101, 102, 103, 104, 105] (fun (k2 : Nat) => [(67, .int .i64 (k2 : Int))])
   (fun (k2 : Nat) w' => (k2 ≤ t.arcs.length) ∧ ((t.arcs.take k2).all (arcOk t.states) = true) ∧ Mem w I I (box b1 29 [.int .i64 t.states, .int .i64 t.start, sv fu, sv au] :: []) w')
   (fun (k2 : Nat) => t.arcs.length - k2) (0) ⟨rfl, trivial⟩ ?_ ?_
 ·refine ⟨Nat.zero_le _, rfl, ?_⟩
  exact M
 rintro k2 jj2 w5 ⟨hk2, ha, M⟩
 refine wc_seq ?_
 refine wc_region ?_
 refine wl_m M (q_lss rfl rfl) rfl rfl ?_
 refine wl_nil ?_
 refine wc_seq ?_
 refine wc_dec rfl (fun ht68 => ?_) (fun ht68 => ?_)
 ·obtain ⟨x2, hx2⟩ : ∃ x_, t.arcs[k2]? = some x_ := ⟨_, List.getElem?_eq_getElem (by omega)⟩
  have hll2 := (Ra).len_le
  have hll2 := Ra.len_le
  refine wc_skip ?_
  refine wc_seq ?_
  refine wc_block ?_
  refine wc_seq ?_
  refine wc_region ?_
  refine wl_ix (j := k2) M Ra Tryd.underlying27 rfl rfl hx2 rfl (fun b69 o69 p69 => ?_)
  refine wl_m M (q_ldp p69 rfl rfl) rfl rfl ?_
  refine wl_e (e_alloc M z52) rfl rfl ?_
  rintro _ w6 ⟨b6, rfl, M⟩
  refine wl_e0 (e_stW 0 M rfl rfl rfl sz52 rfl rfl) rfl ?_
  intro _ w7 M
  simp only [sC0, sCS] at M
  refine wl_nil ?_
  refine wc_seq ?_
  refine wc_join (α := Unit) [71, 72, 73, 74, 75, 76, 77, 78, 79, 80, 81, 82, 83, 84, 85, 86, 87, 88, 89, 90, 91, 92, 93, 94, 95, 96, 97, 98, 99, 100, 101, 102, 103, 104] (fun _ => [(104, .bool ((((((decide (x2.src < 0)) || (decide (t.states ≤ x2.src))) || (decide (x2.dst < 0))) || (decide (t.states ≤ x2.dst))) || (!(vRune x2.inp))) || (!(vRune x2.out))))]) (fun _ w' => Mem w I I (box b6 52 [.int .i64 x2.src, .int .i64 x2.dst, .int .i32 x2.inp, .int .i32 x2.out] :: box b1 29 [.int .i64 t.states, .int .i64 t.start, sv fu, sv au] :: []) w') ?_ ?_
  ·refine wc_region ?_
   refine wl_m M (q_fa fo_52_0 rfl) rfl rfl ?_
   refine wl_m M (q_ldb 0 Tryd.underlying3 rfl rfl rfl rfl) rfl rfl ?_
   refine wl_m M (q_lss rfl rfl) rfl rfl ?_
   refine wl_mv M rfl rfl ?_
   rcases Bool.eq_false_or_eq_true (decide (x2.src < 0)) with hg74 | hg74
   ·refine wl_m M (q_off 3 rfl rfl rfl hg74) rfl rfl ?_
    refine wl_m M (q_off 3 rfl rfl rfl hg74) rfl rfl ?_
    refine wl_m M (q_off 3 rfl rfl rfl hg74) rfl rfl ?_
    refine wl_m M (q_off 3 rfl rfl rfl hg74) rfl rfl ?_
    refine wl_m M (q_off 3 rfl rfl rfl hg74) rfl rfl ?_
    refine wl_m M (q_pickT rfl hg74 rfl) rfl rfl ?_
    refine wl_mv M rfl rfl ?_
    refine wl_m M (q_off 10 rfl rfl rfl rfl) rfl rfl ?_
    refine wl_m M (q_off 10 rfl rfl rfl rfl) rfl rfl ?_
    refine wl_m M (q_off 10 rfl rfl rfl rfl) rfl rfl ?_
    refine wl_m M (q_pickT rfl rfl rfl) rfl rfl ?_
    refine wl_mv M rfl rfl ?_
    refine wl_m M (q_off 15 rfl rfl rfl rfl) rfl rfl ?_
    refine wl_m M (q_off 15 rfl rfl rfl rfl) rfl rfl ?_
    refine wl_m M (q_off 15 rfl rfl rfl rfl) rfl rfl ?_
    refine wl_m M (q_off 15 rfl rfl rfl rfl) rfl rfl ?_
    refine wl_m M (q_off 15 rfl rfl rfl rfl) rfl rfl ?_
    refine wl_m M (q_pickT rfl rfl rfl) rfl rfl ?_
    refine wl_mv M rfl rfl ?_
    refine wl_m M (q_off 22 rfl rfl rfl rfl) rfl rfl ?_
    refine wl_m M (q_off 22 rfl rfl rfl rfl) rfl rfl ?_
    refine wl_m M (q_off 22 rfl rfl rfl rfl) rfl rfl ?_
    refine wl_m M (q_off 22 rfl rfl rfl rfl) rfl rfl ?_
    refine wl_m M (q_pickT rfl rfl rfl) rfl rfl ?_
    refine wl_mv M rfl rfl ?_
    refine wl_m M (q_off 28 rfl rfl rfl rfl) rfl rfl ?_
    refine wl_m M (q_off 28 rfl rfl rfl rfl) rfl rfl ?_
    refine wl_m M (q_off 28 rfl rfl rfl rfl) rfl rfl ?_
    refine wl_m M (q_off 28 rfl rfl rfl rfl) rfl rfl ?_
    refine wl_m M (q_pickT rfl rfl rfl) rfl rfl ?_
    refine wl_nil ?_
    exact ⟨(), M, ⟨(show some (Value.bool true) = some (Value.bool ((((((decide (x2.src < 0)) || (decide (t.states ≤ x2.src))) || (decide (x2.dst < 0))) || (decide (t.states ≤ x2.dst))) || (!(vRune x2.inp))) || (!(vRune x2.out)))) from by first | (simp only [hg74, Bool.true_or, Bool.false_or, Bool.true_and, Bool.false_and, Bool.or_true, Bool.or_false, Bool.and_true, Bool.and_false]; done) | simp_all), trivial⟩, unw_take 34 rfl rfl⟩
   refine wl_m M (q_guard 3 rfl rfl rfl hg74 (q_fa fo_52_0 rfl)) rfl rfl ?_
   refine wl_m M (q_guard 3 rfl rfl rfl hg74 (q_ldb 0 Tryd.underlying3 rfl rfl rfl rfl)) rfl rfl ?_
   refine wl_m M (q_guard 3 rfl rfl rfl hg74 (q_fa fo_29_0 rfl)) rfl rfl ?_
   refine wl_m M (q_guard 3 rfl rfl rfl hg74 (q_ldb 1 Tryd.underlying3 rfl rfl rfl rfl)) rfl rfl ?_
   refine wl_m M (q_guard 3 rfl rfl rfl hg74 (q_geq rfl rfl)) rfl rfl ?_
   refine wl_m M (q_pickF rfl hg74 rfl) rfl rfl ?_
   refine wl_mv M rfl rfl ?_
   rcases Bool.eq_false_or_eq_true (decide (t.states ≤ x2.src)) with hg81 | hg81
   ·refine wl_m M (q_off 10 rfl rfl rfl hg81) rfl rfl ?_
    refine wl_m M (q_off 10 rfl rfl rfl hg81) rfl rfl ?_
    refine wl_m M (q_off 10 rfl rfl rfl hg81) rfl rfl ?_
    refine wl_m M (q_pickT rfl hg81 rfl) rfl rfl ?_
    refine wl_mv M rfl rfl ?_
    refine wl_m M (q_off 15 rfl rfl rfl rfl) rfl rfl ?_
    refine wl_m M (q_off 15 rfl rfl rfl rfl) rfl rfl ?_
    refine wl_m M (q_off 15 rfl rfl rfl rfl) rfl rfl ?_
    refine wl_m M (q_off 15 rfl rfl rfl rfl) rfl rfl ?_
    refine wl_m M (q_off 15 rfl rfl rfl rfl) rfl rfl ?_
    refine wl_m M (q_pickT rfl rfl rfl) rfl rfl ?_
    refine wl_mv M rfl rfl ?_
    refine wl_m M (q_off 22 rfl rfl rfl rfl) rfl rfl ?_
    refine wl_m M (q_off 22 rfl rfl rfl rfl) rfl rfl ?_
    refine wl_m M (q_off 22 rfl rfl rfl rfl) rfl rfl ?_
    refine wl_m M (q_off 22 rfl rfl rfl rfl) rfl rfl ?_
    refine wl_m M (q_pickT rfl rfl rfl) rfl rfl ?_
    refine wl_mv M rfl rfl ?_
    refine wl_m M (q_off 28 rfl rfl rfl rfl) rfl rfl ?_
    refine wl_m M (q_off 28 rfl rfl rfl rfl) rfl rfl ?_
    refine wl_m M (q_off 28 rfl rfl rfl rfl) rfl rfl ?_
    refine wl_m M (q_off 28 rfl rfl rfl rfl) rfl rfl ?_
    refine wl_m M (q_pickT rfl rfl rfl) rfl rfl ?_
    refine wl_nil ?_
    exact ⟨(), M, ⟨(show some (Value.bool true) = some (Value.bool ((((((decide (x2.src < 0)) || (decide (t.states ≤ x2.src))) || (decide (x2.dst < 0))) || (decide (t.states ≤ x2.dst))) || (!(vRune x2.inp))) || (!(vRune x2.out)))) from by first | (simp only [hg74, hg81, Bool.true_or, Bool.false_or, Bool.true_and, Bool.false_and, Bool.or_true, Bool.or_false, Bool.and_true, Bool.and_false]; done) | simp_all), trivial⟩, unw_take 34 rfl rfl⟩
   refine wl_m M (q_guard 10 rfl rfl rfl hg81 (q_fa fo_52_1 rfl)) rfl rfl ?_
   refine wl_m M (q_guard 10 rfl rfl rfl hg81 (q_ldb 0 Tryd.underlying3 rfl rfl rfl rfl)) rfl rfl ?_
   refine wl_m M (q_guard 10 rfl rfl rfl hg81 (q_lss rfl rfl)) rfl rfl ?_
   refine wl_m M (q_pickF rfl hg81 rfl) rfl rfl ?_
   refine wl_mv M rfl rfl ?_
   rcases Bool.eq_false_or_eq_true (decide (x2.dst < 0)) with hg86 | hg86
   ·refine wl_m M (q_off 15 rfl rfl rfl hg86) rfl rfl ?_
    refine wl_m M (q_off 15 rfl rfl rfl hg86) rfl rfl ?_
    refine wl_m M (q_off 15 rfl rfl rfl hg86) rfl rfl ?_
    refine wl_m M (q_off 15 rfl rfl rfl hg86) rfl rfl ?_
    refine wl_m M (q_off 15 rfl rfl rfl hg86) rfl rfl ?_
    refine wl_m M (q_pickT rfl hg86 rfl) rfl rfl ?_
    refine wl_mv M rfl rfl ?_
    refine wl_m M (q_off 22 rfl rfl rfl rfl) rfl rfl ?_
    refine wl_m M (q_off 22 rfl rfl rfl rfl) rfl rfl ?_
    refine wl_m M (q_off 22 rfl rfl rfl rfl) rfl rfl ?_
    refine wl_m M (q_off 22 rfl rfl rfl rfl) rfl rfl ?_
    refine wl_m M (q_pickT rfl rfl rfl) rfl rfl ?_
    refine wl_mv M rfl rfl ?_
    refine wl_m M (q_off 28 rfl rfl rfl rfl) rfl rfl ?_
    refine wl_m M (q_off 28 rfl rfl rfl rfl) rfl rfl ?_
    refine wl_m M (q_off 28 rfl rfl rfl rfl) rfl rfl ?_
    refine wl_m M (q_off 28 rfl rfl rfl rfl) rfl rfl ?_
    refine wl_m M (q_pickT rfl rfl rfl) rfl rfl ?_
    refine wl_nil ?_
    exact ⟨(), M, ⟨(show some (Value.bool true) = some (Value.bool ((((((decide (x2.src < 0)) || (decide (t.states ≤ x2.src))) || (decide (x2.dst < 0))) || (decide (t.states ≤ x2.dst))) || (!(vRune x2.inp))) || (!(vRune x2.out)))) from by first | (simp only [hg74, hg81, hg86, Bool.true_or, Bool.false_or, Bool.true_and, Bool.false_and, Bool.or_true, Bool.or_false, Bool.and_true, Bool.and_false]; done) | simp_all), trivial⟩, unw_take 34 rfl rfl⟩
   refine wl_m M (q_guard 15 rfl rfl rfl hg86 (q_fa fo_52_1 rfl)) rfl rfl ?_
   refine wl_m M (q_guard 15 rfl rfl rfl hg86 (q_ldb 0 Tryd.underlying3 rfl rfl rfl rfl)) rfl rfl ?_
   refine wl_m M (q_guard 15 rfl rfl rfl hg86 (q_fa fo_29_0 rfl)) rfl rfl ?_
   refine wl_m M (q_guard 15 rfl rfl rfl hg86 (q_ldb 1 Tryd.underlying3 rfl rfl rfl rfl)) rfl rfl ?_
   refine wl_m M (q_guard 15 rfl rfl rfl hg86 (q_geq rfl rfl)) rfl rfl ?_
   refine wl_m M (q_pickF rfl hg86 rfl) rfl rfl ?_
   refine wl_mv M rfl rfl ?_
   rcases Bool.eq_false_or_eq_true (decide (t.states ≤ x2.dst)) with hg93 | hg93
   ·refine wl_m M (q_off 22 rfl rfl rfl hg93) rfl rfl ?_
    refine wl_m M (q_off 22 rfl rfl rfl hg93) rfl rfl ?_
    refine wl_m M (q_off 22 rfl rfl rfl hg93) rfl rfl ?_
    refine wl_m M (q_off 22 rfl rfl rfl hg93) rfl rfl ?_
    refine wl_m M (q_pickT rfl hg93 rfl) rfl rfl ?_
    refine wl_mv M rfl rfl ?_
    refine wl_m M (q_off 28 rfl rfl rfl rfl) rfl rfl ?_
    refine wl_m M (q_off 28 rfl rfl rfl rfl) rfl rfl ?_
    refine wl_m M (q_off 28 rfl rfl rfl rfl) rfl rfl ?_
    refine wl_m M (q_off 28 rfl rfl rfl rfl) rfl rfl ?_
    refine wl_m M (q_pickT rfl rfl rfl) rfl rfl ?_
    refine wl_nil ?_
    exact ⟨(), M, ⟨(show some (Value.bool true) = some (Value.bool ((((((decide (x2.src < 0)) || (decide (t.states ≤ x2.src))) || (decide (x2.dst < 0))) || (decide (t.states ≤ x2.dst))) || (!(vRune x2.inp))) || (!(vRune x2.out)))) from by first | (simp only [hg74, hg81, hg86, hg93, Bool.true_or, Bool.false_or, Bool.true_and, Bool.false_and, Bool.or_true, Bool.or_false, Bool.and_true, Bool.and_false]; done) | simp_all), trivial⟩, unw_take 34 rfl rfl⟩
   refine wl_m M (q_guard 22 rfl rfl rfl hg93 (q_fa fo_52_2 rfl)) rfl rfl ?_
   refine wl_m M (q_guard 22 rfl rfl rfl hg93 (q_ldb 0 Tryd.underlying21 rfl rfl rfl rfl)) rfl rfl ?_
   refine wl_e (e_guard 22 rfl rfl rfl hg93 (e_callC M (validRune4_c x2.inp M.imm) Tryd.func76 rfl rfl)) rfl rfl ?_
   rintro _ w8 ⟨J96, hJ96, rfl, M⟩
   replace M := M.less hJ96 (fun _ _ => rfl)
   refine wl_m M (q_guard 22 rfl rfl rfl hg93 (q_not rfl)) rfl rfl ?_
   refine wl_m M (q_pickF rfl hg93 rfl) rfl rfl ?_
   refine wl_mv M rfl rfl ?_
   rcases Bool.eq_false_or_eq_true (!(vRune x2.inp)) with hg99 | hg99
   ·refine wl_m M (q_off 28 rfl rfl rfl hg99) rfl rfl ?_
    refine wl_m M (q_off 28 rfl rfl rfl hg99) rfl rfl ?_
    refine wl_m M (q_off 28 rfl rfl rfl hg99) rfl rfl ?_
    refine wl_m M (q_off 28 rfl rfl rfl hg99) rfl rfl ?_
    refine wl_m M (q_pickT rfl hg99 rfl) rfl rfl ?_
    refine wl_nil ?_
    exact ⟨(), M, ⟨(show some (Value.bool true) = some (Value.bool ((((((decide (x2.src < 0)) || (decide (t.states ≤ x2.src))) || (decide (x2.dst < 0))) || (decide (t.states ≤ x2.dst))) || (!(vRune x2.inp))) || (!(vRune x2.out)))) from by first | (simp only [hg74, hg81, hg86, hg93, hg99, Bool.true_or, Bool.false_or, Bool.true_and, Bool.false_and, Bool.or_true, Bool.or_false, Bool.and_true, Bool.and_false]; done) | simp_all), trivial⟩, unw_take 34 rfl rfl⟩
   refine wl_m M (q_guard 28 rfl rfl rfl hg99 (q_fa fo_52_3 rfl)) rfl rfl ?_
   refine wl_m M (q_guard 28 rfl rfl rfl hg99 (q_ldb 0 Tryd.underlying21 rfl rfl rfl rfl)) rfl rfl ?_
   refine wl_e (e_guard 28 rfl rfl rfl hg99 (e_callC M (validRune4_c x2.out M.imm) Tryd.func76 rfl rfl)) rfl rfl ?_
   rintro _ w9 ⟨J102, hJ102, rfl, M⟩
   replace M := M.less hJ102 (fun _ _ => rfl)
   refine wl_m M (q_guard 28 rfl rfl rfl hg99 (q_not rfl)) rfl rfl ?_
   refine wl_m M (q_pickF rfl hg99 rfl) rfl rfl ?_
   refine wl_nil ?_
   exact ⟨(), M, ⟨(show some (Value.bool (!(vRune x2.out))) = some (Value.bool ((((((decide (x2.src < 0)) || (decide (t.states ≤ x2.src))) || (decide (x2.dst < 0))) || (decide (t.states ≤ x2.dst))) || (!(vRune x2.inp))) || (!(vRune x2.out)))) from by first | (simp only [hg74, hg81, hg86, hg93, hg99, Bool.true_or, Bool.false_or, Bool.true_and, Bool.false_and, Bool.or_true, Bool.or_false, Bool.and_true, Bool.and_false]; done) | simp_all), trivial⟩, unw_take 34 rfl rfl⟩
  rintro _ jr12 w10 M
  refine wc_cond rfl (fun ht104 => ?_) (fun ht104 => ?_)
  ·refine wc_seq ?_
   refine wc_region ?_
   refine wl_as M rfl rfl ?_
   refine wl_nil ?_
   refine wc_ret ?_
   exact out1 rfl rfl ⟨_, _, rfl, M.grow, by rw [valid_split, all_false_at (f := arcOk t.states) hx2 (by rw [arcOk_or, ht104]; rfl)]; simp⟩
  refine wc_skip ?_
  refine wc_region ?_
  refine wl_m M (q_add rfl rfl (IntWalk.i64_in _ (by omega))) rfl rfl ?_
  refine wl_mv M rfl rfl ?_
  refine wl_nil ?_
  replace M := M.drop 0
  refine ⟨(k2 + 1), ?_, ⟨(by omega), (all_take_succ hx2 ha (by rw [arcOk_or, ht104]; rfl)), M⟩, ⟨rfl, trivial⟩, unw_look rfl (unw_hav rfl (unw_look rfl unw_base))⟩
  show t.arcs.length - (k2 + 1) < t.arcs.length - k2
  omega
 have hke2 : k2 = t.arcs.length := by omega
 rw [hke2, List.take_length] at ha
 refine wc_exit rfl ?_
 refine wc_seq ?_
 refine wc_region ?_
 refine wl_as M rfl rfl ?_
 refine wl_nil ?_
 refine wc_ret ?_
 exact out1 rfl rfl ⟨_, _, rfl, M.grow, by rw [valid_split, h32, hf, ha]; rfl⟩
theorem same4_c (a b : Tra) {v1 v2 : Value} {I : Heap} {w : World} (hI : hle I (hp w)) (R1 : a.rd I v1) (R2 : b.rd I v2) : Calls A 46 #[v1, v2] w (Ret w I fun v _ => v = .bool (decide (a = b))) := by
 obtain ⟨fu1, au1, rfl, Rf1, Ra1⟩ := R1
 obtain ⟨fu2, au2, rfl, Rf2, Ra2⟩ := R2
 have M := Mem.start hI
 refine enter Tryd.func46 rfl 73 Tryd.ntmps46 [_, _] rfl ?_
 refine wc_seq ?_
 refine wc_region ?_
 refine wl_e (e_box M rfl) rfl rfl ?_
 rintro _ w1 ⟨b2, rfl, M⟩
 refine wl_e (e_box M rfl) rfl rfl ?_
 rintro _ w2 ⟨b3, rfl, M⟩
 refine wl_as M rfl rfl ?_
 refine wl_nil ?_
 refine wc_seq ?_
 refine wc_seq ?_
 refine wc_join (α := Unit) [7, 8, 9, 10, 11, 12, 13, 14, 15, 16, 17, 18, 19, 20, 21, 22, 23, 24, 25, 26, 27, 28, 29, 30, 31, 32, 33, 34, 35, 36] (fun _ => [(36, .bool ((((!decide (a.states = b.states)) || (!decide (a.start = b.start))) || (!decide ((a.finals.length : Int) = (b.finals.length : Int)))) || (!decide ((a.arcs.length : Int) = (b.arcs.length : Int)))))]) (fun _ w' => Mem w I I (box b3 29 [.int .i64 b.states, .int .i64 b.start, sv fu2, sv au2] :: box b2 29 [.int .i64 a.states, .int .i64 a.start, sv fu1, sv au1] :: []) w') ?_ ?_
 ·refine wc_region ?_
  refine wl_m M (q_fa fo_29_0 rfl) rfl rfl ?_
  refine wl_m M (q_ldb 1 Tryd.underlying3 rfl rfl rfl rfl) rfl rfl ?_
  refine wl_m M (q_fa fo_29_0 rfl) rfl rfl ?_
  refine wl_m M (q_ldb 0 Tryd.underlying3 rfl rfl rfl rfl) rfl rfl ?_
  refine wl_m M (q_neq rfl rfl) rfl rfl ?_
  refine wl_mv M rfl rfl ?_
  rcases Bool.eq_false_or_eq_true (!decide (a.states = b.states)) with hg12 | hg12
  ·refine wl_m M (q_off 5 rfl rfl rfl hg12) rfl rfl ?_
   refine wl_m M (q_off 5 rfl rfl rfl hg12) rfl rfl ?_
   refine wl_m M (q_off 5 rfl rfl rfl hg12) rfl rfl ?_
   refine wl_m M (q_off 5 rfl rfl rfl hg12) rfl rfl ?_
   refine wl_m M (q_off 5 rfl rfl rfl hg12) rfl rfl ?_
   refine wl_m M (q_pickT rfl hg12 rfl) rfl rfl ?_
   refine wl_mv M rfl rfl ?_
   refine wl_m M (q_off 12 rfl rfl rfl rfl) rfl rfl ?_
   refine wl_m M (q_off 12 rfl rfl rfl rfl) rfl rfl ?_
   refine wl_m M (q_off 12 rfl rfl rfl rfl) rfl rfl ?_
   refine wl_m M (q_off 12 rfl rfl rfl rfl) rfl rfl ?_
   refine wl_m M (q_off 12 rfl rfl rfl rfl) rfl rfl ?_
   refine wl_m M (q_off 12 rfl rfl rfl rfl) rfl rfl ?_
   refine wl_m M (q_off 12 rfl rfl rfl rfl) rfl rfl ?_
   refine wl_m M (q_pickT rfl rfl rfl) rfl rfl ?_
   refine wl_mv M rfl rfl ?_
   refine wl_m M (q_off 21 rfl rfl rfl rfl) rfl rfl ?_
   refine wl_m M (q_off 21 rfl rfl rfl rfl) rfl rfl ?_
   refine wl_m M (q_off 21 rfl rfl rfl rfl) rfl rfl ?_
   refine wl_m M (q_off 21 rfl rfl rfl rfl) rfl rfl ?_
   refine wl_m M (q_off 21 rfl rfl rfl rfl) rfl rfl ?_
   refine wl_m M (q_off 21 rfl rfl rfl rfl) rfl rfl ?_
   refine wl_m M (q_off 21 rfl rfl rfl rfl) rfl rfl ?_
   refine wl_m M (q_pickT rfl rfl rfl) rfl rfl ?_
   refine wl_nil ?_
   exact ⟨(), M, ⟨(show some (Value.bool true) = some (Value.bool ((((!decide (a.states = b.states)) || (!decide (a.start = b.start))) || (!decide ((a.finals.length : Int) = (b.finals.length : Int)))) || (!decide ((a.arcs.length : Int) = (b.arcs.length : Int))))) from by first | (simp only [hg12, Bool.true_or, Bool.false_or, Bool.true_and, Bool.false_and, Bool.or_true, Bool.or_false, Bool.and_true, Bool.and_false]; done) | simp_all), trivial⟩, unw_take 30 rfl rfl⟩
  refine wl_m M (q_guard 5 rfl rfl rfl hg12 (q_fa fo_29_1 rfl)) rfl rfl ?_
  refine wl_m M (q_guard 5 rfl rfl rfl hg12 (q_ldb 1 Tryd.underlying3 rfl rfl rfl rfl)) rfl rfl ?_
  refine wl_m M (q_guard 5 rfl rfl rfl hg12 (q_fa fo_29_1 rfl)) rfl rfl ?_
  refine wl_m M (q_guard 5 rfl rfl rfl hg12 (q_ldb 0 Tryd.underlying3 rfl rfl rfl rfl)) rfl rfl ?_
  refine wl_m M (q_guard 5 rfl rfl rfl hg12 (q_neq rfl rfl)) rfl rfl ?_
  refine wl_m M (q_pickF rfl hg12 rfl) rfl rfl ?_
  refine wl_mv M rfl rfl ?_
  rcases Bool.eq_false_or_eq_true (!decide (a.start = b.start)) with hg19 | hg19
  ·refine wl_m M (q_off 12 rfl rfl rfl hg19) rfl rfl ?_
   refine wl_m M (q_off 12 rfl rfl rfl hg19) rfl rfl ?_
   refine wl_m M (q_off 12 rfl rfl rfl hg19) rfl rfl ?_
   refine wl_m M (q_off 12 rfl rfl rfl hg19) rfl rfl ?_
   refine wl_m M (q_off 12 rfl rfl rfl hg19) rfl rfl ?_
   refine wl_m M (q_off 12 rfl rfl rfl hg19) rfl rfl ?_
   refine wl_m M (q_off 12 rfl rfl rfl hg19) rfl rfl ?_
   refine wl_m M (q_pickT rfl hg19 rfl) rfl rfl ?_
   refine wl_mv M rfl rfl ?_
   refine wl_m M (q_off 21 rfl rfl rfl rfl) rfl rfl ?_
   refine wl_m M (q_off 21 rfl rfl rfl rfl) rfl rfl ?_
   refine wl_m M (q_off 21 rfl rfl rfl rfl) rfl rfl ?_
   refine wl_m M (q_off 21 rfl rfl rfl rfl) rfl rfl ?_
   refine wl_m M (q_off 21 rfl rfl rfl rfl) rfl rfl ?_
   refine wl_m M (q_off 21 rfl rfl rfl rfl) rfl rfl ?_
   refine wl_m M (q_off 21 rfl rfl rfl rfl) rfl rfl ?_
   refine wl_m M (q_pickT rfl rfl rfl) rfl rfl ?_
   refine wl_nil ?_
   exact ⟨(), M, ⟨(show some (Value.bool true) = some (Value.bool ((((!decide (a.states = b.states)) || (!decide (a.start = b.start))) || (!decide ((a.finals.length : Int) = (b.finals.length : Int)))) || (!decide ((a.arcs.length : Int) = (b.arcs.length : Int))))) from by first | (simp only [hg12, hg19, Bool.true_or, Bool.false_or, Bool.true_and, Bool.false_and, Bool.or_true, Bool.or_false, Bool.and_true, Bool.and_false]; done) | simp_all), trivial⟩, unw_take 30 rfl rfl⟩
  refine wl_m M (q_guard 12 rfl rfl rfl hg19 (q_fa fo_29_2 rfl)) rfl rfl ?_
  refine wl_m M (q_guard 12 rfl rfl rfl hg19 (q_ldb 1 Tryd.underlying26 rfl rfl rfl rfl)) rfl rfl ?_
  refine wl_m M (q_guard 12 rfl rfl rfl hg19 (q_lenR Rf1 Tryd.underlying26 rfl)) rfl rfl ?_
  refine wl_m M (q_guard 12 rfl rfl rfl hg19 (q_fa fo_29_2 rfl)) rfl rfl ?_
  refine wl_m M (q_guard 12 rfl rfl rfl hg19 (q_ldb 0 Tryd.underlying26 rfl rfl rfl rfl)) rfl rfl ?_
  refine wl_m M (q_guard 12 rfl rfl rfl hg19 (q_lenR Rf2 Tryd.underlying26 rfl)) rfl rfl ?_
  refine wl_m M (q_guard 12 rfl rfl rfl hg19 (q_neq rfl rfl)) rfl rfl ?_
  refine wl_m M (q_pickF rfl hg19 rfl) rfl rfl ?_
  refine wl_mv M rfl rfl ?_
  rcases Bool.eq_false_or_eq_true (!decide ((a.finals.length : Int) = (b.finals.length : Int))) with hg28 | hg28
  ·refine wl_m M (q_off 21 rfl rfl rfl hg28) rfl rfl ?_
   refine wl_m M (q_off 21 rfl rfl rfl hg28) rfl rfl ?_
   refine wl_m M (q_off 21 rfl rfl rfl hg28) rfl rfl ?_
   refine wl_m M (q_off 21 rfl rfl rfl hg28) rfl rfl ?_
   refine wl_m M (q_off 21 rfl rfl rfl hg28) rfl rfl ?_
   refine wl_m M (q_off 21 rfl rfl rfl hg28) rfl rfl ?_
   refine wl_m M (q_off 21 rfl rfl rfl hg28) rfl rfl ?_
   refine wl_m M (q_pickT rfl hg28 rfl) rfl rfl ?_
   refine wl_nil ?_
   exact ⟨(), M, ⟨(show some (Value.bool true) = some (Value.bool ((((!decide (a.states = b.states)) || (!decide (a.start = b.start))) || (!decide ((a.finals.length : Int) = (b.finals.length : Int)))) || (!decide ((a.arcs.length : Int) = (b.arcs.length : Int))))) from by first | (simp only [hg12, hg19, hg28, Bool.true_or, Bool.false_or, Bool.true_and, Bool.false_and, Bool.or_true, Bool.or_false, Bool.and_true, Bool.and_false]; done) | simp_all), trivial⟩, unw_take 30 rfl rfl⟩
  refine wl_m M (q_guard 21 rfl rfl rfl hg28 (q_fa fo_29_3 rfl)) rfl rfl ?_
  refine wl_m M (q_guard 21 rfl rfl rfl hg28 (q_ldb 1 Tryd.underlying27 rfl rfl rfl rfl)) rfl rfl ?_
  refine wl_m M (q_guard 21 rfl rfl rfl hg28 (q_lenR Ra1 Tryd.underlying27 rfl)) rfl rfl ?_
  refine wl_m M (q_guard 21 rfl rfl rfl hg28 (q_fa fo_29_3 rfl)) rfl rfl ?_
  refine wl_m M (q_guard 21 rfl rfl rfl hg28 (q_ldb 0 Tryd.underlying27 rfl rfl rfl rfl)) rfl rfl ?_
  refine wl_m M (q_guard 21 rfl rfl rfl hg28 (q_lenR Ra2 Tryd.underlying27 rfl)) rfl rfl ?_
  refine wl_m M (q_guard 21 rfl rfl rfl hg28 (q_neq rfl rfl)) rfl rfl ?_
  refine wl_m M (q_pickF rfl hg28 rfl) rfl rfl ?_
  refine wl_nil ?_
  exact ⟨(), M, ⟨(show some (Value.bool (!decide ((a.arcs.length : Int) = (b.arcs.length : Int)))) = some (Value.bool ((((!decide (a.states = b.states)) || (!decide (a.start = b.start))) || (!decide ((a.finals.length : Int) = (b.finals.length : Int)))) || (!decide ((a.arcs.length : Int) = (b.arcs.length : Int))))) from by first | (simp only [hg12, hg19, hg28, Bool.true_or, Bool.false_or, Bool.true_and, Bool.false_and, Bool.or_true, Bool.or_false, Bool.and_true, Bool.and_false]; done) | simp_all), trivial⟩, unw_take 30 rfl rfl⟩
 rintro _ jr1 w3 M
 refine wc_cond rfl (fun ht36 => ?_) (fun ht36 => ?_)
 ·refine wc_seq ?_
  refine wc_region ?_
  refine wl_as M rfl rfl ?_
  refine wl_nil ?_
  refine wc_ret ?_
  exact out1 rfl rfl ⟨_, _, rfl, M.grow, by rw [decide_eq_false (fun e => by subst e; simp at ht36)]⟩
 obtain ⟨⟨⟨h1, h2⟩, h3⟩, h4⟩ : ((a.states = b.states ∧ a.start = b.start) ∧ (a.finals.length : Int) = b.finals.length) ∧ (a.arcs.length : Int) = b.arcs.length := by simpa using ht36
 refine wc_skip ?_
 refine wc_seq ?_
 refine wc_seq ?_
 refine wc_region ?_
 refine wl_m M (q_fa fo_29_2 rfl) rfl rfl ?_
 refine wl_m M (q_ldb 1 Tryd.underlying26 rfl rfl rfl rfl) rfl rfl ?_
 refine wl_m M (q_lenR Rf1 Tryd.underlying26 rfl) rfl rfl ?_
 refine wl_mv M rfl rfl ?_
 refine wl_nil ?_
 refine wc_block ?_
 refine wc_loop (α := Nat) [4, 5, 40, 41, 42, 43, 44, 45, 46, 47, 48, 49, 50, 51, 52, 53, 54] (fun (k0 : Nat) => [(40, .int .i64 (k0 : Int))])
   (fun (k0 : Nat) w' => (k0 ≤ a.finals.length) ∧ (a.finals.take k0 = b.finals.take k0) ∧ Mem w I I (box b3 29 [.int .i64 b.states, .int .i64 b.start, sv fu2, sv au2] :: box b2 29 [.int .i64 a.states, .int .i64 a.start, sv fu1, sv au1] :: []) w')
   (fun (k0 : Nat) => a.finals.length - k0) (0) ⟨rfl, trivial⟩ ?_ ?_
 ·refine ⟨Nat.zero_le _, rfl, ?_⟩
  exact M
 rintro k0 jj0 w4 ⟨hk0, hf, M⟩
 refine wc_seq ?_
 refine wc_region ?_
 refine wl_m M (q_lss rfl rfl) rfl rfl ?_
 refine wl_nil ?_
 refine wc_seq ?_
 refine wc_dec rfl (fun ht41 => ?_) (fun ht41 => ?_)
 ·obtain ⟨x0, hx0⟩ : ∃ x_, a.finals[k0]? = some x_ := ⟨_, List.getElem?_eq_getElem (by omega)⟩
  have hll0 := (Rf1).len_le
  have hll0 := Rf1.len_le
  obtain ⟨y0, hy0⟩ : ∃ y, b.finals[k0]? = some y := ⟨_, List.getElem?_eq_getElem (by omega)⟩
  refine wc_skip ?_
  refine wc_seq ?_
  refine wc_block ?_
  refine wc_seq ?_
  refine wc_region ?_
  refine wl_mv M rfl rfl ?_
  refine wl_as M rfl rfl ?_
  refine wl_nil ?_
  refine wc_seq ?_
  refine wc_draws (fun w' => Mem w I I (box b3 29 [.int .i64 b.states, .int .i64 b.start, sv fu2, sv au2] :: box b2 29 [.int .i64 a.states, .int .i64 a.start, sv fu1, sv au1] :: []) w' ∧ True) [] fol ?_
  replace M := M.drew
  have hS := (⟨M, trivial⟩ : _ ∧ _)
  refine wa_q 0 rfl (by kernel_rfl) (q_fa fo_29_2 rfl) hS rfl rfl ?_
  refine wa_q 1 rfl (by kernel_rfl) ((q_ldb 1 Tryd.underlying26 rfl rfl rfl rfl).mono fun _ h => h.1) hS rfl rfl ?_
  refine wa_q 2 rfl (by kernel_rfl) (q_move rfl) hS rfl rfl ?_
  refine wa_ixS (j := k0) 3 hS (fun _ h => Rf1.mono h.1.imm) rfl (by kernel_rfl) Tryd.underlying26 rfl rfl hx0 rfl (fun b46 o46 p46 => ?_)
  refine wa_q 4 rfl (by kernel_rfl) (q_ldp p46 rfl rfl) hS rfl rfl ?_
  refine wa_q 5 rfl (by kernel_rfl) (q_fa fo_29_2 rfl) hS rfl rfl ?_
  refine wa_q 6 rfl (by kernel_rfl) ((q_ldb 0 Tryd.underlying26 rfl rfl rfl rfl).mono fun _ h => h.1) hS rfl rfl ?_
  refine wa_q 7 rfl (by kernel_rfl) (q_move rfl) hS rfl rfl ?_
  refine wa_ixS (j := k0) 8 hS (fun _ h => Rf2.mono h.1.imm) rfl (by kernel_rfl) Tryd.underlying26 rfl rfl hy0 rfl (fun b51 o51 p51 => ?_)
  refine wa_q 9 rfl (by kernel_rfl) (q_ldp p51 rfl rfl) hS rfl rfl ?_
  refine wa_q 10 rfl (by kernel_rfl) (q_neq rfl rfl) hS rfl rfl ?_
  refine wa_done (by kernel_rfl) ?_
  refine wc_cond rfl (fun ht53 => ?_) (fun ht53 => ?_)
  ·refine wc_seq ?_
   refine wc_region ?_
   refine wl_as M rfl rfl ?_
   refine wl_nil ?_
   refine wc_ret ?_
   exact out1 rfl rfl ⟨_, _, rfl, M.grow, by rw [decide_eq_false (fun e => nd_t ht53 (by subst e; rw [hx0] at hy0; exact Option.some.inj hy0))]⟩
  refine wc_skip ?_
  refine wc_region ?_
  refine wl_m M (q_add rfl rfl (IntWalk.i64_in _ (by omega))) rfl rfl ?_
  refine wl_mv M rfl rfl ?_
  refine wl_nil ?_
  refine ⟨(k0 + 1), ?_, ⟨(by omega), (by rw [take_snoc hx0, take_snoc hy0, hf, nd_f ht53]), M⟩, ⟨rfl, trivial⟩, unw_look rfl unw_base⟩
  show a.finals.length - (k0 + 1) < a.finals.length - k0
  omega
 have hke0 : k0 = a.finals.length := by omega
 rw [hke0, List.take_length, show a.finals.length = b.finals.length by omega, List.take_length] at hf
 refine wc_exit rfl ?_
 refine wc_seq ?_
 refine wc_seq ?_
 refine wc_region ?_
 refine wl_m M (q_fa fo_29_3 rfl) rfl rfl ?_
 refine wl_m M (q_ldb 1 Tryd.underlying27 rfl rfl rfl rfl) rfl rfl ?_
 refine wl_m M (q_lenR Ra1 Tryd.underlying27 rfl) rfl rfl ?_
 refine wl_mv M rfl rfl ?_
 refine wl_nil ?_
 refine wc_block ?_
 refine wc_loop (α := Nat) [4, 6, 58, 59, 60, 61, 62, 63, 64, 65, 66, 67, 68, 69, 70, 71, 72] (fun (k2 : Nat) => [(58, .int .i64 (k2 : Int))])
   (fun (k2 : Nat) w' => (k2 ≤ a.arcs.length) ∧ (a.arcs.take k2 = b.arcs.take k2) ∧ Mem w I I (box b3 29 [.int .i64 b.states, .int .i64 b.start, sv fu2, sv au2] :: box b2 29 [.int .i64 a.states, .int .i64 a.start, sv fu1, sv au1] :: []) w')
   (fun (k2 : Nat) => a.arcs.length - k2) (0) ⟨rfl, trivial⟩ ?_ ?_
 ·refine ⟨Nat.zero_le _, rfl, ?_⟩
  exact M
 rintro k2 jj2 w5 ⟨hk2, he, M⟩
 refine wc_seq ?_
 refine wc_region ?_
 refine wl_m M (q_lss rfl rfl) rfl rfl ?_
 refine wl_nil ?_
 refine wc_seq ?_
 refine wc_dec rfl (fun ht59 => ?_) (fun ht59 => ?_)
 ·obtain ⟨x2, hx2⟩ : ∃ x_, a.arcs[k2]? = some x_ := ⟨_, List.getElem?_eq_getElem (by omega)⟩
  have hll2 := (Ra1).len_le
  have hll2 := Ra1.len_le
  obtain ⟨y2, hy2⟩ : ∃ y, b.arcs[k2]? = some y := ⟨_, List.getElem?_eq_getElem (by omega)⟩
  refine wc_skip ?_
  refine wc_seq ?_
  refine wc_block ?_
  refine wc_seq ?_
  refine wc_region ?_
  refine wl_mv M rfl rfl ?_
  refine wl_as M rfl rfl ?_
  refine wl_nil ?_
  refine wc_seq ?_
  refine wc_draws (fun w' => Mem w I I (box b3 29 [.int .i64 b.states, .int .i64 b.start, sv fu2, sv au2] :: box b2 29 [.int .i64 a.states, .int .i64 a.start, sv fu1, sv au1] :: []) w' ∧ True) [] fol ?_
  replace M := M.drew
  have hS := (⟨M, trivial⟩ : _ ∧ _)
  refine wa_q 0 rfl (by kernel_rfl) (q_fa fo_29_3 rfl) hS rfl rfl ?_
  refine wa_q 1 rfl (by kernel_rfl) ((q_ldb 1 Tryd.underlying27 rfl rfl rfl rfl).mono fun _ h => h.1) hS rfl rfl ?_
  refine wa_q 2 rfl (by kernel_rfl) (q_move rfl) hS rfl rfl ?_
  refine wa_ixS (j := k2) 3 hS (fun _ h => Ra1.mono h.1.imm) rfl (by kernel_rfl) Tryd.underlying27 rfl rfl hx2 rfl (fun b64 o64 p64 => ?_)
  refine wa_q 4 rfl (by kernel_rfl) (q_ldp p64 rfl rfl) hS rfl rfl ?_
  refine wa_q 5 rfl (by kernel_rfl) (q_fa fo_29_3 rfl) hS rfl rfl ?_
  refine wa_q 6 rfl (by kernel_rfl) ((q_ldb 0 Tryd.underlying27 rfl rfl rfl rfl).mono fun _ h => h.1) hS rfl rfl ?_
  refine wa_q 7 rfl (by kernel_rfl) (q_move rfl) hS rfl rfl ?_
  refine wa_ixS (j := k2) 8 hS (fun _ h => Ra2.mono h.1.imm) rfl (by kernel_rfl) Tryd.underlying27 rfl rfl hy2 rfl (fun b69 o69 p69 => ?_)
  refine wa_q 9 rfl (by kernel_rfl) (q_ldp p69 rfl rfl) hS rfl rfl ?_
  refine wa_q 10 rfl (by kernel_rfl) (q_neqK QArcE x2 y2 rfl rfl rfl) hS rfl rfl ?_
  refine wa_done (by kernel_rfl) ?_
  refine wc_cond rfl (fun ht71 => ?_) (fun ht71 => ?_)
  ·refine wc_seq ?_
   refine wc_region ?_
   refine wl_as M rfl rfl ?_
   refine wl_nil ?_
   refine wc_ret ?_
   exact out1 rfl rfl ⟨_, _, rfl, M.grow, by rw [decide_eq_false (fun e => nd_t ht71 (by subst e; rw [hx2] at hy2; exact Option.some.inj hy2))]⟩
  refine wc_skip ?_
  refine wc_region ?_
  refine wl_m M (q_add rfl rfl (IntWalk.i64_in _ (by omega))) rfl rfl ?_
  refine wl_mv M rfl rfl ?_
  refine wl_nil ?_
  refine ⟨(k2 + 1), ?_, ⟨(by omega), (by rw [take_snoc hx2, take_snoc hy2, he, nd_f ht71]), M⟩, ⟨rfl, trivial⟩, unw_look rfl unw_base⟩
  show a.arcs.length - (k2 + 1) < a.arcs.length - k2
  omega
 have hke2 : k2 = a.arcs.length := by omega
 rw [hke2, List.take_length, show a.arcs.length = b.arcs.length by omega, List.take_length] at he
 refine wc_exit rfl ?_
 refine wc_seq ?_
 refine wc_region ?_
 refine wl_as M rfl rfl ?_
 refine wl_nil ?_
 refine wc_ret ?_
 exact out1 rfl rfl ⟨_, _, rfl, M.grow, by rw [decide_eq_true (by cases a; cases b; simp_all)]⟩
end Go.Proofs.YtoilmeiikgegcaaDoor.G
