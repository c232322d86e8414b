/- Walks of the program's functions. -/
import Derived.Test.YtmjieefhjmiagaaDoorGSrt
set_option linter.all false
namespace Go.Proofs.YtmjieefhjmiagaaDoor.G
open Go Go.RowKit
theorem in_c (x m : Int) {I : Heap} {w : World} (hI : hle I (hp w)) : Calls A 65 #[.int .i64 x, .int .i64 m] w (Ret w I fun v _ => v = .bool (inR x m)) := by
 have M := Mem.start hI
 refine enter Tryd.func65 rfl 12 Tryd.ntmps65 [_, _] rfl ?_
 refine wc_seq ?_
 refine wc_region ?_
 refine wl_as M rfl rfl ?_
 refine wl_nil ?_
 refine wc_seq ?_
 refine wc_join (α := Unit) [4, 5, 6, 7, 8, 9, 10, 11] (fun _ => [(4, .bool ((decide (0 ≤ x)) && (decide (x < m))))]) (fun _ w' => Mem w I I ([]) w') ?_ ?_
 ·refine wc_region ?_
  refine wl_mv M rfl rfl ?_
  refine wl_m M (q_geq rfl rfl) rfl rfl ?_
  refine wl_mv M rfl rfl ?_
  rcases Bool.eq_false_or_eq_true (decide (0 ≤ x)) with hg7 | hg7
  ·refine wl_m M (q_guard 2 rfl rfl rfl hg7 (q_move rfl)) rfl rfl ?_
   refine wl_m M (q_guard 2 rfl rfl rfl hg7 (q_move rfl)) rfl rfl ?_
   refine wl_m M (q_guard 2 rfl rfl rfl hg7 (q_lss rfl rfl)) rfl rfl ?_
   refine wl_m M (q_pickT rfl hg7 rfl) rfl rfl ?_
   refine wl_as M rfl rfl ?_
   refine wl_nil ?_
   exact ⟨(), M, ⟨(show some (Value.bool (decide (x < m))) = some (Value.bool ((decide (0 ≤ x)) && (decide (x < m)))) from by first | (simp only [hg7, Bool.true_or, Bool.false_or, Bool.true_and, Bool.false_and, Bool.or_true, Bool.or_false, Bool.and_true, Bool.and_false]; done) | (simp_all; done) | (simp_all; omega)), trivial⟩, unw_take 8 rfl rfl⟩
  refine wl_m M (q_off 2 rfl rfl rfl hg7) rfl rfl ?_
  refine wl_m M (q_off 2 rfl rfl rfl hg7) rfl rfl ?_
  refine wl_m M (q_off 2 rfl rfl rfl hg7) rfl rfl ?_
  refine wl_m M (q_pickF rfl hg7 rfl) rfl rfl ?_
  refine wl_as M rfl rfl ?_
  refine wl_nil ?_
  exact ⟨(), M, ⟨(show some (Value.bool false) = some (Value.bool ((decide (0 ≤ x)) && (decide (x < m)))) from by first | (simp only [hg7, Bool.true_or, Bool.false_or, Bool.true_and, Bool.false_and, Bool.or_true, Bool.or_false, Bool.and_true, Bool.and_false]; done) | (simp_all; done) | (simp_all; omega)), trivial⟩, unw_take 8 rfl rfl⟩
 rintro _ jr1 w1 M
 refine wc_ret ?_
 exact out1 rfl rfl ⟨_, _, rfl, M.grow, rfl⟩
theorem label_c (r : Int) {I : Heap} {w : World} (hI : hle I (hp w)) : Calls A 66 #[.int .i32 r] w (Ret w I fun v _ => v = .bool (vRune r)) := by
 have M := Mem.start hI
 refine enter Tryd.func66 rfl 17 Tryd.ntmps66 [_] rfl ?_
 refine wc_seq ?_
 refine wc_region ?_
 refine wl_as M rfl rfl ?_
 refine wl_nil ?_
 refine wc_seq ?_
 refine wc_join (α := Unit) [2, 3, 4, 5, 6, 7, 8, 9, 10, 11, 12, 13, 14, 15, 16] (fun _ => [(2, .bool (((decide (0 ≤ r)) && (decide (r < 55296))) || ((decide (57343 < r)) && (decide (r ≤ 1114111)))))]) (fun _ w' => Mem w I I ([]) w') ?_ ?_
 ·refine wc_region ?_
  refine wl_mv M rfl rfl ?_
  refine wl_m M (q_geq rfl rfl) rfl rfl ?_
  refine wl_mv M rfl rfl ?_
  rcases Bool.eq_false_or_eq_true (decide (0 ≤ r)) with hg5 | hg5
  ·refine wl_m M (q_guard 2 rfl rfl rfl hg5 (q_move rfl)) rfl rfl ?_
   refine wl_m M (q_guard 2 rfl rfl rfl hg5 (q_lss rfl rfl)) rfl rfl ?_
   refine wl_m M (q_pickT rfl hg5 rfl) rfl rfl ?_
   refine wl_mv M rfl rfl ?_
   rcases Bool.eq_false_or_eq_true (decide (r < 55296)) with hg9 | hg9
   ·refine wl_m M (q_off 6 rfl rfl rfl hg9) rfl rfl ?_
    refine wl_m M (q_off 6 rfl rfl rfl hg9) rfl rfl ?_
    refine wl_m M (q_off 6 rfl rfl rfl hg9) rfl rfl ?_
    refine wl_m M (q_offu 9 rfl rfl rfl) rfl rfl ?_
    refine wl_m M (q_offu 9 rfl rfl rfl) rfl rfl ?_
    refine wl_m M (q_off 6 rfl rfl rfl hg9) rfl rfl ?_
    refine wl_m M (q_pickT rfl hg9 rfl) rfl rfl ?_
    refine wl_as M rfl rfl ?_
    refine wl_nil ?_
    exact ⟨(), M, ⟨(show some (Value.bool true) = some (Value.bool (((decide (0 ≤ r)) && (decide (r < 55296))) || ((decide (57343 < r)) && (decide (r ≤ 1114111))))) from by first | (simp only [hg5, hg9, Bool.true_or, Bool.false_or, Bool.true_and, Bool.false_and, Bool.or_true, Bool.or_false, Bool.and_true, Bool.and_false]; done) | (simp_all; done) | (simp_all; omega)), trivial⟩, unw_take 15 rfl rfl⟩
   refine wl_m M (q_guard 6 rfl rfl rfl hg9 (q_move rfl)) rfl rfl ?_
   refine wl_m M (q_guard 6 rfl rfl rfl hg9 (q_gtr rfl rfl)) rfl rfl ?_
   refine wl_m M (q_guard 6 rfl rfl rfl hg9 (q_move rfl)) rfl rfl ?_
   rcases Bool.eq_false_or_eq_true (decide (57343 < r)) with hg12 | hg12
   ·refine wl_m M (q_guard 9 rfl rfl rfl hg12 (q_move rfl)) rfl rfl ?_
    refine wl_m M (q_guard 9 rfl rfl rfl hg12 (q_leq rfl rfl)) rfl rfl ?_
    refine wl_m M (q_guard 6 rfl rfl rfl hg9 (q_pickT rfl hg12 rfl)) rfl rfl ?_
    refine wl_m M (q_pickF rfl hg9 rfl) rfl rfl ?_
    refine wl_as M rfl rfl ?_
    refine wl_nil ?_
    exact ⟨(), M, ⟨(show some (Value.bool (decide (r ≤ 1114111))) = some (Value.bool (((decide (0 ≤ r)) && (decide (r < 55296))) || ((decide (57343 < r)) && (decide (r ≤ 1114111))))) from by first | (simp only [hg12, hg5, hg9, Bool.true_or, Bool.false_or, Bool.true_and, Bool.false_and, Bool.or_true, Bool.or_false, Bool.and_true, Bool.and_false]; done) | (simp_all; done) | (simp_all; omega)), trivial⟩, unw_take 15 rfl rfl⟩
   refine wl_m M (q_off 9 rfl rfl rfl hg12) rfl rfl ?_
   refine wl_m M (q_off 9 rfl rfl rfl hg12) rfl rfl ?_
   refine wl_m M (q_guard 6 rfl rfl rfl hg9 (q_pickF rfl hg12 rfl)) rfl rfl ?_
   refine wl_m M (q_pickF rfl hg9 rfl) rfl rfl ?_
   refine wl_as M rfl rfl ?_
   refine wl_nil ?_
   exact ⟨(), M, ⟨(show some (Value.bool false) = some (Value.bool (((decide (0 ≤ r)) && (decide (r < 55296))) || ((decide (57343 < r)) && (decide (r ≤ 1114111))))) from by first | (simp only [hg12, hg5, hg9, Bool.true_or, Bool.false_or, Bool.true_and, Bool.false_and, Bool.or_true, Bool.or_false, Bool.and_true, Bool.and_false]; done) | (simp_all; done) | (simp_all; omega)), trivial⟩, unw_take 15 rfl rfl⟩
  refine wl_m M (q_off 2 rfl rfl rfl hg5) rfl rfl ?_
  refine wl_m M (q_off 2 rfl rfl rfl hg5) rfl rfl ?_
  refine wl_m M (q_pickF rfl hg5 rfl) rfl rfl ?_
  refine wl_mv M rfl rfl ?_
  refine wl_m M (q_guard 6 rfl rfl rfl rfl (q_move rfl)) rfl rfl ?_
  refine wl_m M (q_guard 6 rfl rfl rfl rfl (q_gtr rfl rfl)) rfl rfl ?_
  refine wl_m M (q_guard 6 rfl rfl rfl rfl (q_move rfl)) rfl rfl ?_
  rcases Bool.eq_false_or_eq_true (decide (57343 < r)) with hg12 | hg12
  ·refine wl_m M (q_guard 9 rfl rfl rfl hg12 (q_move rfl)) rfl rfl ?_
   refine wl_m M (q_guard 9 rfl rfl rfl hg12 (q_leq rfl rfl)) rfl rfl ?_
   refine wl_m M (q_guard 6 rfl rfl rfl rfl (q_pickT rfl hg12 rfl)) rfl rfl ?_
   refine wl_m M (q_pickF rfl rfl rfl) rfl rfl ?_
   refine wl_as M rfl rfl ?_
   refine wl_nil ?_
   exact ⟨(), M, ⟨(show some (Value.bool (decide (r ≤ 1114111))) = some (Value.bool (((decide (0 ≤ r)) && (decide (r < 55296))) || ((decide (57343 < r)) && (decide (r ≤ 1114111))))) from by first | (simp only [hg12, hg5, Bool.true_or, Bool.false_or, Bool.true_and, Bool.false_and, Bool.or_true, Bool.or_false, Bool.and_true, Bool.and_false]; done) | (simp_all; done) | (simp_all; omega)), trivial⟩, unw_take 15 rfl rfl⟩
  refine wl_m M (q_off 9 rfl rfl rfl hg12) rfl rfl ?_
  refine wl_m M (q_off 9 rfl rfl rfl hg12) rfl rfl ?_
  refine wl_m M (q_guard 6 rfl rfl rfl rfl (q_pickF rfl hg12 rfl)) rfl rfl ?_
  refine wl_m M (q_pickF rfl rfl rfl) rfl rfl ?_
  refine wl_as M rfl rfl ?_
  refine wl_nil ?_
  exact ⟨(), M, ⟨(show some (Value.bool false) = some (Value.bool (((decide (0 ≤ r)) && (decide (r < 55296))) || ((decide (57343 < r)) && (decide (r ≤ 1114111))))) from by first | (simp only [hg12, hg5, Bool.true_or, Bool.false_or, Bool.true_and, Bool.false_and, Bool.or_true, Bool.or_false, Bool.and_true, Bool.and_false]; done) | (simp_all; done) | (simp_all; omega)), trivial⟩, unw_take 15 rfl rfl⟩
 rintro _ jr1 w1 M
 refine wc_ret ?_
 exact out1 rfl rfl ⟨_, _, rfl, M.grow, by rw [lab_eq]⟩
theorem ints_c {xs ys : List Int} {u u2 : SV} {I : Heap} {w : World} (hI : hle I (hp w)) (R0 : rdSl EInt I (sv u) xs) (R1 : rdSl EInt I (sv u2) ys) : Calls A 39 #[sv u, sv u2] w (Ret w I fun v _ => v = .bool (decide (xs = ys))) := by
 have M := Mem.start hI
 refine enter Tryd.func39 rfl 26 Tryd.ntmps39 [_, _] rfl ?_
 refine wc_seq ?_
 refine wc_region ?_
 refine wl_as M rfl rfl ?_
 refine wl_nil ?_
 refine wc_seq ?_
 refine wc_seq ?_
 refine wc_region ?_
 refine wl_mv M rfl rfl ?_
 refine wl_m M (q_lenR R0 Tryd.underlying22 rfl) rfl rfl ?_
 refine wl_mv M rfl rfl ?_
 refine wl_m M (q_lenR R1 Tryd.underlying22 rfl) rfl rfl ?_
 refine wl_m M (q_neq rfl rfl) rfl rfl ?_
 refine wl_nil ?_
 refine wc_cond rfl (fun ht10 => ?_) (fun ht10 => ?_)
 ·refine wc_seq ?_
  refine wc_region ?_
  refine wl_as M rfl rfl ?_
  refine wl_nil ?_
  refine wc_ret ?_
  exact out1 rfl rfl ⟨_, _, rfl, M.grow, by rw [decide_eq_false (fun e => nd_t ht10 (by rw [e]))]⟩
 have hlen : xs.length = ys.length := by have := nd_f ht10; omega
 refine wc_skip ?_
 refine wc_seq ?_
 refine wc_seq ?_
 refine wc_region ?_
 refine wl_as M rfl rfl ?_
 refine wl_nil ?_
 refine wc_block ?_
 refine wc_loop (α := Nat) [4, 5, 11, 12, 13, 14, 15, 16, 17, 18, 19, 20, 21, 22, 23, 24, 25] (fun (k0 : Nat) => [(5, .int .i64 (k0 : Int))])
   (fun (k0 : Nat) w' => (k0 ≤ xs.length) ∧ (xs.take k0 = ys.take k0) ∧ Mem w I I ([]) w')
   (fun (k0 : Nat) => xs.length - k0) (0) ⟨rfl, trivial⟩ ?_ ?_
 ·refine ⟨Nat.zero_le _, rfl, ?_⟩
  exact M
 rintro k0 jj0 w1 ⟨hk0, he, M⟩
 refine wc_seq ?_
 refine wc_seq ?_
 refine wc_region ?_
 refine wl_mv M rfl rfl ?_
 refine wl_mv M rfl rfl ?_
 refine wl_m M (q_lenR R0 Tryd.underlying22 rfl) rfl rfl ?_
 refine wl_m M (q_lss rfl rfl) rfl rfl ?_
 refine wl_nil ?_
 refine wc_dec rfl (fun ht14 => ?_) (fun ht14 => ?_)
 ·obtain ⟨x0, hx0⟩ : ∃ x_, xs[k0]? = some x_ := ⟨_, List.getElem?_eq_getElem (by omega)⟩
  have hll0 := (R0).len_le
  have hll0 := R0.len_le
  obtain ⟨y0, hy0⟩ : ∃ y, ys[k0]? = some y := ⟨_, List.getElem?_eq_getElem (by omega)⟩
  refine wc_skip ?_
  refine wc_seq ?_
  refine wc_block ?_
  refine wc_seq ?_
  refine wc_draws (fun w' => Mem w I I ([]) w' ∧ True) [] fol ?_
  replace M := M.drew
  have hS := (⟨M, trivial⟩ : _ ∧ _)
  refine wa_q 0 rfl (by kernel_rfl) (q_move rfl) hS rfl rfl ?_
  refine wa_q 1 rfl (by kernel_rfl) (q_move rfl) hS rfl rfl ?_
  refine wa_ixS (j := k0) 2 hS (fun _ h => R0.mono h.1.imm) rfl (by kernel_rfl) Tryd.underlying22 rfl rfl hx0 rfl (fun b19 o19 p19 => ?_)
  refine wa_q 3 rfl (by kernel_rfl) (q_ldp p19 rfl rfl) hS rfl rfl ?_
  refine wa_q 4 rfl (by kernel_rfl) (q_move rfl) hS rfl rfl ?_
  refine wa_q 5 rfl (by kernel_rfl) (q_move rfl) hS rfl rfl ?_
  refine wa_ixS (j := k0) 6 hS (fun _ h => R1.mono h.1.imm) rfl (by kernel_rfl) Tryd.underlying22 rfl rfl hy0 rfl (fun b23 o23 p23 => ?_)
  refine wa_q 7 rfl (by kernel_rfl) (q_ldp p23 rfl rfl) hS rfl rfl ?_
  refine wa_q 8 rfl (by kernel_rfl) (q_neq rfl rfl) hS rfl rfl ?_
  refine wa_done (by kernel_rfl) ?_
  refine wc_cond rfl (fun ht25 => ?_) (fun ht25 => ?_)
  ·refine wc_seq ?_
   refine wc_region ?_
   refine wl_as M rfl rfl ?_
   refine wl_nil ?_
   refine wc_ret ?_
   exact out1 rfl rfl ⟨_, _, rfl, M.grow, by rw [decide_eq_false (fun e => nd_t ht25 (by subst e; rw [hx0] at hy0; exact Option.some.inj hy0))]⟩
  refine wc_skip ?_
  refine wc_region ?_
  refine wl_mv M rfl rfl ?_
  refine wl_m M (q_add rfl rfl (IntWalk.i64_in _ (by omega))) rfl rfl ?_
  refine wl_as M rfl rfl ?_
  refine wl_nil ?_
  refine ⟨(k0 + 1), ?_, ⟨(by omega), (by rw [take_snoc hx0, take_snoc hy0, he, nd_f ht25]), M⟩, ⟨rfl, trivial⟩, unw_look rfl unw_base⟩
  show xs.length - (k0 + 1) < xs.length - k0
  omega
 have hke0 : k0 = xs.length := by omega
 rw [hke0, List.take_length, hlen, List.take_length] at he
 refine wc_exit rfl ?_
 refine wc_seq ?_
 refine wc_region ?_
 refine wl_as M rfl rfl ?_
 refine wl_nil ?_
 refine wc_ret ?_
 exact out1 rfl rfl ⟨_, _, rfl, M.grow, by rw [decide_eq_true he]⟩
theorem same_c (a b : Tra) {v1 v2 : Value} {I : Heap} {w : World} (hI : hle I (hp w)) (R1 : a.rd I v1) (R2 : b.rd I v2) : Calls A 14 #[v1, v2] w (Ret w I fun v _ => v = .bool (decide (a = b))) := by
 obtain ⟨fu1, au1, rfl, Rf1, Ra1⟩ := R1
 obtain ⟨fu2, au2, rfl, Rf2, Ra2⟩ := R2
 have M := Mem.start hI
 refine enter Tryd.func14 rfl 53 Tryd.ntmps14 [_, _] rfl ?_
 refine wc_seq ?_
 refine wc_region ?_
 refine wl_e (e_box M rfl) rfl rfl ?_
 rintro _ w1 ⟨b2, rfl, M⟩
 refine wl_e (e_box M rfl) rfl rfl ?_
 rintro _ w2 ⟨b3, rfl, M⟩
 refine wl_as M rfl rfl ?_
 refine wl_nil ?_
 refine wc_seq ?_
 refine wc_seq ?_
 refine wc_join (α := Unit) [6, 7, 8, 9, 10, 11, 12, 13, 14, 15, 16, 17, 18, 19, 20, 21, 22, 23, 24, 25, 26, 27, 28, 29, 30, 31, 32, 33, 34] (fun _ => [(34, .bool ((((!decide (a.states = b.states)) || (!decide (a.start = b.start))) || (!(decide (a.finals = b.finals)))) || (!decide ((a.arcs.length : Int) = (b.arcs.length : Int)))))]) (fun _ w' => Mem w I I (box b3 25 [.int .i64 b.states, .int .i64 b.start, sv fu2, sv au2] :: box b2 25 [.int .i64 a.states, .int .i64 a.start, sv fu1, sv au1] :: []) w') ?_ ?_
 ·refine wc_region ?_
  refine wl_m M (q_fa fo_25_0 rfl) rfl rfl ?_
  refine wl_m M (q_ldb 1 Tryd.underlying3 rfl rfl rfl rfl) rfl rfl ?_
  refine wl_m M (q_fa fo_25_0 rfl) rfl rfl ?_
  refine wl_m M (q_ldb 0 Tryd.underlying3 rfl rfl rfl rfl) rfl rfl ?_
  refine wl_m M (q_neq rfl rfl) rfl rfl ?_
  refine wl_mv M rfl rfl ?_
  rcases Bool.eq_false_or_eq_true (!decide (a.states = b.states)) with hg11 | hg11
  ·refine wl_m M (q_off 5 rfl rfl rfl hg11) rfl rfl ?_
   refine wl_m M (q_off 5 rfl rfl rfl hg11) rfl rfl ?_
   refine wl_m M (q_off 5 rfl rfl rfl hg11) rfl rfl ?_
   refine wl_m M (q_off 5 rfl rfl rfl hg11) rfl rfl ?_
   refine wl_m M (q_off 5 rfl rfl rfl hg11) rfl rfl ?_
   refine wl_m M (q_pickT rfl hg11 rfl) rfl rfl ?_
   refine wl_mv M rfl rfl ?_
   refine wl_m M (q_off 12 rfl rfl rfl rfl) rfl rfl ?_
   refine wl_m M (q_off 12 rfl rfl rfl rfl) rfl rfl ?_
   refine wl_m M (q_off 12 rfl rfl rfl rfl) rfl rfl ?_
   refine wl_m M (q_off 12 rfl rfl rfl rfl) rfl rfl ?_
   refine wl_m M (q_off 12 rfl rfl rfl rfl) rfl rfl ?_
   refine wl_m M (q_off 12 rfl rfl rfl rfl) rfl rfl ?_
   refine wl_m M (q_pickT rfl rfl rfl) rfl rfl ?_
   refine wl_mv M rfl rfl ?_
   refine wl_m M (q_off 20 rfl rfl rfl rfl) rfl rfl ?_
   refine wl_m M (q_off 20 rfl rfl rfl rfl) rfl rfl ?_
   refine wl_m M (q_off 20 rfl rfl rfl rfl) rfl rfl ?_
   refine wl_m M (q_off 20 rfl rfl rfl rfl) rfl rfl ?_
   refine wl_m M (q_off 20 rfl rfl rfl rfl) rfl rfl ?_
   refine wl_m M (q_off 20 rfl rfl rfl rfl) rfl rfl ?_
   refine wl_m M (q_off 20 rfl rfl rfl rfl) rfl rfl ?_
   refine wl_m M (q_pickT rfl rfl rfl) rfl rfl ?_
   refine wl_nil ?_
   exact ⟨(), M, ⟨(show some (Value.bool true) = some (Value.bool ((((!decide (a.states = b.states)) || (!decide (a.start = b.start))) || (!(decide (a.finals = b.finals)))) || (!decide ((a.arcs.length : Int) = (b.arcs.length : Int))))) from by first | (simp only [hg11, Bool.true_or, Bool.false_or, Bool.true_and, Bool.false_and, Bool.or_true, Bool.or_false, Bool.and_true, Bool.and_false]; done) | (simp_all; done) | (simp_all; omega)), trivial⟩, unw_take 29 rfl rfl⟩
  refine wl_m M (q_guard 5 rfl rfl rfl hg11 (q_fa fo_25_1 rfl)) rfl rfl ?_
  refine wl_m M (q_guard 5 rfl rfl rfl hg11 (q_ldb 1 Tryd.underlying3 rfl rfl rfl rfl)) rfl rfl ?_
  refine wl_m M (q_guard 5 rfl rfl rfl hg11 (q_fa fo_25_1 rfl)) rfl rfl ?_
  refine wl_m M (q_guard 5 rfl rfl rfl hg11 (q_ldb 0 Tryd.underlying3 rfl rfl rfl rfl)) rfl rfl ?_
  refine wl_m M (q_guard 5 rfl rfl rfl hg11 (q_neq rfl rfl)) rfl rfl ?_
  refine wl_m M (q_pickF rfl hg11 rfl) rfl rfl ?_
  refine wl_mv M rfl rfl ?_
  rcases Bool.eq_false_or_eq_true (!decide (a.start = b.start)) with hg18 | hg18
  ·refine wl_m M (q_off 12 rfl rfl rfl hg18) rfl rfl ?_
   refine wl_m M (q_off 12 rfl rfl rfl hg18) rfl rfl ?_
   refine wl_m M (q_off 12 rfl rfl rfl hg18) rfl rfl ?_
   refine wl_m M (q_off 12 rfl rfl rfl hg18) rfl rfl ?_
   refine wl_m M (q_off 12 rfl rfl rfl hg18) rfl rfl ?_
   refine wl_m M (q_off 12 rfl rfl rfl hg18) rfl rfl ?_
   refine wl_m M (q_pickT rfl hg18 rfl) rfl rfl ?_
   refine wl_mv M rfl rfl ?_
   refine wl_m M (q_off 20 rfl rfl rfl rfl) rfl rfl ?_
   refine wl_m M (q_off 20 rfl rfl rfl rfl) rfl rfl ?_
   refine wl_m M (q_off 20 rfl rfl rfl rfl) rfl rfl ?_
   refine wl_m M (q_off 20 rfl rfl rfl rfl) rfl rfl ?_
   refine wl_m M (q_off 20 rfl rfl rfl rfl) rfl rfl ?_
   refine wl_m M (q_off 20 rfl rfl rfl rfl) rfl rfl ?_
   refine wl_m M (q_off 20 rfl rfl rfl rfl) rfl rfl ?_
   refine wl_m M (q_pickT rfl rfl rfl) rfl rfl ?_
   refine wl_nil ?_
   exact ⟨(), M, ⟨(show some (Value.bool true) = some (Value.bool ((((!decide (a.states = b.states)) || (!decide (a.start = b.start))) || (!(decide (a.finals = b.finals)))) || (!decide ((a.arcs.length : Int) = (b.arcs.length : Int))))) from by first | (simp only [hg11, hg18, Bool.true_or, Bool.false_or, Bool.true_and, Bool.false_and, Bool.or_true, Bool.or_false, Bool.and_true, Bool.and_false]; done) | (simp_all; done) | (simp_all; omega)), trivial⟩, unw_take 29 rfl rfl⟩
  refine wl_m M (q_guard 12 rfl rfl rfl hg18 (q_fa fo_25_2 rfl)) rfl rfl ?_
  refine wl_m M (q_guard 12 rfl rfl rfl hg18 (q_ldb 1 Tryd.underlying22 rfl rfl rfl rfl)) rfl rfl ?_
  refine wl_m M (q_guard 12 rfl rfl rfl hg18 (q_fa fo_25_2 rfl)) rfl rfl ?_
  refine wl_m M (q_guard 12 rfl rfl rfl hg18 (q_ldb 0 Tryd.underlying22 rfl rfl rfl rfl)) rfl rfl ?_
  refine wl_e (e_guard 12 rfl rfl rfl hg18 (e_callC M (ints_c M.imm Rf1 Rf2) Tryd.func39 rfl rfl)) rfl rfl ?_
  rintro _ w3 ⟨J23, hJ23, rfl, M⟩
  replace M := M.less hJ23 (fun _ _ => rfl)
  refine wl_m M (q_guard 12 rfl rfl rfl hg18 (q_not rfl)) rfl rfl ?_
  refine wl_m M (q_pickF rfl hg18 rfl) rfl rfl ?_
  refine wl_mv M rfl rfl ?_
  rcases Bool.eq_false_or_eq_true (!(decide (a.finals = b.finals))) with hg26 | hg26
  ·refine wl_m M (q_off 20 rfl rfl rfl hg26) rfl rfl ?_
   refine wl_m M (q_off 20 rfl rfl rfl hg26) rfl rfl ?_
   refine wl_m M (q_off 20 rfl rfl rfl hg26) rfl rfl ?_
   refine wl_m M (q_off 20 rfl rfl rfl hg26) rfl rfl ?_
   refine wl_m M (q_off 20 rfl rfl rfl hg26) rfl rfl ?_
   refine wl_m M (q_off 20 rfl rfl rfl hg26) rfl rfl ?_
   refine wl_m M (q_off 20 rfl rfl rfl hg26) rfl rfl ?_
   refine wl_m M (q_pickT rfl hg26 rfl) rfl rfl ?_
   refine wl_nil ?_
   exact ⟨(), M, ⟨(show some (Value.bool true) = some (Value.bool ((((!decide (a.states = b.states)) || (!decide (a.start = b.start))) || (!(decide (a.finals = b.finals)))) || (!decide ((a.arcs.length : Int) = (b.arcs.length : Int))))) from by first | (simp only [hg11, hg18, hg26, Bool.true_or, Bool.false_or, Bool.true_and, Bool.false_and, Bool.or_true, Bool.or_false, Bool.and_true, Bool.and_false]; done) | (simp_all; done) | (simp_all; omega)), trivial⟩, unw_take 29 rfl rfl⟩
  refine wl_m M (q_guard 20 rfl rfl rfl hg26 (q_fa fo_25_3 rfl)) rfl rfl ?_
  refine wl_m M (q_guard 20 rfl rfl rfl hg26 (q_ldb 1 Tryd.underlying23 rfl rfl rfl rfl)) rfl rfl ?_
  refine wl_m M (q_guard 20 rfl rfl rfl hg26 (q_lenR Ra1 Tryd.underlying23 rfl)) rfl rfl ?_
  refine wl_m M (q_guard 20 rfl rfl rfl hg26 (q_fa fo_25_3 rfl)) rfl rfl ?_
  refine wl_m M (q_guard 20 rfl rfl rfl hg26 (q_ldb 0 Tryd.underlying23 rfl rfl rfl rfl)) rfl rfl ?_
  refine wl_m M (q_guard 20 rfl rfl rfl hg26 (q_lenR Ra2 Tryd.underlying23 rfl)) rfl rfl ?_
  refine wl_m M (q_guard 20 rfl rfl rfl hg26 (q_neq rfl rfl)) rfl rfl ?_
  refine wl_m M (q_pickF rfl hg26 rfl) rfl rfl ?_
  refine wl_nil ?_
  exact ⟨(), M, ⟨(show some (Value.bool (!decide ((a.arcs.length : Int) = (b.arcs.length : Int)))) = some (Value.bool ((((!decide (a.states = b.states)) || (!decide (a.start = b.start))) || (!(decide (a.finals = b.finals)))) || (!decide ((a.arcs.length : Int) = (b.arcs.length : Int))))) from by first | (simp only [hg11, hg18, hg26, Bool.true_or, Bool.false_or, Bool.true_and, Bool.false_and, Bool.or_true, Bool.or_false, Bool.and_true, Bool.and_false]; done) | (simp_all; done) | (simp_all; omega)), trivial⟩, unw_take 29 rfl rfl⟩
 rintro _ jr1 w4 M
 refine wc_cond rfl (fun ht34 => ?_) (fun ht34 => ?_)
 ·refine wc_seq ?_
  refine wc_region ?_
  refine wl_as M rfl rfl ?_
  refine wl_nil ?_
  refine wc_ret ?_
  exact out1 rfl rfl ⟨_, _, rfl, M.grow, by rw [decide_eq_false (fun e => by subst e; simp at ht34)]⟩
 obtain ⟨⟨⟨h1, h2⟩, h3⟩, h4⟩ : ((a.states = b.states ∧ a.start = b.start) ∧ a.finals = b.finals) ∧ (a.arcs.length : Int) = b.arcs.length := by simpa using ht34
 refine wc_skip ?_
 refine wc_seq ?_
 refine wc_seq ?_
 refine wc_region ?_
 refine wl_as M rfl rfl ?_
 refine wl_nil ?_
 refine wc_block ?_
 refine wc_loop (α := Nat) [4, 5, 35, 36, 37, 38, 39, 40, 41, 42, 43, 44, 45, 46, 47, 48, 49, 50, 51, 52] (fun (k0 : Nat) => [(5, .int .i64 (k0 : Int))])
   (fun (k0 : Nat) w' => (k0 ≤ a.arcs.length) ∧ (a.arcs.take k0 = b.arcs.take k0) ∧ Mem w I I (box b3 25 [.int .i64 b.states, .int .i64 b.start, sv fu2, sv au2] :: box b2 25 [.int .i64 a.states, .int .i64 a.start, sv fu1, sv au1] :: []) w')
   (fun (k0 : Nat) => a.arcs.length - k0) (0) ⟨rfl, trivial⟩ ?_ ?_
 ·refine ⟨Nat.zero_le _, rfl, ?_⟩
  exact M
 rintro k0 jj0 w5 ⟨hk0, he, M⟩
 refine wc_seq ?_
 refine wc_seq ?_
 refine wc_region ?_
 refine wl_mv M rfl rfl ?_
 refine wl_m M (q_fa fo_25_3 rfl) rfl rfl ?_
 refine wl_m M (q_ldb 1 Tryd.underlying23 rfl rfl rfl rfl) rfl rfl ?_
 refine wl_m M (q_lenR Ra1 Tryd.underlying23 rfl) rfl rfl ?_
 refine wl_m M (q_lss rfl rfl) rfl rfl ?_
 refine wl_nil ?_
 refine wc_dec rfl (fun ht39 => ?_) (fun ht39 => ?_)
 ·obtain ⟨x0, hx0⟩ : ∃ x_, a.arcs[k0]? = some x_ := ⟨_, List.getElem?_eq_getElem (by omega)⟩
  have hll0 := Ra1.len_le
  obtain ⟨y0, hy0⟩ : ∃ y, b.arcs[k0]? = some y := ⟨_, List.getElem?_eq_getElem (by omega)⟩
  refine wc_skip ?_
  refine wc_seq ?_
  refine wc_block ?_
  refine wc_seq ?_
  refine wc_draws (fun w' => Mem w I I (box b3 25 [.int .i64 b.states, .int .i64 b.start, sv fu2, sv au2] :: box b2 25 [.int .i64 a.states, .int .i64 a.start, sv fu1, sv au1] :: []) w' ∧ True) [] fol ?_
  replace M := M.drew
  have hS := (⟨M, trivial⟩ : _ ∧ _)
  refine wa_q 0 rfl (by kernel_rfl) (q_fa fo_25_3 rfl) hS rfl rfl ?_
  refine wa_q 1 rfl (by kernel_rfl) ((q_ldb 1 Tryd.underlying23 rfl rfl rfl rfl).mono fun _ h => h.1) hS rfl rfl ?_
  refine wa_q 2 rfl (by kernel_rfl) (q_move rfl) hS rfl rfl ?_
  refine wa_ixS (j := k0) 3 hS (fun _ h => Ra1.mono h.1.imm) rfl (by kernel_rfl) Tryd.underlying23 rfl rfl hx0 rfl (fun b45 o45 p45 => ?_)
  refine wa_q 4 rfl (by kernel_rfl) (q_ldp p45 rfl rfl) hS rfl rfl ?_
  refine wa_q 5 rfl (by kernel_rfl) (q_fa fo_25_3 rfl) hS rfl rfl ?_
  refine wa_q 6 rfl (by kernel_rfl) ((q_ldb 0 Tryd.underlying23 rfl rfl rfl rfl).mono fun _ h => h.1) hS rfl rfl ?_
  refine wa_q 7 rfl (by kernel_rfl) (q_move rfl) hS rfl rfl ?_
  refine wa_ixS (j := k0) 8 hS (fun _ h => Ra2.mono h.1.imm) rfl (by kernel_rfl) Tryd.underlying23 rfl rfl hy0 rfl (fun b50 o50 p50 => ?_)
  refine wa_q 9 rfl (by kernel_rfl) (q_ldp p50 rfl rfl) hS rfl rfl ?_
  refine wa_q 10 rfl (by kernel_rfl) (q_neqK QArcE x0 y0 rfl rfl rfl) hS rfl rfl ?_
  refine wa_done (by kernel_rfl) ?_
  refine wc_cond rfl (fun ht52 => ?_) (fun ht52 => ?_)
  ·refine wc_seq ?_
   refine wc_region ?_
   refine wl_as M rfl rfl ?_
   refine wl_nil ?_
   refine wc_ret ?_
   exact out1 rfl rfl ⟨_, _, rfl, M.grow, by rw [decide_eq_false (fun e => nd_t ht52 (by subst e; rw [hx0] at hy0; exact Option.some.inj hy0))]⟩
  refine wc_skip ?_
  refine wc_region ?_
  refine wl_mv M rfl rfl ?_
  refine wl_m M (q_add rfl rfl (IntWalk.i64_in _ (by omega))) rfl rfl ?_
  refine wl_as M rfl rfl ?_
  refine wl_nil ?_
  refine ⟨(k0 + 1), ?_, ⟨(by omega), (by rw [take_snoc hx0, take_snoc hy0, he, nd_f ht52]), M⟩, ⟨rfl, trivial⟩, unw_look rfl unw_base⟩
  show a.arcs.length - (k0 + 1) < a.arcs.length - k0
  omega
 have hke0 : k0 = a.arcs.length := by omega
 rw [hke0, List.take_length, show a.arcs.length = b.arcs.length by omega, List.take_length] at he
 refine wc_exit rfl ?_
 refine wc_seq ?_
 refine wc_region ?_
 refine wl_as M rfl rfl ?_
 refine wl_nil ?_
 refine wc_ret ?_
 exact out1 rfl rfl ⟨_, _, rfl, M.grow, by rw [decide_eq_true (by cases a; cases b; simp_all)]⟩
theorem less_c (x y : Arc) {I : Heap} {w : World} (hI : hle I (hp w)) : Calls A 102 #[EArc.val x, EArc.val y] w (Ret w I fun v _ => v = .bool (ltOf ordA x y)) := by
 have M := Mem.start hI
 refine enter Tryd.func102 rfl 40 Tryd.ntmps102 [_, _] rfl ?_
 refine wc_seq ?_
 refine wc_region ?_
 refine wl_e (e_box M rfl) rfl rfl ?_
 rintro _ w1 ⟨b2, rfl, M⟩
 refine wl_e (e_box M rfl) rfl rfl ?_
 rintro _ w2 ⟨b3, rfl, M⟩
 refine wl_as M rfl rfl ?_
 refine wl_nil ?_
 refine wc_seq ?_
 refine wc_seq ?_
 refine wc_region ?_
 refine wl_m M (q_fa fo_48_0 rfl) rfl rfl ?_
 refine wl_m M (q_ldb 1 Tryd.underlying3 rfl rfl rfl rfl) rfl rfl ?_
 refine wl_m M (q_fa fo_48_0 rfl) rfl rfl ?_
 refine wl_m M (q_ldb 0 Tryd.underlying3 rfl rfl rfl rfl) rfl rfl ?_
 refine wl_m M (q_neq rfl rfl) rfl rfl ?_
 refine wl_nil ?_
 refine wc_cond rfl (fun ht9 => ?_) (fun ht9 => ?_)
 ·refine wc_seq ?_
  refine wc_region ?_
  refine wl_m M (q_fa fo_48_0 rfl) rfl rfl ?_
  refine wl_m M (q_ldb 1 Tryd.underlying3 rfl rfl rfl rfl) rfl rfl ?_
  refine wl_m M (q_fa fo_48_0 rfl) rfl rfl ?_
  refine wl_m M (q_ldb 0 Tryd.underlying3 rfl rfl rfl rfl) rfl rfl ?_
  refine wl_m M (q_lss rfl rfl) rfl rfl ?_
  refine wl_as M rfl rfl ?_
  refine wl_nil ?_
  refine wc_ret ?_
  refine out1 rfl rfl ⟨_, _, rfl, M.grow, congrArg Value.bool ?_⟩
  rw [Bool.eq_iff_iff, ltA]; unfold ltArc; simp at *; omega
 refine wc_skip ?_
 refine wc_seq ?_
 refine wc_seq ?_
 refine wc_region ?_
 refine wl_m M (q_fa fo_48_1 rfl) rfl rfl ?_
 refine wl_m M (q_ldb 1 Tryd.underlying3 rfl rfl rfl rfl) rfl rfl ?_
 refine wl_m M (q_fa fo_48_1 rfl) rfl rfl ?_
 refine wl_m M (q_ldb 0 Tryd.underlying3 rfl rfl rfl rfl) rfl rfl ?_
 refine wl_m M (q_neq rfl rfl) rfl rfl ?_
 refine wl_nil ?_
 refine wc_cond rfl (fun ht19 => ?_) (fun ht19 => ?_)
 ·refine wc_seq ?_
  refine wc_region ?_
  refine wl_m M (q_fa fo_48_1 rfl) rfl rfl ?_
  refine wl_m M (q_ldb 1 Tryd.underlying3 rfl rfl rfl rfl) rfl rfl ?_
  refine wl_m M (q_fa fo_48_1 rfl) rfl rfl ?_
  refine wl_m M (q_ldb 0 Tryd.underlying3 rfl rfl rfl rfl) rfl rfl ?_
  refine wl_m M (q_lss rfl rfl) rfl rfl ?_
  refine wl_as M rfl rfl ?_
  refine wl_nil ?_
  refine wc_ret ?_
  refine out1 rfl rfl ⟨_, _, rfl, M.grow, congrArg Value.bool ?_⟩
  rw [Bool.eq_iff_iff, ltA]; unfold ltArc; simp at *; omega
 refine wc_skip ?_
 refine wc_seq ?_
 refine wc_seq ?_
 refine wc_region ?_
 refine wl_m M (q_fa fo_48_2 rfl) rfl rfl ?_
 refine wl_m M (q_ldb 1 Tryd.underlying21 rfl rfl rfl rfl) rfl rfl ?_
 refine wl_m M (q_fa fo_48_2 rfl) rfl rfl ?_
 refine wl_m M (q_ldb 0 Tryd.underlying21 rfl rfl rfl rfl) rfl rfl ?_
 refine wl_m M (q_neq rfl rfl) rfl rfl ?_
 refine wl_nil ?_
 refine wc_cond rfl (fun ht29 => ?_) (fun ht29 => ?_)
 ·refine wc_seq ?_
  refine wc_region ?_
  refine wl_m M (q_fa fo_48_2 rfl) rfl rfl ?_
  refine wl_m M (q_ldb 1 Tryd.underlying21 rfl rfl rfl rfl) rfl rfl ?_
  refine wl_m M (q_fa fo_48_2 rfl) rfl rfl ?_
  refine wl_m M (q_ldb 0 Tryd.underlying21 rfl rfl rfl rfl) rfl rfl ?_
  refine wl_m M (q_lss rfl rfl) rfl rfl ?_
  refine wl_as M rfl rfl ?_
  refine wl_nil ?_
  refine wc_ret ?_
  refine out1 rfl rfl ⟨_, _, rfl, M.grow, congrArg Value.bool ?_⟩
  rw [Bool.eq_iff_iff, ltA]; unfold ltArc; simp at *; omega
 refine wc_skip ?_
 refine wc_seq ?_
 refine wc_region ?_
 refine wl_m M (q_fa fo_48_3 rfl) rfl rfl ?_
 refine wl_m M (q_ldb 1 Tryd.underlying21 rfl rfl rfl rfl) rfl rfl ?_
 refine wl_m M (q_fa fo_48_3 rfl) rfl rfl ?_
 refine wl_m M (q_ldb 0 Tryd.underlying21 rfl rfl rfl rfl) rfl rfl ?_
 refine wl_m M (q_lss rfl rfl) rfl rfl ?_
 refine wl_as M rfl rfl ?_
 refine wl_nil ?_
 refine wc_ret ?_
 refine out1 rfl rfl ⟨_, _, rfl, M.grow, congrArg Value.bool ?_⟩
 rw [Bool.eq_iff_iff, ltA]; unfold ltArc; simp at *; omega
theorem valid3_c (t : Tra) {v : Value} {I : Heap} {w : World} (hI : hle I (hp w)) (R : t.rd I v) : Calls A 36 #[v] w (Ret w I fun r _ => r = .bool (validT t)) := by
 obtain ⟨fu, au, rfl, Rf, Ra⟩ := R
 have M := Mem.start hI
 refine enter Tryd.func36 rfl 100 Tryd.ntmps36 [_] rfl ?_
 refine wc_seq ?_
 refine wc_region ?_
 refine wl_e (e_box M rfl) rfl rfl ?_
 rintro _ w1 ⟨b1, rfl, M⟩
 refine wl_as M rfl rfl ?_
 refine wl_nil ?_
 refine wc_seq ?_
 refine wc_seq ?_
 refine wc_join (α := Unit) [6, 7, 8, 9, 10, 11, 12, 13, 14, 15, 16, 17, 18, 19, 20, 21, 22, 23, 24, 25, 26, 27] (fun _ => [(27, .bool ((((decide (t.states < 1)) || (decide (512 < t.states))) || (!(inR t.start t.states))) || (decide (4096 < (t.arcs.length : Int)))))]) (fun _ w' => Mem w I I (box b1 25 [.int .i64 t.states, .int .i64 t.start, sv fu, sv au] :: []) w') ?_ ?_
 ·refine wc_region ?_
  refine wl_m M (q_fa fo_25_0 rfl) rfl rfl ?_
  refine wl_m M (q_ldb 0 Tryd.underlying3 rfl rfl rfl rfl) rfl rfl ?_
  refine wl_m M (q_lss rfl rfl) rfl rfl ?_
  refine wl_mv M rfl rfl ?_
  rcases Bool.eq_false_or_eq_true (decide (t.states < 1)) with hg9 | hg9
  ·refine wl_m M (q_off 3 rfl rfl rfl hg9) rfl rfl ?_
   refine wl_m M (q_off 3 rfl rfl rfl hg9) rfl rfl ?_
   refine wl_m M (q_off 3 rfl rfl rfl hg9) rfl rfl ?_
   refine wl_m M (q_pickT rfl hg9 rfl) rfl rfl ?_
   refine wl_mv M rfl rfl ?_
   refine wl_m M (q_off 8 rfl rfl rfl rfl) rfl rfl ?_
   refine wl_m M (q_off 8 rfl rfl rfl rfl) rfl rfl ?_
   refine wl_m M (q_off 8 rfl rfl rfl rfl) rfl rfl ?_
   refine wl_m M (q_off 8 rfl rfl rfl rfl) rfl rfl ?_
   refine wl_m M (q_off 8 rfl rfl rfl rfl) rfl rfl ?_
   refine wl_m M (q_off 8 rfl rfl rfl rfl) rfl rfl ?_
   refine wl_m M (q_pickT rfl rfl rfl) rfl rfl ?_
   refine wl_mv M rfl rfl ?_
   refine wl_m M (q_off 16 rfl rfl rfl rfl) rfl rfl ?_
   refine wl_m M (q_off 16 rfl rfl rfl rfl) rfl rfl ?_
   refine wl_m M (q_off 16 rfl rfl rfl rfl) rfl rfl ?_
   refine wl_m M (q_off 16 rfl rfl rfl rfl) rfl rfl ?_
   refine wl_m M (q_pickT rfl rfl rfl) rfl rfl ?_
   refine wl_nil ?_
   exact ⟨(), M, ⟨(show some (Value.bool true) = some (Value.bool ((((decide (t.states < 1)) || (decide (512 < t.states))) || (!(inR t.start t.states))) || (decide (4096 < (t.arcs.length : Int))))) from by first | (simp only [hg9, Bool.true_or, Bool.false_or, Bool.true_and, Bool.false_and, Bool.or_true, Bool.or_false, Bool.and_true, Bool.and_false]; done) | (simp_all; done) | (simp_all; omega)), trivial⟩, unw_take 22 rfl rfl⟩
  refine wl_m M (q_guard 3 rfl rfl rfl hg9 (q_fa fo_25_0 rfl)) rfl rfl ?_
  refine wl_m M (q_guard 3 rfl rfl rfl hg9 (q_ldb 0 Tryd.underlying3 rfl rfl rfl rfl)) rfl rfl ?_
  refine wl_m M (q_guard 3 rfl rfl rfl hg9 (q_gtr rfl rfl)) rfl rfl ?_
  refine wl_m M (q_pickF rfl hg9 rfl) rfl rfl ?_
  refine wl_mv M rfl rfl ?_
  rcases Bool.eq_false_or_eq_true (decide (512 < t.states)) with hg14 | hg14
  ·refine wl_m M (q_off 8 rfl rfl rfl hg14) rfl rfl ?_
   refine wl_m M (q_off 8 rfl rfl rfl hg14) rfl rfl ?_
   refine wl_m M (q_off 8 rfl rfl rfl hg14) rfl rfl ?_
   refine wl_m M (q_off 8 rfl rfl rfl hg14) rfl rfl ?_
   refine wl_m M (q_off 8 rfl rfl rfl hg14) rfl rfl ?_
   refine wl_m M (q_off 8 rfl rfl rfl hg14) rfl rfl ?_
   refine wl_m M (q_pickT rfl hg14 rfl) rfl rfl ?_
   refine wl_mv M rfl rfl ?_
   refine wl_m M (q_off 16 rfl rfl rfl rfl) rfl rfl ?_
   refine wl_m M (q_off 16 rfl rfl rfl rfl) rfl rfl ?_
   refine wl_m M (q_off 16 rfl rfl rfl rfl) rfl rfl ?_
   refine wl_m M (q_off 16 rfl rfl rfl rfl) rfl rfl ?_
   refine wl_m M (q_pickT rfl rfl rfl) rfl rfl ?_
   refine wl_nil ?_
   exact ⟨(), M, ⟨(show some (Value.bool true) = some (Value.bool ((((decide (t.states < 1)) || (decide (512 < t.states))) || (!(inR t.start t.states))) || (decide (4096 < (t.arcs.length : Int))))) from by first | (simp only [hg14, hg9, Bool.true_or, Bool.false_or, Bool.true_and, Bool.false_and, Bool.or_true, Bool.or_false, Bool.and_true, Bool.and_false]; done) | (simp_all; done) | (simp_all; omega)), trivial⟩, unw_take 22 rfl rfl⟩
  refine wl_m M (q_guard 8 rfl rfl rfl hg14 (q_fa fo_25_1 rfl)) rfl rfl ?_
  refine wl_m M (q_guard 8 rfl rfl rfl hg14 (q_ldb 0 Tryd.underlying3 rfl rfl rfl rfl)) rfl rfl ?_
  refine wl_m M (q_guard 8 rfl rfl rfl hg14 (q_fa fo_25_0 rfl)) rfl rfl ?_
  refine wl_m M (q_guard 8 rfl rfl rfl hg14 (q_ldb 0 Tryd.underlying3 rfl rfl rfl rfl)) rfl rfl ?_
  refine wl_e (e_guard 8 rfl rfl rfl hg14 (e_callC M (in_c t.start t.states M.imm) Tryd.func65 rfl rfl)) rfl rfl ?_
  rintro _ w2 ⟨J19, hJ19, rfl, M⟩
  replace M := M.less hJ19 (fun _ _ => rfl)
  refine wl_m M (q_guard 8 rfl rfl rfl hg14 (q_not rfl)) rfl rfl ?_
  refine wl_m M (q_pickF rfl hg14 rfl) rfl rfl ?_
  refine wl_mv M rfl rfl ?_
  rcases Bool.eq_false_or_eq_true (!(inR t.start t.states)) with hg22 | hg22
  ·refine wl_m M (q_off 16 rfl rfl rfl hg22) rfl rfl ?_
   refine wl_m M (q_off 16 rfl rfl rfl hg22) rfl rfl ?_
   refine wl_m M (q_off 16 rfl rfl rfl hg22) rfl rfl ?_
   refine wl_m M (q_off 16 rfl rfl rfl hg22) rfl rfl ?_
   refine wl_m M (q_pickT rfl hg22 rfl) rfl rfl ?_
   refine wl_nil ?_
   exact ⟨(), M, ⟨(show some (Value.bool true) = some (Value.bool ((((decide (t.states < 1)) || (decide (512 < t.states))) || (!(inR t.start t.states))) || (decide (4096 < (t.arcs.length : Int))))) from by first | (simp only [hg14, hg22, hg9, Bool.true_or, Bool.false_or, Bool.true_and, Bool.false_and, Bool.or_true, Bool.or_false, Bool.and_true, Bool.and_false]; done) | (simp_all; done) | (simp_all; omega)), trivial⟩, unw_take 22 rfl rfl⟩
  refine wl_m M (q_guard 16 rfl rfl rfl hg22 (q_fa fo_25_3 rfl)) rfl rfl ?_
  refine wl_m M (q_guard 16 rfl rfl rfl hg22 (q_ldb 0 Tryd.underlying23 rfl rfl rfl rfl)) rfl rfl ?_
  refine wl_m M (q_guard 16 rfl rfl rfl hg22 (q_lenR Ra Tryd.underlying23 rfl)) rfl rfl ?_
  refine wl_m M (q_guard 16 rfl rfl rfl hg22 (q_gtr rfl rfl)) rfl rfl ?_
  refine wl_m M (q_pickF rfl hg22 rfl) rfl rfl ?_
  refine wl_nil ?_
  exact ⟨(), M, ⟨(show some (Value.bool (decide (4096 < (t.arcs.length : Int)))) = some (Value.bool ((((decide (t.states < 1)) || (decide (512 < t.states))) || (!(inR t.start t.states))) || (decide (4096 < (t.arcs.length : Int))))) from by first | (simp only [hg14, hg22, hg9, Bool.true_or, Bool.false_or, Bool.true_and, Bool.false_and, Bool.or_true, Bool.or_false, Bool.and_true, Bool.and_false]; done) | (simp_all; done) | (simp_all; omega)), trivial⟩, unw_take 22 rfl rfl⟩
 rintro _ jr1 w3 M
 refine wc_cond rfl (fun ht27 => ?_) (fun ht27 => ?_)
 ·refine wc_seq ?_
  refine wc_region ?_
  refine wl_as M rfl rfl ?_
  refine wl_nil ?_
  refine wc_ret ?_
  refine out1 rfl rfl ⟨_, _, rfl, M.grow, congrArg Value.bool ?_⟩
  rw [validT]
  simp only [Bool.or_eq_true, Bool.not_eq_true'] at ht27
  rcases ht27 with ((h | h) | h) | h <;> simp [h]
 obtain ⟨⟨⟨h1, h2⟩, h3⟩, h4⟩ : (((decide (t.states < 1) = false ∧ decide (512 < t.states) = false) ∧ inR t.start t.states = true) ∧ decide (4096 < (t.arcs.length : Int)) = false) := by simpa [-decide_eq_false_iff_not] using ht27
 refine wc_skip ?_
 refine wc_seq ?_
 refine wc_seq ?_
 refine wc_region ?_
 refine wl_as M rfl rfl ?_
 refine wl_nil ?_
 refine wc_block ?_
 refine wc_loop (α := Nat) [2, 3, 28, 29, 30, 31, 32, 33, 34, 35, 36, 37, 38, 39, 40, 41, 42, 43, 44, 45, 46, 47, 48, 49, 50, 51, 52, 53, 54, 55, 56, 57, 58, 59, 60, 61] (fun (k0 : Nat) => [(3, .int .i64 (k0 : Int))])
   (fun (k0 : Nat) w' => (k0 ≤ t.finals.length) ∧ ((List.range k0).all (finAt t.states t.finals) = true) ∧ Mem w I I (box b1 25 [.int .i64 t.states, .int .i64 t.start, sv fu, sv au] :: []) w')
   (fun (k0 : Nat) => t.finals.length - k0) (0) ⟨rfl, trivial⟩ ?_ ?_
 ·refine ⟨Nat.zero_le _, rfl, ?_⟩
  exact M
 rintro k0 jj0 w4 ⟨hk0, hf, M⟩
 refine wc_seq ?_
 refine wc_seq ?_
 refine wc_region ?_
 refine wl_mv M rfl rfl ?_
 refine wl_m M (q_fa fo_25_2 rfl) rfl rfl ?_
 refine wl_m M (q_ldb 0 Tryd.underlying22 rfl rfl rfl rfl) rfl rfl ?_
 refine wl_m M (q_lenR Rf Tryd.underlying22 rfl) rfl rfl ?_
 refine wl_m M (q_lss rfl rfl) rfl rfl ?_
 refine wl_nil ?_
 refine wc_dec rfl (fun ht32 => ?_) (fun ht32 => ?_)
 ·obtain ⟨x0, hx0⟩ : ∃ x_, t.finals[k0]? = some x_ := ⟨_, List.getElem?_eq_getElem (by omega)⟩
  have hll0 := Rf.len_le
  refine wc_skip ?_
  refine wc_seq ?_
  refine wc_block ?_
  refine wc_seq ?_
  refine wc_join (α := Unit) [35, 36, 37, 38, 39, 40, 41, 42, 43, 44, 45, 46, 47, 48, 49, 50, 51, 52, 53, 54, 55, 56, 57, 58, 59, 60, 61] (fun _ => [(61, .bool ((!(inR x0 t.states)) || ((decide (0 < (k0 : Int))) && (decide (x0 ≤ (t.finals.getD (k0 - 1) 0))))))]) (fun _ w' => Mem w I I (box b1 25 [.int .i64 t.states, .int .i64 t.start, sv fu, sv au] :: []) w') ?_ ?_
  ·refine wc_draws (fun w' => Mem w I I (box b1 25 [.int .i64 t.states, .int .i64 t.start, sv fu, sv au] :: []) w' ∧ True) [] fol ?_
   replace M := M.drew
   have hS := (⟨M, trivial⟩ : _ ∧ _)
   refine wa_q 0 rfl (by kernel_rfl) (q_fa fo_25_2 rfl) hS rfl rfl ?_
   refine wa_q 1 rfl (by kernel_rfl) ((q_ldb 0 Tryd.underlying22 rfl rfl rfl rfl).mono fun _ h => h.1) hS rfl rfl ?_
   refine wa_q 2 rfl (by kernel_rfl) (q_move rfl) hS rfl rfl ?_
   refine wa_ixS (j := k0) 3 hS (fun _ h => Rf.mono h.1.imm) rfl (by kernel_rfl) Tryd.underlying22 rfl rfl hx0 rfl (fun b38 o38 p38 => ?_)
   refine wa_q 4 rfl (by kernel_rfl) (q_ldp p38 rfl rfl) hS rfl rfl ?_
   refine wa_q 5 rfl (by kernel_rfl) (q_fa fo_25_0 rfl) hS rfl rfl ?_
   refine wa_q 6 rfl (by kernel_rfl) ((q_ldb 0 Tryd.underlying3 rfl rfl rfl rfl).mono fun _ h => h.1) hS rfl rfl ?_
   refine wa_e 7 rfl (by kernel_rfl) (e_callC M (in_c x0 t.states M.imm) Tryd.func65 rfl rfl) rfl rfl ?_
   rintro _ w5 ⟨J42, hJ42, rfl, M⟩
   have hS := (⟨(M.less hJ42 (fun _ _ => rfl)), trivial⟩ : _ ∧ _)
   refine ⟨fun _ => hS, ?_⟩
   replace M := M.less hJ42 (fun _ _ => rfl)
   refine wa_q 8 rfl (by kernel_rfl) (q_not rfl) hS rfl rfl ?_
   refine wa_q 9 rfl (by kernel_rfl) (q_move rfl) hS rfl rfl ?_
   rcases Bool.eq_false_or_eq_true (!(inR x0 t.states)) with hg44 | hg44
   ·refine wa_q 10 rfl (by kernel_rfl) (q_off 9 rfl rfl rfl hg44) hS rfl rfl ?_
    refine wa_q 11 rfl (by kernel_rfl) (q_off 9 rfl rfl rfl hg44) hS rfl rfl ?_
    refine wa_q 12 rfl (by kernel_rfl) (q_off 9 rfl rfl rfl hg44) hS rfl rfl ?_
    refine wa_q 13 rfl (by kernel_rfl) (q_offu 12 rfl rfl rfl) hS rfl rfl ?_
    refine wa_q 14 rfl (by kernel_rfl) (q_offu 12 rfl rfl rfl) hS rfl rfl ?_
    refine wa_q 15 rfl (by kernel_rfl) (q_offu 12 rfl rfl rfl) hS rfl rfl ?_
    refine wa_q 16 rfl (by kernel_rfl) (q_offu 12 rfl rfl rfl) hS rfl rfl ?_
    refine wa_q 17 rfl (by kernel_rfl) (q_offu 12 rfl rfl rfl) hS rfl rfl ?_
    refine wa_q 18 rfl (by kernel_rfl) (q_offu 12 rfl rfl rfl) hS rfl rfl ?_
    refine wa_q 19 rfl (by kernel_rfl) (q_offu 12 rfl rfl rfl) hS rfl rfl ?_
    refine wa_q 20 rfl (by kernel_rfl) (q_offu 12 rfl rfl rfl) hS rfl rfl ?_
    refine wa_q 21 rfl (by kernel_rfl) (q_offu 12 rfl rfl rfl) hS rfl rfl ?_
    refine wa_q 22 rfl (by kernel_rfl) (q_offu 12 rfl rfl rfl) hS rfl rfl ?_
    refine wa_q 23 rfl (by kernel_rfl) (q_offu 12 rfl rfl rfl) hS rfl rfl ?_
    refine wa_q 24 rfl (by kernel_rfl) (q_offu 12 rfl rfl rfl) hS rfl rfl ?_
    refine wa_q 25 rfl (by kernel_rfl) (q_off 9 rfl rfl rfl hg44) hS rfl rfl ?_
    refine wa_q 26 rfl (by kernel_rfl) (q_pickT rfl hg44 rfl) hS rfl rfl ?_
    refine wa_done (by kernel_rfl) ?_
    exact ⟨(), M, ⟨(show some (Value.bool true) = some (Value.bool ((!(inR x0 t.states)) || ((decide (0 < (k0 : Int))) && (decide (x0 ≤ (t.finals.getD (k0 - 1) 0)))))) from by first | (simp only [hg44, Bool.true_or, Bool.false_or, Bool.true_and, Bool.false_and, Bool.or_true, Bool.or_false, Bool.and_true, Bool.and_false]; done) | (simp_all; done) | (simp_all; omega)), trivial⟩, unw_take 27 rfl rfl⟩
   refine wa_q 10 rfl (by kernel_rfl) (q_guard 9 rfl rfl rfl hg44 (q_move rfl)) hS rfl rfl ?_
   refine wa_q 11 rfl (by kernel_rfl) (q_guard 9 rfl rfl rfl hg44 (q_gtr rfl rfl)) hS rfl rfl ?_
   refine wa_q 12 rfl (by kernel_rfl) (q_guard 9 rfl rfl rfl hg44 (q_move rfl)) hS rfl rfl ?_
   rcases Bool.eq_false_or_eq_true (decide (0 < (k0 : Int))) with hg47 | hg47
   ·refine wa_q 13 rfl (by kernel_rfl) (q_guard 12 rfl rfl rfl hg47 (q_fa fo_25_2 rfl)) hS rfl rfl ?_
    refine wa_q 14 rfl (by kernel_rfl) ((q_guard 12 rfl rfl rfl hg47 (q_ldb 0 Tryd.underlying22 rfl rfl rfl rfl)).mono fun _ h => h.1) hS rfl rfl ?_
    refine wa_q 15 rfl (by kernel_rfl) (q_guard 12 rfl rfl rfl hg47 (q_move rfl)) hS rfl rfl ?_
    refine wa_ixSG (j := k0) 12 rfl rfl rfl hg47 16 hS (fun _ h => Rf.mono h.1.imm) rfl (by kernel_rfl) Tryd.underlying22 rfl rfl hx0 rfl (fun b51 o51 p51 => ?_)
    refine wa_q 17 rfl (by kernel_rfl) (q_guard 12 rfl rfl rfl hg47 (q_ldp p51 rfl rfl)) hS rfl rfl ?_
    refine wa_q 18 rfl (by kernel_rfl) (q_guard 12 rfl rfl rfl hg47 (q_fa fo_25_2 rfl)) hS rfl rfl ?_
    refine wa_q 19 rfl (by kernel_rfl) ((q_guard 12 rfl rfl rfl hg47 (q_ldb 0 Tryd.underlying22 rfl rfl rfl rfl)).mono fun _ h => h.1) hS rfl rfl ?_
    refine wa_q 20 rfl (by kernel_rfl) (q_guard 12 rfl rfl rfl hg47 (q_move rfl)) hS rfl rfl ?_
    refine wa_q 21 rfl (by kernel_rfl) (q_guard 12 rfl rfl rfl hg47 (q_sub rfl rfl (IntWalk.i64_in _ (by omega)))) hS rfl rfl ?_
    have hk47 : 0 < k0 := by have := of_decide_eq_true hg47; omega
    refine wa_ixSG (j := (k0 - 1)) 12 rfl rfl rfl hg47 22 hS (fun _ h => Rf.mono h.1.imm) rfl (by kernel_rfl) Tryd.underlying22 rfl (ixe (by omega)) (getD_at (d := 0) (by omega)) rfl (fun b57 o57 p57 => ?_)
    refine wa_q 23 rfl (by kernel_rfl) (q_guard 12 rfl rfl rfl hg47 (q_ldp p57 rfl rfl)) hS rfl rfl ?_
    refine wa_q 24 rfl (by kernel_rfl) (q_guard 12 rfl rfl rfl hg47 (q_leq rfl rfl)) hS rfl rfl ?_
    refine wa_q 25 rfl (by kernel_rfl) (q_guard 9 rfl rfl rfl hg44 (q_pickT rfl hg47 rfl)) hS rfl rfl ?_
    refine wa_q 26 rfl (by kernel_rfl) (q_pickF rfl hg44 rfl) hS rfl rfl ?_
    refine wa_done (by kernel_rfl) ?_
    exact ⟨(), M, ⟨(show some (Value.bool (decide (x0 ≤ (t.finals.getD (k0 - 1) 0)))) = some (Value.bool ((!(inR x0 t.states)) || ((decide (0 < (k0 : Int))) && (decide (x0 ≤ (t.finals.getD (k0 - 1) 0)))))) from by first | (simp only [hg44, hg47, Bool.true_or, Bool.false_or, Bool.true_and, Bool.false_and, Bool.or_true, Bool.or_false, Bool.and_true, Bool.and_false]; done) | (simp_all; done) | (simp_all; omega)), trivial⟩, unw_take 27 rfl rfl⟩
   refine wa_q 13 rfl (by kernel_rfl) (q_off 12 rfl rfl rfl hg47) hS rfl rfl ?_
   refine wa_q 14 rfl (by kernel_rfl) (q_off 12 rfl rfl rfl hg47) hS rfl rfl ?_
   refine wa_q 15 rfl (by kernel_rfl) (q_off 12 rfl rfl rfl hg47) hS rfl rfl ?_
   refine wa_q 16 rfl (by kernel_rfl) (q_off 12 rfl rfl rfl hg47) hS rfl rfl ?_
   refine wa_q 17 rfl (by kernel_rfl) (q_off 12 rfl rfl rfl hg47) hS rfl rfl ?_
   refine wa_q 18 rfl (by kernel_rfl) (q_off 12 rfl rfl rfl hg47) hS rfl rfl ?_
   refine wa_q 19 rfl (by kernel_rfl) (q_off 12 rfl rfl rfl hg47) hS rfl rfl ?_
   refine wa_q 20 rfl (by kernel_rfl) (q_off 12 rfl rfl rfl hg47) hS rfl rfl ?_
   refine wa_q 21 rfl (by kernel_rfl) (q_off 12 rfl rfl rfl hg47) hS rfl rfl ?_
   refine wa_q 22 rfl (by kernel_rfl) (q_off 12 rfl rfl rfl hg47) hS rfl rfl ?_
   refine wa_q 23 rfl (by kernel_rfl) (q_off 12 rfl rfl rfl hg47) hS rfl rfl ?_
   refine wa_q 24 rfl (by kernel_rfl) (q_off 12 rfl rfl rfl hg47) hS rfl rfl ?_
   refine wa_q 25 rfl (by kernel_rfl) (q_guard 9 rfl rfl rfl hg44 (q_pickF rfl hg47 rfl)) hS rfl rfl ?_
   refine wa_q 26 rfl (by kernel_rfl) (q_pickF rfl hg44 rfl) hS rfl rfl ?_
   refine wa_done (by kernel_rfl) ?_
   exact ⟨(), M, ⟨(show some (Value.bool false) = some (Value.bool ((!(inR x0 t.states)) || ((decide (0 < (k0 : Int))) && (decide (x0 ≤ (t.finals.getD (k0 - 1) 0)))))) from by first | (simp only [hg44, hg47, Bool.true_or, Bool.false_or, Bool.true_and, Bool.false_and, Bool.or_true, Bool.or_false, Bool.and_true, Bool.and_false]; done) | (simp_all; done) | (simp_all; omega)), trivial⟩, unw_take 27 rfl rfl⟩
  rintro _ jr6 w6 M
  refine wc_cond rfl (fun ht61 => ?_) (fun ht61 => ?_)
  ·refine wc_seq ?_
   refine wc_region ?_
   refine wl_as M rfl rfl ?_
   refine wl_nil ?_
   refine wc_ret ?_
   exact out1 rfl rfl ⟨_, _, rfl, M.grow, by rw [validT, all_range_false (k := k0) (by omega) (by rw [finAt_of hx0, ht61]; rfl)]; simp⟩
  refine wc_skip ?_
  refine wc_region ?_
  refine wl_mv M rfl rfl ?_
  refine wl_m M (q_add rfl rfl (IntWalk.i64_in _ (by omega))) rfl rfl ?_
  refine wl_as M rfl rfl ?_
  refine wl_nil ?_
  refine ⟨(k0 + 1), ?_, ⟨(by omega), (all_range_succ hf (by rw [finAt_of hx0, ht61]; rfl)), M⟩, ⟨rfl, trivial⟩, unw_look rfl (unw_hav rfl (unw_look rfl unw_base))⟩
  show t.finals.length - (k0 + 1) < t.finals.length - k0
  omega
 have hke0 : k0 = t.finals.length := by omega
 rw [hke0] at hf
 refine wc_exit rfl ?_
 refine wc_seq ?_
 refine wc_seq ?_
 refine wc_region ?_
 refine wl_as M rfl rfl ?_
 refine wl_nil ?_
 refine wc_block ?_
 refine wc_loop (α := Nat) [2, 4, 5, 62, 63, 64, 65, 66, 67, 68, 69, 70, 71, 72, 73, 74, 75, 76, 77, 78, 79, 80, 81, 82, 83, 84, 85, 86, 87, 88, 89, 90, 91, 92, 93, 94, 95, 96, 97, 98, 99] (fun (k2 : Nat) => [(4, .int .i64 (k2 : Int))])
   (fun (k2 : Nat) w' => (k2 ≤ t.arcs.length) ∧ ((t.arcs.take k2).all (arcOk t.states) = true) ∧ Mem w I I (box b1 25 [.int .i64 t.states, .int .i64 t.start, sv fu, sv au] :: []) w')
   (fun (k2 : Nat) => t.arcs.length - k2) (0) ⟨rfl, trivial⟩ ?_ ?_
 ·refine ⟨Nat.zero_le _, rfl, ?_⟩
  exact M
 rintro k2 jj2 w7 ⟨hk2, ha, M⟩
 refine wc_seq ?_
 refine wc_seq ?_
 refine wc_region ?_
 refine wl_mv M rfl rfl ?_
 refine wl_m M (q_fa fo_25_3 rfl) rfl rfl ?_
 refine wl_m M (q_ldb 0 Tryd.underlying23 rfl rfl rfl rfl) rfl rfl ?_
 refine wl_m M (q_lenR Ra Tryd.underlying23 rfl) rfl rfl ?_
 refine wl_m M (q_lss rfl rfl) rfl rfl ?_
 refine wl_nil ?_
 refine wc_dec rfl (fun ht66 => ?_) (fun ht66 => ?_)
 ·obtain ⟨x2, hx2⟩ : ∃ x_, t.arcs[k2]? = some x_ := ⟨_, List.getElem?_eq_getElem (by omega)⟩
  have hll2 := Ra.len_le
  refine wc_skip ?_
  refine wc_seq ?_
  refine wc_block ?_
  refine wc_seq ?_
  refine wc_region ?_
  refine wl_m M (q_fa fo_25_3 rfl) rfl rfl ?_
  refine wl_m M (q_ldb 0 Tryd.underlying23 rfl rfl rfl rfl) rfl rfl ?_
  refine wl_mv M rfl rfl ?_
  refine wl_ix (j := k2) M Ra Tryd.underlying23 rfl rfl hx2 rfl (fun b72 o72 p72 => ?_)
  refine wl_m M (q_ldp p72 rfl rfl) rfl rfl ?_
  refine wl_e (e_alloc M z48) rfl rfl ?_
  rintro _ w8 ⟨b5, rfl, M⟩
  refine wl_e0 (e_stW 0 M rfl rfl rfl sz48 rfl rfl) rfl ?_
  intro _ w9 M
  simp only [sC0, sCS] at M
  refine wl_nil ?_
  refine wc_seq ?_
  refine wc_join (α := Unit) [74, 75, 76, 77, 78, 79, 80, 81, 82, 83, 84, 85, 86, 87, 88, 89, 90, 91, 92, 93, 94, 95, 96, 97, 98, 99] (fun _ => [(99, .bool ((((!(inR x2.src t.states)) || (!(inR x2.dst t.states))) || (!(vRune x2.inp))) || (!(vRune x2.out))))]) (fun _ w' => Mem w I I (box b5 48 [.int .i64 x2.src, .int .i64 x2.dst, .int .i32 x2.inp, .int .i32 x2.out] :: box b1 25 [.int .i64 t.states, .int .i64 t.start, sv fu, sv au] :: []) w') ?_ ?_
  ·refine wc_region ?_
   refine wl_m M (q_fa fo_48_0 rfl) rfl rfl ?_
   refine wl_m M (q_ldb 0 Tryd.underlying3 rfl rfl rfl rfl) rfl rfl ?_
   refine wl_m M (q_fa fo_25_0 rfl) rfl rfl ?_
   refine wl_m M (q_ldb 1 Tryd.underlying3 rfl rfl rfl rfl) rfl rfl ?_
   refine wl_e (e_callC M (in_c x2.src t.states M.imm) Tryd.func65 rfl rfl) rfl rfl ?_
   rintro _ w10 ⟨J78, hJ78, rfl, M⟩
   replace M := M.less hJ78 (fun _ _ => rfl)
   refine wl_m M (q_not rfl) rfl rfl ?_
   refine wl_mv M rfl rfl ?_
   rcases Bool.eq_false_or_eq_true (!(inR x2.src t.states)) with hg80 | hg80
   ·refine wl_m M (q_off 6 rfl rfl rfl hg80) rfl rfl ?_
    refine wl_m M (q_off 6 rfl rfl rfl hg80) rfl rfl ?_
    refine wl_m M (q_off 6 rfl rfl rfl hg80) rfl rfl ?_
    refine wl_m M (q_off 6 rfl rfl rfl hg80) rfl rfl ?_
    refine wl_m M (q_off 6 rfl rfl rfl hg80) rfl rfl ?_
    refine wl_m M (q_off 6 rfl rfl rfl hg80) rfl rfl ?_
    refine wl_m M (q_pickT rfl hg80 rfl) rfl rfl ?_
    refine wl_mv M rfl rfl ?_
    refine wl_m M (q_off 14 rfl rfl rfl rfl) rfl rfl ?_
    refine wl_m M (q_off 14 rfl rfl rfl rfl) rfl rfl ?_
    refine wl_m M (q_off 14 rfl rfl rfl rfl) rfl rfl ?_
    refine wl_m M (q_off 14 rfl rfl rfl rfl) rfl rfl ?_
    refine wl_m M (q_pickT rfl rfl rfl) rfl rfl ?_
    refine wl_mv M rfl rfl ?_
    refine wl_m M (q_off 20 rfl rfl rfl rfl) rfl rfl ?_
    refine wl_m M (q_off 20 rfl rfl rfl rfl) rfl rfl ?_
    refine wl_m M (q_off 20 rfl rfl rfl rfl) rfl rfl ?_
    refine wl_m M (q_off 20 rfl rfl rfl rfl) rfl rfl ?_
    refine wl_m M (q_pickT rfl rfl rfl) rfl rfl ?_
    refine wl_nil ?_
    exact ⟨(), M, ⟨(show some (Value.bool true) = some (Value.bool ((((!(inR x2.src t.states)) || (!(inR x2.dst t.states))) || (!(vRune x2.inp))) || (!(vRune x2.out)))) from by first | (simp only [hg80, Bool.true_or, Bool.false_or, Bool.true_and, Bool.false_and, Bool.or_true, Bool.or_false, Bool.and_true, Bool.and_false]; done) | (simp_all; done) | (simp_all; omega)), trivial⟩, unw_take 26 rfl rfl⟩
   refine wl_m M (q_guard 6 rfl rfl rfl hg80 (q_fa fo_48_1 rfl)) rfl rfl ?_
   refine wl_m M (q_guard 6 rfl rfl rfl hg80 (q_ldb 0 Tryd.underlying3 rfl rfl rfl rfl)) rfl rfl ?_
   refine wl_m M (q_guard 6 rfl rfl rfl hg80 (q_fa fo_25_0 rfl)) rfl rfl ?_
   refine wl_m M (q_guard 6 rfl rfl rfl hg80 (q_ldb 1 Tryd.underlying3 rfl rfl rfl rfl)) rfl rfl ?_
   refine wl_e (e_guard 6 rfl rfl rfl hg80 (e_callC M (in_c x2.dst t.states M.imm) Tryd.func65 rfl rfl)) rfl rfl ?_
   rintro _ w11 ⟨J85, hJ85, rfl, M⟩
   replace M := M.less hJ85 (fun _ _ => rfl)
   refine wl_m M (q_guard 6 rfl rfl rfl hg80 (q_not rfl)) rfl rfl ?_
   refine wl_m M (q_pickF rfl hg80 rfl) rfl rfl ?_
   refine wl_mv M rfl rfl ?_
   rcases Bool.eq_false_or_eq_true (!(inR x2.dst t.states)) with hg88 | hg88
   ·refine wl_m M (q_off 14 rfl rfl rfl hg88) rfl rfl ?_
    refine wl_m M (q_off 14 rfl rfl rfl hg88) rfl rfl ?_
    refine wl_m M (q_off 14 rfl rfl rfl hg88) rfl rfl ?_
    refine wl_m M (q_off 14 rfl rfl rfl hg88) rfl rfl ?_
    refine wl_m M (q_pickT rfl hg88 rfl) rfl rfl ?_
    refine wl_mv M rfl rfl ?_
    refine wl_m M (q_off 20 rfl rfl rfl rfl) rfl rfl ?_
    refine wl_m M (q_off 20 rfl rfl rfl rfl) rfl rfl ?_
    refine wl_m M (q_off 20 rfl rfl rfl rfl) rfl rfl ?_
    refine wl_m M (q_off 20 rfl rfl rfl rfl) rfl rfl ?_
    refine wl_m M (q_pickT rfl rfl rfl) rfl rfl ?_
    refine wl_nil ?_
    exact ⟨(), M, ⟨(show some (Value.bool true) = some (Value.bool ((((!(inR x2.src t.states)) || (!(inR x2.dst t.states))) || (!(vRune x2.inp))) || (!(vRune x2.out)))) from by first | (simp only [hg80, hg88, Bool.true_or, Bool.false_or, Bool.true_and, Bool.false_and, Bool.or_true, Bool.or_false, Bool.and_true, Bool.and_false]; done) | (simp_all; done) | (simp_all; omega)), trivial⟩, unw_take 26 rfl rfl⟩
   refine wl_m M (q_guard 14 rfl rfl rfl hg88 (q_fa fo_48_2 rfl)) rfl rfl ?_
   refine wl_m M (q_guard 14 rfl rfl rfl hg88 (q_ldb 0 Tryd.underlying21 rfl rfl rfl rfl)) rfl rfl ?_
   refine wl_e (e_guard 14 rfl rfl rfl hg88 (e_callC M (label_c x2.inp M.imm) Tryd.func66 rfl rfl)) rfl rfl ?_
   rintro _ w12 ⟨J91, hJ91, rfl, M⟩
   replace M := M.less hJ91 (fun _ _ => rfl)
   refine wl_m M (q_guard 14 rfl rfl rfl hg88 (q_not rfl)) rfl rfl ?_
   refine wl_m M (q_pickF rfl hg88 rfl) rfl rfl ?_
   refine wl_mv M rfl rfl ?_
   rcases Bool.eq_false_or_eq_true (!(vRune x2.inp)) with hg94 | hg94
   ·refine wl_m M (q_off 20 rfl rfl rfl hg94) rfl rfl ?_
    refine wl_m M (q_off 20 rfl rfl rfl hg94) rfl rfl ?_
    refine wl_m M (q_off 20 rfl rfl rfl hg94) rfl rfl ?_
    refine wl_m M (q_off 20 rfl rfl rfl hg94) rfl rfl ?_
    refine wl_m M (q_pickT rfl hg94 rfl) rfl rfl ?_
    refine wl_nil ?_
    exact ⟨(), M, ⟨(show some (Value.bool true) = some (Value.bool ((((!(inR x2.src t.states)) || (!(inR x2.dst t.states))) || (!(vRune x2.inp))) || (!(vRune x2.out)))) from by first | (simp only [hg80, hg88, hg94, Bool.true_or, Bool.false_or, Bool.true_and, Bool.false_and, Bool.or_true, Bool.or_false, Bool.and_true, Bool.and_false]; done) | (simp_all; done) | (simp_all; omega)), trivial⟩, unw_take 26 rfl rfl⟩
   refine wl_m M (q_guard 20 rfl rfl rfl hg94 (q_fa fo_48_3 rfl)) rfl rfl ?_
   refine wl_m M (q_guard 20 rfl rfl rfl hg94 (q_ldb 0 Tryd.underlying21 rfl rfl rfl rfl)) rfl rfl ?_
   refine wl_e (e_guard 20 rfl rfl rfl hg94 (e_callC M (label_c x2.out M.imm) Tryd.func66 rfl rfl)) rfl rfl ?_
   rintro _ w13 ⟨J97, hJ97, rfl, M⟩
   replace M := M.less hJ97 (fun _ _ => rfl)
   refine wl_m M (q_guard 20 rfl rfl rfl hg94 (q_not rfl)) rfl rfl ?_
   refine wl_m M (q_pickF rfl hg94 rfl) rfl rfl ?_
   refine wl_nil ?_
   exact ⟨(), M, ⟨(show some (Value.bool (!(vRune x2.out))) = some (Value.bool ((((!(inR x2.src t.states)) || (!(inR x2.dst t.states))) || (!(vRune x2.inp))) || (!(vRune x2.out)))) from by first | (simp only [hg80, hg88, hg94, Bool.true_or, Bool.false_or, Bool.true_and, Bool.false_and, Bool.or_true, Bool.or_false, Bool.and_true, Bool.and_false]; done) | (simp_all; done) | (simp_all; omega)), trivial⟩, unw_take 26 rfl rfl⟩
  rintro _ jr12 w14 M
  refine wc_cond rfl (fun ht99 => ?_) (fun ht99 => ?_)
  ·refine wc_seq ?_
   refine wc_region ?_
   refine wl_as M rfl rfl ?_
   refine wl_nil ?_
   refine wc_ret ?_
   exact out1 rfl rfl ⟨_, _, rfl, M.grow, by rw [validT, all_false_at (f := arcOk t.states) hx2 (by rw [arcOk, ht99]; rfl)]; simp⟩
  refine wc_skip ?_
  refine wc_region ?_
  refine wl_mv M rfl rfl ?_
  refine wl_m M (q_add rfl rfl (IntWalk.i64_in _ (by omega))) rfl rfl ?_
  refine wl_as M rfl rfl ?_
  refine wl_nil ?_
  replace M := M.drop 0
  refine ⟨(k2 + 1), ?_, ⟨(by omega), (all_take_succ hx2 ha (by rw [arcOk, ht99]; rfl)), M⟩, ⟨rfl, trivial⟩, unw_look rfl (unw_hav rfl (unw_look rfl unw_base))⟩
  show t.arcs.length - (k2 + 1) < t.arcs.length - k2
  omega
 have hke2 : k2 = t.arcs.length := by omega
 rw [hke2, List.take_length] at ha
 refine wc_exit rfl ?_
 refine wc_seq ?_
 refine wc_region ?_
 refine wl_as M rfl rfl ?_
 refine wl_nil ?_
 refine wc_ret ?_
 exact out1 rfl rfl ⟨_, _, rfl, M.grow, by rw [validT, h1, h2, h3, h4, hf, ha]; rfl⟩
end Go.Proofs.YtmjieefhjmiagaaDoor.G
