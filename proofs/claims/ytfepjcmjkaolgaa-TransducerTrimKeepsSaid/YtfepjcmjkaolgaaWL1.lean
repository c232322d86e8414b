/- Walks of the program's functions. -/
import Derived.Test.YtfepjcmjkaolgaaWSj
set_option linter.all false
namespace Go.Proofs.Ytfepjcmjkaolgaa.G
open Go Go.RowKit
theorem short_c (s : ByteArray) (n : Int) {I : Heap} {w : World} (hI : hle I (hp w)) : Calls A 21 #[.string s, .int .i64 n] w (Ret w I fun r _ => r = .bool (decide ((s.size : Int) ≤ n))) := by
 have M := Mem.start hI
 refine enter Try.func21 rfl 9 Try.ntmps21 [_, _] rfl ?_
 refine wc_seq ?_
 refine wc_region ?_
 refine wl_as M rfl rfl ?_
 refine wl_nil ?_
 refine wc_seq ?_
 refine wc_region ?_
 refine wl_mv M rfl rfl ?_
 refine wl_m M (q_lenStr Try.underlying9 rfl) rfl rfl ?_
 refine wl_mv M rfl rfl ?_
 refine wl_m M (q_leq rfl rfl) rfl rfl ?_
 refine wl_as M rfl rfl ?_
 refine wl_nil ?_
 refine wc_ret ?_
 exact out1 rfl rfl ⟨_, _, rfl, M.grow, rfl⟩
set_option maxRecDepth 4000 in
set_option maxHeartbeats 1000000 in
theorem lawKeeps_c (t : Tra) (x y : ByteArray) {v1 : Value} {I : Heap} {w : World} (hI : hle I (hp w)) (R1 : t.rd I v1) : Calls A 7 #[v1, .string x, .string y] w (Ret w I fun r _ => r = .bool true) := by
 obtain ⟨fu1, au1, rfl, Rf1, Ra1⟩ := R1
 have M := Mem.start hI
 refine enter Try.func7 rfl 71 Try.ntmps7 [_, _, _] rfl ?_
 refine wc_seq ?_
 refine wc_region ?_
 refine wl_e (e_box M rfl) rfl rfl ?_
 rintro _ w1 ⟨b3, rfl, M⟩
 refine wl_as M rfl rfl ?_
 refine wl_nil ?_
 refine wc_seq ?_
 refine wc_seq ?_
 refine wc_join (α := Unit) [8, 9, 10, 11, 12, 13, 14, 15, 16, 17, 18, 19, 20, 21, 22, 23, 24, 25, 26, 27, 28, 29, 30, 31] (fun _ => [(31, .bool (((((decide (40 < t.states)) || (decide (100 < (t.arcs.length : Int)))) || (!(decide ((x.size : Int) ≤ 20)))) || (!(decide ((y.size : Int) ≤ 20)))) || (!(validT t))))]) (fun _ w' => Mem w I I (box b3 25 [.int .i64 t.states, .int .i64 t.start, sv fu1, sv au1] :: []) w') ?_ ?_
 ·refine wc_region ?_
  refine wl_m M (q_fa fo_25_0 rfl) rfl rfl ?_
  refine wl_m M (q_ldb 0 Try.underlying3 rfl rfl rfl rfl) rfl rfl ?_
  refine wl_m M (q_gtr rfl rfl) rfl rfl ?_
  refine wl_mv M rfl rfl ?_
  rcases Bool.eq_false_or_eq_true (decide (40 < t.states)) with hg11 | hg11
  ·refine wl_m M (q_off 3 rfl rfl rfl hg11) rfl rfl ?_
   refine wl_m M (q_off 3 rfl rfl rfl hg11) rfl rfl ?_
   refine wl_m M (q_off 3 rfl rfl rfl hg11) rfl rfl ?_
   refine wl_m M (q_off 3 rfl rfl rfl hg11) rfl rfl ?_
   refine wl_m M (q_pickT rfl hg11 rfl) rfl rfl ?_
   refine wl_mv M rfl rfl ?_
   refine wl_m M (q_off 9 rfl rfl rfl rfl) rfl rfl ?_
   refine wl_m M (q_off 9 rfl rfl rfl rfl) rfl rfl ?_
   refine wl_m M (q_off 9 rfl rfl rfl rfl) rfl rfl ?_
   refine wl_m M (q_pickT rfl rfl rfl) rfl rfl ?_
   refine wl_mv M rfl rfl ?_
   refine wl_m M (q_off 14 rfl rfl rfl rfl) rfl rfl ?_
   refine wl_m M (q_off 14 rfl rfl rfl rfl) rfl rfl ?_
   refine wl_m M (q_off 14 rfl rfl rfl rfl) rfl rfl ?_
   refine wl_m M (q_pickT rfl rfl rfl) rfl rfl ?_
   refine wl_mv M rfl rfl ?_
   refine wl_m M (q_off 19 rfl rfl rfl rfl) rfl rfl ?_
   refine wl_m M (q_off 19 rfl rfl rfl rfl) rfl rfl ?_
   refine wl_m M (q_off 19 rfl rfl rfl rfl) rfl rfl ?_
   refine wl_m M (q_pickT rfl rfl rfl) rfl rfl ?_
   refine wl_nil ?_
   exact ⟨(), M, ⟨(show some (Value.bool true) = some (Value.bool (((((decide (40 < t.states)) || (decide (100 < (t.arcs.length : Int)))) || (!(decide ((x.size : Int) ≤ 20)))) || (!(decide ((y.size : Int) ≤ 20)))) || (!(validT t)))) from by first | (simp only [hg11, Bool.true_or, Bool.false_or, Bool.true_and, Bool.false_and, Bool.or_true, Bool.or_false, Bool.and_true, Bool.and_false]; done) | simp_all), trivial⟩, unw_take 24 rfl rfl⟩
  refine wl_m M (q_guard 3 rfl rfl rfl hg11 (q_fa fo_25_3 rfl)) rfl rfl ?_
  refine wl_m M (q_guard 3 rfl rfl rfl hg11 (q_ldb 0 Try.underlying23 rfl rfl rfl rfl)) rfl rfl ?_
  refine wl_m M (q_guard 3 rfl rfl rfl hg11 (q_lenR Ra1 Try.underlying23 rfl)) rfl rfl ?_
  refine wl_m M (q_guard 3 rfl rfl rfl hg11 (q_gtr rfl rfl)) rfl rfl ?_
  refine wl_m M (q_pickF rfl hg11 rfl) rfl rfl ?_
  refine wl_mv M rfl rfl ?_
  rcases Bool.eq_false_or_eq_true (decide (100 < (t.arcs.length : Int))) with hg17 | hg17
  ·refine wl_m M (q_off 9 rfl rfl rfl hg17) rfl rfl ?_
   refine wl_m M (q_off 9 rfl rfl rfl hg17) rfl rfl ?_
   refine wl_m M (q_off 9 rfl rfl rfl hg17) rfl rfl ?_
   refine wl_m M (q_pickT rfl hg17 rfl) rfl rfl ?_
   refine wl_mv M rfl rfl ?_
   refine wl_m M (q_off 14 rfl rfl rfl rfl) rfl rfl ?_
   refine wl_m M (q_off 14 rfl rfl rfl rfl) rfl rfl ?_
   refine wl_m M (q_off 14 rfl rfl rfl rfl) rfl rfl ?_
   refine wl_m M (q_pickT rfl rfl rfl) rfl rfl ?_
   refine wl_mv M rfl rfl ?_
   refine wl_m M (q_off 19 rfl rfl rfl rfl) rfl rfl ?_
   refine wl_m M (q_off 19 rfl rfl rfl rfl) rfl rfl ?_
   refine wl_m M (q_off 19 rfl rfl rfl rfl) rfl rfl ?_
   refine wl_m M (q_pickT rfl rfl rfl) rfl rfl ?_
   refine wl_nil ?_
   exact ⟨(), M, ⟨(show some (Value.bool true) = some (Value.bool (((((decide (40 < t.states)) || (decide (100 < (t.arcs.length : Int)))) || (!(decide ((x.size : Int) ≤ 20)))) || (!(decide ((y.size : Int) ≤ 20)))) || (!(validT t)))) from by first | (simp only [hg11, hg17, Bool.true_or, Bool.false_or, Bool.true_and, Bool.false_and, Bool.or_true, Bool.or_false, Bool.and_true, Bool.and_false]; done) | simp_all), trivial⟩, unw_take 24 rfl rfl⟩
  refine wl_m M (q_guard 9 rfl rfl rfl hg17 (q_move rfl)) rfl rfl ?_
  refine wl_e (e_guard 9 rfl rfl rfl hg17 (e_callC M (short_c x 20 M.imm) Try.func21 rfl rfl)) rfl rfl ?_
  rintro _ w2 ⟨J19, hJ19, rfl, M⟩
  replace M := M.less hJ19 (fun _ _ => rfl)
  refine wl_m M (q_guard 9 rfl rfl rfl hg17 (q_not rfl)) rfl rfl ?_
  refine wl_m M (q_pickF rfl hg17 rfl) rfl rfl ?_
  refine wl_mv M rfl rfl ?_
  rcases Bool.eq_false_or_eq_true (!(decide ((x.size : Int) ≤ 20))) with hg22 | hg22
  ·refine wl_m M (q_off 14 rfl rfl rfl hg22) rfl rfl ?_
   refine wl_m M (q_off 14 rfl rfl rfl hg22) rfl rfl ?_
   refine wl_m M (q_off 14 rfl rfl rfl hg22) rfl rfl ?_
   refine wl_m M (q_pickT rfl hg22 rfl) rfl rfl ?_
   refine wl_mv M rfl rfl ?_
   refine wl_m M (q_off 19 rfl rfl rfl rfl) rfl rfl ?_
   refine wl_m M (q_off 19 rfl rfl rfl rfl) rfl rfl ?_
   refine wl_m M (q_off 19 rfl rfl rfl rfl) rfl rfl ?_
   refine wl_m M (q_pickT rfl rfl rfl) rfl rfl ?_
   refine wl_nil ?_
   exact ⟨(), M, ⟨(show some (Value.bool true) = some (Value.bool (((((decide (40 < t.states)) || (decide (100 < (t.arcs.length : Int)))) || (!(decide ((x.size : Int) ≤ 20)))) || (!(decide ((y.size : Int) ≤ 20)))) || (!(validT t)))) from by first | (simp only [hg11, hg17, hg22, Bool.true_or, Bool.false_or, Bool.true_and, Bool.false_and, Bool.or_true, Bool.or_false, Bool.and_true, Bool.and_false]; done) | simp_all), trivial⟩, unw_take 24 rfl rfl⟩
  refine wl_m M (q_guard 14 rfl rfl rfl hg22 (q_move rfl)) rfl rfl ?_
  refine wl_e (e_guard 14 rfl rfl rfl hg22 (e_callC M (short_c y 20 M.imm) Try.func21 rfl rfl)) rfl rfl ?_
  rintro _ w3 ⟨J24, hJ24, rfl, M⟩
  replace M := M.less hJ24 (fun _ _ => rfl)
  refine wl_m M (q_guard 14 rfl rfl rfl hg22 (q_not rfl)) rfl rfl ?_
  refine wl_m M (q_pickF rfl hg22 rfl) rfl rfl ?_
  refine wl_mv M rfl rfl ?_
  rcases Bool.eq_false_or_eq_true (!(decide ((y.size : Int) ≤ 20))) with hg27 | hg27
  ·refine wl_m M (q_off 19 rfl rfl rfl hg27) rfl rfl ?_
   refine wl_m M (q_off 19 rfl rfl rfl hg27) rfl rfl ?_
   refine wl_m M (q_off 19 rfl rfl rfl hg27) rfl rfl ?_
   refine wl_m M (q_pickT rfl hg27 rfl) rfl rfl ?_
   refine wl_nil ?_
   exact ⟨(), M, ⟨(show some (Value.bool true) = some (Value.bool (((((decide (40 < t.states)) || (decide (100 < (t.arcs.length : Int)))) || (!(decide ((x.size : Int) ≤ 20)))) || (!(decide ((y.size : Int) ≤ 20)))) || (!(validT t)))) from by first | (simp only [hg11, hg17, hg22, hg27, Bool.true_or, Bool.false_or, Bool.true_and, Bool.false_and, Bool.or_true, Bool.or_false, Bool.and_true, Bool.and_false]; done) | simp_all), trivial⟩, unw_take 24 rfl rfl⟩
  refine wl_m M (q_guard 19 rfl rfl rfl hg27 (q_ldbA 0 Try.underlying25 rfl sz25 rfl rfl rfl rfl)) rfl rfl ?_
  refine wl_e (e_guard 19 rfl rfl rfl hg27 (e_callC M (valid_c t M.imm ⟨_, _, rfl, Rf1, Ra1⟩) Try.func11 rfl rfl)) rfl rfl ?_
  rintro _ w4 ⟨J29, hJ29, rfl, M⟩
  replace M := M.less hJ29 (fun _ _ => rfl)
  refine wl_m M (q_guard 19 rfl rfl rfl hg27 (q_not rfl)) rfl rfl ?_
  refine wl_m M (q_pickF rfl hg27 rfl) rfl rfl ?_
  refine wl_nil ?_
  exact ⟨(), M, ⟨(show some (Value.bool (!(validT t))) = some (Value.bool (((((decide (40 < t.states)) || (decide (100 < (t.arcs.length : Int)))) || (!(decide ((x.size : Int) ≤ 20)))) || (!(decide ((y.size : Int) ≤ 20)))) || (!(validT t)))) from by first | (simp only [hg11, hg17, hg22, hg27, Bool.true_or, Bool.false_or, Bool.true_and, Bool.false_and, Bool.or_true, Bool.or_false, Bool.and_true, Bool.and_false]; done) | simp_all), trivial⟩, unw_take 24 rfl rfl⟩
 rintro _ jr1 w5 M
 refine wc_cond rfl (fun ht31 => ?_) (fun ht31 => ?_)
 ·refine wc_seq ?_
  refine wc_region ?_
  refine wl_e (e_callC M (awake3_c M.imm) Try.func12 rfl rfl) rfl rfl ?_
  rintro _ w6 ⟨J32, hJ32, rfl, M⟩
  replace M := M.less hJ32 (fun _ _ => rfl)
  refine wl_as M rfl rfl ?_
  refine wl_nil ?_
  refine wc_ret ?_
  exact out1 rfl rfl ⟨_, _, rfl, M.grow, rfl⟩
 simp only [Bool.or_eq_false_iff, Bool.not_eq_false', decide_eq_false_iff_not, decide_eq_true_eq] at ht31
 obtain ⟨⟨⟨⟨h1, h2⟩, h3⟩, h4⟩, hv⟩ := ht31
 have hk := keeps_law hv
 refine wc_skip ?_
 refine wc_seq ?_
 refine wc_region ?_
 refine wl_m M (q_ldbA 0 Try.underlying25 rfl sz25 rfl rfl rfl rfl) rfl rfl ?_
 refine wl_e (e_callC M (trimP_c t M.imm ⟨_, _, rfl, Rf1, Ra1⟩) Try.func19 rfl rfl) rfl rfl ?_
 rintro _ w7 ⟨J34, hJ34, ⟨fu34, au34, rfl, Rf34, Ra34⟩, M⟩
 have hoJ34 := M.old
 refine wl_e (e_alloc M z25) rfl rfl ?_
 rintro _ w8 ⟨b7, rfl, M⟩
 refine wl_e0 (e_stW 0 M rfl rfl rfl sz25 rfl rfl) rfl ?_
 intro _ w9 M
 try simp only [sC0, sCS] at M
 refine wl_nil ?_
 refine wc_seq ?_
 refine wc_join (α := Heap) [6, 35, 36, 37, 38, 39, 40, 41, 42, 43, 44, 45, 46, 47, 48, 49, 50, 51, 52, 53, 54, 55, 56, 57, 58, 59, 60, 61, 62, 63, 64, 65, 66, 67, 68, 69, 70] (fun ((I6) : Heap) => [(6, .bool true)]) (fun ((I6) : Heap) w' => hle J34 I6 ∧ Mem w I I6 (box b7 25 [.int .i64 ((TrimP t).states), .int .i64 ((TrimP t).start), sv fu34, sv au34] :: box b3 25 [.int .i64 t.states, .int .i64 t.start, sv fu1, sv au1] :: []) w') ?_ ?_
 ·refine wc_draws (fun w' => Mem w I J34 (box b7 25 [.int .i64 ((TrimP t).states), .int .i64 ((TrimP t).start), sv fu34, sv au34] :: box b3 25 [.int .i64 t.states, .int .i64 t.start, sv fu1, sv au1] :: []) w' ∧ True) [] fol ?_
  replace M := M.drew
  have hS := (⟨M, trivial⟩ : _ ∧ _)
  refine wa_e 0 rfl (by kernel_rfl) (e_callC M (awake3_c M.imm) Try.func12 rfl rfl) rfl rfl ?_
  rintro _ w10 ⟨J35, hJ35, rfl, M⟩
  have hS := (⟨(M.less hJ35 hoJ34), trivial⟩ : _ ∧ _)
  refine ⟨fun _ => hS, ?_⟩
  replace M := M.less hJ35 hoJ34
  refine wa_q 1 rfl (by kernel_rfl) (q_move rfl) hS rfl rfl ?_
  refine wa_q 2 rfl (by kernel_rfl) ((q_guard 1 rfl rfl rfl rfl (q_ldbA 0 Try.underlying25 rfl sz25 rfl rfl rfl rfl)).mono fun _ h => h.1) hS rfl rfl ?_
  refine wa_e 3 rfl (by kernel_rfl) (e_guard 1 rfl rfl rfl rfl (e_callC M (bool_to hk.1 (valid_c (TrimP t) M.imm ⟨_, _, rfl, Rf34, Ra34⟩)) Try.func11 rfl rfl)) rfl rfl ?_
  rintro _ w11 ⟨J38, hJ38, rfl, M⟩
  have hS := (⟨(M.less hJ38 hoJ34), trivial⟩ : _ ∧ _)
  refine ⟨fun _ => hS, ?_⟩
  replace M := M.less hJ38 hoJ34
  refine wa_q 4 rfl (by kernel_rfl) (q_pickT rfl rfl rfl) hS rfl rfl ?_
  refine wa_q 5 rfl (by kernel_rfl) (q_move rfl) hS rfl rfl ?_
  refine wa_q 6 rfl (by kernel_rfl) (q_guard 5 rfl rfl rfl rfl (q_fa fo_25_0 rfl)) hS rfl rfl ?_
  refine wa_q 7 rfl (by kernel_rfl) ((q_guard 5 rfl rfl rfl rfl (q_ldb 0 Try.underlying3 rfl rfl rfl rfl)).mono fun _ h => h.1) hS rfl rfl ?_
  refine wa_q 8 rfl (by kernel_rfl) (q_guard 5 rfl rfl rfl rfl (q_fa fo_25_0 rfl)) hS rfl rfl ?_
  refine wa_q 9 rfl (by kernel_rfl) ((q_guard 5 rfl rfl rfl rfl (q_ldb 1 Try.underlying3 rfl rfl rfl rfl)).mono fun _ h => h.1) hS rfl rfl ?_
  refine wa_q 10 rfl (by kernel_rfl) (q_guard 5 rfl rfl rfl rfl (q_to (congrArg Value.bool (decide_eq_true hk.2.1)) (q_leq rfl rfl))) hS rfl rfl ?_
  refine wa_q 11 rfl (by kernel_rfl) (q_pickT rfl rfl rfl) hS rfl rfl ?_
  refine wa_q 12 rfl (by kernel_rfl) (q_move rfl) hS rfl rfl ?_
  refine wa_q 13 rfl (by kernel_rfl) ((q_guard 12 rfl rfl rfl rfl (q_ldbA 0 Try.underlying25 rfl sz25 rfl rfl rfl rfl)).mono fun _ h => h.1) hS rfl rfl ?_
  refine wa_q 14 rfl (by kernel_rfl) (q_guard 12 rfl rfl rfl rfl (q_move rfl)) hS rfl rfl ?_
  refine wa_q 15 rfl (by kernel_rfl) (q_guard 12 rfl rfl rfl rfl (q_move rfl)) hS rfl rfl ?_
  refine wa_q 17 rfl (by kernel_rfl) ((q_guard 12 rfl rfl rfl rfl (q_ldbA 1 Try.underlying25 rfl sz25 rfl rfl rfl rfl)).mono fun _ h => h.1) hS rfl rfl ?_
  refine wa_q 18 rfl (by kernel_rfl) (q_guard 12 rfl rfl rfl rfl (q_move rfl)) hS rfl rfl ?_
  refine wa_q 19 rfl (by kernel_rfl) (q_guard 12 rfl rfl rfl rfl (q_move rfl)) hS rfl rfl ?_
  refine wa_e 16 rfl (by kernel_rfl) (e_guard 12 rfl rfl rfl rfl (e_callC M (bool_to (hk.2.2.1 x y) (relates_c (TrimP t) x y (by omega) (by omega) (Nat.le_trans (Nat.mul_le_mul (show x.size + 1 ≤ 21 by omega) (show y.size + 1 ≤ 21 by omega)) (by decide)) M.imm ⟨_, _, rfl, Rf34, Ra34⟩)) Try.func15 rfl rfl)) rfl rfl ?_
  rintro _ w12 ⟨J51, hJ51, rfl, M⟩
  have hS := (⟨(M.less hJ51 hoJ34), trivial⟩ : _ ∧ _)
  refine ⟨fun _ => hS, ?_⟩
  replace M := M.less hJ51 hoJ34
  refine wa_e 20 rfl (by kernel_rfl) (e_guard 12 rfl rfl rfl rfl (e_callC M (relates_c t x y (by omega) (by omega) (Nat.le_trans (Nat.mul_le_mul (show x.size + 1 ≤ 21 by omega) (show y.size + 1 ≤ 21 by omega)) (by decide)) M.imm ⟨_, _, rfl, (Rf1.mono hJ34), (Ra1.mono hJ34)⟩) Try.func15 rfl rfl)) rfl rfl ?_
  rintro _ w13 ⟨J55, hJ55, rfl, M⟩
  have hS := (⟨(M.less hJ55 hoJ34), trivial⟩ : _ ∧ _)
  refine ⟨fun _ => hS, ?_⟩
  replace M := M.less hJ55 hoJ34
  refine wa_q 21 rfl (by kernel_rfl) (q_guard 12 rfl rfl rfl rfl (q_to (congrArg Value.bool (beq_self_eq_true _)) (q_eqlB Try.underlying4 rfl rfl))) hS rfl rfl ?_
  refine wa_q 22 rfl (by kernel_rfl) (q_pickT rfl rfl rfl) hS rfl rfl ?_
  refine wa_q 23 rfl (by kernel_rfl) (q_move rfl) hS rfl rfl ?_
  refine wa_q 24 rfl (by kernel_rfl) ((q_guard 23 rfl rfl rfl rfl (q_ldbA 0 Try.underlying25 rfl sz25 rfl rfl rfl rfl)).mono fun _ h => h.1) hS rfl rfl ?_
  refine wa_q 26 rfl (by kernel_rfl) ((q_guard 23 rfl rfl rfl rfl (q_ldbA 1 Try.underlying25 rfl sz25 rfl rfl rfl rfl)).mono fun _ h => h.1) hS rfl rfl ?_
  refine wa_e 25 rfl (by kernel_rfl) (e_guard 23 rfl rfl rfl rfl (e_callC M (bool_to hk.2.2.2.1 (emptyT_c (TrimP t) M.imm ⟨_, _, rfl, Rf34, Ra34⟩)) Try.func17 rfl rfl)) rfl rfl ?_
  rintro _ w14 ⟨J60, hJ60, rfl, M⟩
  have hS := (⟨(M.less hJ60 hoJ34), trivial⟩ : _ ∧ _)
  refine ⟨fun _ => hS, ?_⟩
  replace M := M.less hJ60 hoJ34
  refine wa_e 27 rfl (by kernel_rfl) (e_guard 23 rfl rfl rfl rfl (e_callC M (emptyT_c t M.imm ⟨_, _, rfl, (Rf1.mono hJ34), (Ra1.mono hJ34)⟩) Try.func17 rfl rfl)) rfl rfl ?_
  rintro _ w15 ⟨J62, hJ62, rfl, M⟩
  have hS := (⟨(M.less hJ62 hoJ34), trivial⟩ : _ ∧ _)
  refine ⟨fun _ => hS, ?_⟩
  replace M := M.less hJ62 hoJ34
  refine wa_q 28 rfl (by kernel_rfl) (q_guard 23 rfl rfl rfl rfl (q_to (congrArg Value.bool (beq_self_eq_true _)) (q_eqlB Try.underlying4 rfl rfl))) hS rfl rfl ?_
  refine wa_q 29 rfl (by kernel_rfl) (q_pickT rfl rfl rfl) hS rfl rfl ?_
  refine wa_q 30 rfl (by kernel_rfl) (q_move rfl) hS rfl rfl ?_
  refine wa_q 31 rfl (by kernel_rfl) ((q_guard 30 rfl rfl rfl rfl (q_ldbA 0 Try.underlying25 rfl sz25 rfl rfl rfl rfl)).mono fun _ h => h.1) hS rfl rfl ?_
  refine wa_q 33 rfl (by kernel_rfl) ((q_guard 30 rfl rfl rfl rfl (q_ldbA 0 Try.underlying25 rfl sz25 rfl rfl rfl rfl)).mono fun _ h => h.1) hS rfl rfl ?_
  refine wa_e 32 rfl (by kernel_rfl) (e_guard 30 rfl rfl rfl rfl (e_callC M (trimP_c (TrimP t) M.imm ⟨_, _, rfl, Rf34, Ra34⟩) Try.func19 rfl rfl)) rfl rfl ?_
  rintro _ w16 ⟨J67, hJ67, Rt67, M⟩
  rw [hk.2.2.2.2] at Rt67
  obtain ⟨fu67, au67, rfl, Rf67, Ra67⟩ := Rt67
  have hoJ67 := M.old
  have hS := (⟨(M.less hJ67 hoJ34), trivial⟩ : _ ∧ _)
  refine ⟨fun _ => hS, ?_⟩
  refine wa_e 34 rfl (by kernel_rfl) (e_guard 30 rfl rfl rfl rfl (e_callC M (bool_to (decide_eq_true rfl) (same_c (TrimP t) (TrimP t) M.imm ⟨_, _, rfl, Rf67, Ra67⟩ ⟨_, _, rfl, (Rf34.mono hJ67), (Ra34.mono hJ67)⟩)) Try.func18 rfl rfl)) rfl rfl ?_
  rintro _ w17 ⟨J69, hJ69, rfl, M⟩
  have hS := (⟨(M.less (hle.trans hJ67 hJ69) hoJ34), trivial⟩ : _ ∧ _)
  refine ⟨fun _ => hS, ?_⟩
  replace M := M.less hJ69 hoJ67
  refine wa_q 35 rfl (by kernel_rfl) (q_pickT rfl rfl rfl) hS rfl rfl ?_
  refine wa_q 36 rfl (by kernel_rfl) (q_assign rfl) hS rfl rfl ?_
  refine wa_done (by kernel_rfl) ?_
  exact ⟨(J67), ⟨hJ67, M⟩, ⟨rfl, trivial⟩, unw_take 37 rfl rfl⟩
 rintro I6 jr4 w18 ⟨hI6, M⟩
 have hoI6 := M.old
 refine wc_ret ?_
 exact out1 rfl rfl ⟨_, _, rfl, M.grow, rfl⟩
end Go.Proofs.Ytfepjcmjkaolgaa.G
