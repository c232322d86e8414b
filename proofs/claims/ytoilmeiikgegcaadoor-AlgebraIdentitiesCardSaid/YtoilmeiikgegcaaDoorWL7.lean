/- Walks of the program's functions. -/
import Derived.Test.YtoilmeiikgegcaaDoorWLb
import Derived.Test.YtoilmeiikgegcaaDoorWSc
import Derived.Test.YtoilmeiikgegcaaDoorWTc
import Derived.Test.YtoilmeiikgegcaaDoorGIdm
set_option linter.all false
namespace Go.Proofs.YtoilmeiikgegcaaDoor.G
open Go Go.RowKit
theorem lawIdentities_c (a b : Tra) {v1 v2 : Value} {I : Heap} {w : World} (hI : hle I (hp w)) (hT : Tabs I) (R1 : a.rd I v1) (R2 : b.rd I v2) : Calls A 13 #[v1, v2] w (Ret w I fun r _ => r = .bool true) := by
 obtain ⟨fu1, au1, rfl, Rf1, Ra1⟩ := R1
 obtain ⟨fu2, au2, rfl, Rf2, Ra2⟩ := R2
 have M := Mem.start hI
 refine enter Tryd.func13 rfl 178 Tryd.ntmps13 [_, _] rfl ?_
 refine wc_seq ?_
 refine wc_region ?_
 refine wl_e (e_box M rfl) rfl rfl ?_
 rintro _ w1 ⟨b2, rfl, M⟩
 refine wl_e (e_box M rfl) rfl rfl ?_
 rintro _ w2 ⟨b3, rfl, M⟩
 refine wl_as M rfl rfl ?_
 refine wl_nil ?_
 refine wc_seq ?_
 refine wc_seq ?_
 refine wc_region ?_
 refine wl_e (e_callC M (awake4_c M.imm hT) Tryd.func14 rfl rfl) rfl rfl ?_
 rintro _ w3 ⟨J25, hJ25, rfl, M⟩
 replace M := M.less hJ25 (fun _ _ => rfl)
 refine wl_m M (q_not rfl) rfl rfl ?_
 refine wl_nil ?_
 refine wc_cond rfl (fun ht26 => ?_) (fun ht26 => ?_)
 ·refine wc_seq ?_
  refine wc_region ?_
  refine wl_as M rfl rfl ?_
  refine wl_nil ?_
  refine wc_ret ?_
  exact absurd ht26 (by decide)
 refine wc_skip ?_
 refine wc_seq ?_
 refine wc_seq ?_
 refine wc_join (α := Unit) [27, 28, 29, 30, 31, 32, 33, 34, 35, 36, 37, 38, 39, 40, 41, 42, 43, 44, 45, 46, 47, 48, 49, 50, 51, 52, 53, 54, 55, 56] (fun _ => [(56, .bool ((((((decide (40 < (a.arcs.length : Int))) || (decide (40 < (b.arcs.length : Int)))) || (decide (40 < a.states))) || (decide (40 < b.states))) || (!(validT a))) || (!(validT b))))]) (fun _ w' => Mem w I I (box b3 29 [.int .i64 b.states, .int .i64 b.start, sv fu2, sv au2] :: box b2 29 [.int .i64 a.states, .int .i64 a.start, sv fu1, sv au1] :: []) w') ?_ ?_
 ·refine wc_region ?_
  refine wl_m M (q_fa fo_29_3 rfl) rfl rfl ?_
  refine wl_m M (q_ldb 1 Tryd.underlying27 rfl rfl rfl rfl) rfl rfl ?_
  refine wl_m M (q_lenR Ra1 Tryd.underlying27 rfl) rfl rfl ?_
  refine wl_m M (q_gtr rfl rfl) rfl rfl ?_
  refine wl_mv M rfl rfl ?_
  rcases Bool.eq_false_or_eq_true (decide (40 < (a.arcs.length : Int))) with hg31 | hg31
  ·refine wl_m M (q_off 4 rfl rfl rfl hg31) rfl rfl ?_
   refine wl_m M (q_off 4 rfl rfl rfl hg31) rfl rfl ?_
   refine wl_m M (q_off 4 rfl rfl rfl hg31) rfl rfl ?_
   refine wl_m M (q_off 4 rfl rfl rfl hg31) rfl rfl ?_
   refine wl_m M (q_pickT rfl hg31 rfl) rfl rfl ?_
   refine wl_mv M rfl rfl ?_
   refine wl_m M (q_off 10 rfl rfl rfl rfl) rfl rfl ?_
   refine wl_m M (q_off 10 rfl rfl rfl rfl) rfl rfl ?_
   refine wl_m M (q_off 10 rfl rfl rfl rfl) rfl rfl ?_
   refine wl_m M (q_pickT rfl rfl rfl) rfl rfl ?_
   refine wl_mv M rfl rfl ?_
   refine wl_m M (q_off 15 rfl rfl rfl rfl) rfl rfl ?_
   refine wl_m M (q_off 15 rfl rfl rfl rfl) rfl rfl ?_
   refine wl_m M (q_off 15 rfl rfl rfl rfl) rfl rfl ?_
   refine wl_m M (q_pickT rfl rfl rfl) rfl rfl ?_
   refine wl_mv M rfl rfl ?_
   refine wl_m M (q_off 20 rfl rfl rfl rfl) rfl rfl ?_
   refine wl_m M (q_off 20 rfl rfl rfl rfl) rfl rfl ?_
   refine wl_m M (q_off 20 rfl rfl rfl rfl) rfl rfl ?_
   refine wl_m M (q_pickT rfl rfl rfl) rfl rfl ?_
   refine wl_mv M rfl rfl ?_
   refine wl_m M (q_off 25 rfl rfl rfl rfl) rfl rfl ?_
   refine wl_m M (q_off 25 rfl rfl rfl rfl) rfl rfl ?_
   refine wl_m M (q_off 25 rfl rfl rfl rfl) rfl rfl ?_
   refine wl_m M (q_pickT rfl rfl rfl) rfl rfl ?_
   refine wl_nil ?_
   exact ⟨(), M, ⟨(show some (Value.bool true) = some (Value.bool ((((((decide (40 < (a.arcs.length : Int))) || (decide (40 < (b.arcs.length : Int)))) || (decide (40 < a.states))) || (decide (40 < b.states))) || (!(validT a))) || (!(validT b)))) from by first | (simp only [hg31, Bool.true_or, Bool.false_or, Bool.true_and, Bool.false_and, Bool.or_true, Bool.or_false, Bool.and_true, Bool.and_false]; done) | simp_all), trivial⟩, unw_take 30 rfl rfl⟩
  refine wl_m M (q_guard 4 rfl rfl rfl hg31 (q_fa fo_29_3 rfl)) rfl rfl ?_
  refine wl_m M (q_guard 4 rfl rfl rfl hg31 (q_ldb 0 Tryd.underlying27 rfl rfl rfl rfl)) rfl rfl ?_
  refine wl_m M (q_guard 4 rfl rfl rfl hg31 (q_lenR Ra2 Tryd.underlying27 rfl)) rfl rfl ?_
  refine wl_m M (q_guard 4 rfl rfl rfl hg31 (q_gtr rfl rfl)) rfl rfl ?_
  refine wl_m M (q_pickF rfl hg31 rfl) rfl rfl ?_
  refine wl_mv M rfl rfl ?_
  rcases Bool.eq_false_or_eq_true (decide (40 < (b.arcs.length : Int))) with hg37 | hg37
  ·refine wl_m M (q_off 10 rfl rfl rfl hg37) rfl rfl ?_
   refine wl_m M (q_off 10 rfl rfl rfl hg37) rfl rfl ?_
   refine wl_m M (q_off 10 rfl rfl rfl hg37) rfl rfl ?_
   refine wl_m M (q_pickT rfl hg37 rfl) rfl rfl ?_
   refine wl_mv M rfl rfl ?_
   refine wl_m M (q_off 15 rfl rfl rfl rfl) rfl rfl ?_
   refine wl_m M (q_off 15 rfl rfl rfl rfl) rfl rfl ?_
   refine wl_m M (q_off 15 rfl rfl rfl rfl) rfl rfl ?_
   refine wl_m M (q_pickT rfl rfl rfl) rfl rfl ?_
   refine wl_mv M rfl rfl ?_
   refine wl_m M (q_off 20 rfl rfl rfl rfl) rfl rfl ?_
   refine wl_m M (q_off 20 rfl rfl rfl rfl) rfl rfl ?_
   refine wl_m M (q_off 20 rfl rfl rfl rfl) rfl rfl ?_
   refine wl_m M (q_pickT rfl rfl rfl) rfl rfl ?_
   refine wl_mv M rfl rfl ?_
   refine wl_m M (q_off 25 rfl rfl rfl rfl) rfl rfl ?_
   refine wl_m M (q_off 25 rfl rfl rfl rfl) rfl rfl ?_
   refine wl_m M (q_off 25 rfl rfl rfl rfl) rfl rfl ?_
   refine wl_m M (q_pickT rfl rfl rfl) rfl rfl ?_
   refine wl_nil ?_
   exact ⟨(), M, ⟨(show some (Value.bool true) = some (Value.bool ((((((decide (40 < (a.arcs.length : Int))) || (decide (40 < (b.arcs.length : Int)))) || (decide (40 < a.states))) || (decide (40 < b.states))) || (!(validT a))) || (!(validT b)))) from by first | (simp only [hg31, hg37, Bool.true_or, Bool.false_or, Bool.true_and, Bool.false_and, Bool.or_true, Bool.or_false, Bool.and_true, Bool.and_false]; done) | simp_all), trivial⟩, unw_take 30 rfl rfl⟩
  refine wl_m M (q_guard 10 rfl rfl rfl hg37 (q_fa fo_29_0 rfl)) rfl rfl ?_
  refine wl_m M (q_guard 10 rfl rfl rfl hg37 (q_ldb 1 Tryd.underlying3 rfl rfl rfl rfl)) rfl rfl ?_
  refine wl_m M (q_guard 10 rfl rfl rfl hg37 (q_gtr rfl rfl)) rfl rfl ?_
  refine wl_m M (q_pickF rfl hg37 rfl) rfl rfl ?_
  refine wl_mv M rfl rfl ?_
  rcases Bool.eq_false_or_eq_true (decide (40 < a.states)) with hg42 | hg42
  ·refine wl_m M (q_off 15 rfl rfl rfl hg42) rfl rfl ?_
   refine wl_m M (q_off 15 rfl rfl rfl hg42) rfl rfl ?_
   refine wl_m M (q_off 15 rfl rfl rfl hg42) rfl rfl ?_
   refine wl_m M (q_pickT rfl hg42 rfl) rfl rfl ?_
   refine wl_mv M rfl rfl ?_
   refine wl_m M (q_off 20 rfl rfl rfl rfl) rfl rfl ?_
   refine wl_m M (q_off 20 rfl rfl rfl rfl) rfl rfl ?_
   refine wl_m M (q_off 20 rfl rfl rfl rfl) rfl rfl ?_
   refine wl_m M (q_pickT rfl rfl rfl) rfl rfl ?_
   refine wl_mv M rfl rfl ?_
   refine wl_m M (q_off 25 rfl rfl rfl rfl) rfl rfl ?_
   refine wl_m M (q_off 25 rfl rfl rfl rfl) rfl rfl ?_
   refine wl_m M (q_off 25 rfl rfl rfl rfl) rfl rfl ?_
   refine wl_m M (q_pickT rfl rfl rfl) rfl rfl ?_
   refine wl_nil ?_
   exact ⟨(), M, ⟨(show some (Value.bool true) = some (Value.bool ((((((decide (40 < (a.arcs.length : Int))) || (decide (40 < (b.arcs.length : Int)))) || (decide (40 < a.states))) || (decide (40 < b.states))) || (!(validT a))) || (!(validT b)))) from by first | (simp only [hg31, hg37, hg42, Bool.true_or, Bool.false_or, Bool.true_and, Bool.false_and, Bool.or_true, Bool.or_false, Bool.and_true, Bool.and_false]; done) | simp_all), trivial⟩, unw_take 30 rfl rfl⟩
  refine wl_m M (q_guard 15 rfl rfl rfl hg42 (q_fa fo_29_0 rfl)) rfl rfl ?_
  refine wl_m M (q_guard 15 rfl rfl rfl hg42 (q_ldb 0 Tryd.underlying3 rfl rfl rfl rfl)) rfl rfl ?_
  refine wl_m M (q_guard 15 rfl rfl rfl hg42 (q_gtr rfl rfl)) rfl rfl ?_
  refine wl_m M (q_pickF rfl hg42 rfl) rfl rfl ?_
  refine wl_mv M rfl rfl ?_
  rcases Bool.eq_false_or_eq_true (decide (40 < b.states)) with hg47 | hg47
  ·refine wl_m M (q_off 20 rfl rfl rfl hg47) rfl rfl ?_
   refine wl_m M (q_off 20 rfl rfl rfl hg47) rfl rfl ?_
   refine wl_m M (q_off 20 rfl rfl rfl hg47) rfl rfl ?_
   refine wl_m M (q_pickT rfl hg47 rfl) rfl rfl ?_
   refine wl_mv M rfl rfl ?_
   refine wl_m M (q_off 25 rfl rfl rfl rfl) rfl rfl ?_
   refine wl_m M (q_off 25 rfl rfl rfl rfl) rfl rfl ?_
   refine wl_m M (q_off 25 rfl rfl rfl rfl) rfl rfl ?_
   refine wl_m M (q_pickT rfl rfl rfl) rfl rfl ?_
   refine wl_nil ?_
   exact ⟨(), M, ⟨(show some (Value.bool true) = some (Value.bool ((((((decide (40 < (a.arcs.length : Int))) || (decide (40 < (b.arcs.length : Int)))) || (decide (40 < a.states))) || (decide (40 < b.states))) || (!(validT a))) || (!(validT b)))) from by first | (simp only [hg31, hg37, hg42, hg47, Bool.true_or, Bool.false_or, Bool.true_and, Bool.false_and, Bool.or_true, Bool.or_false, Bool.and_true, Bool.and_false]; done) | simp_all), trivial⟩, unw_take 30 rfl rfl⟩
  refine wl_m M (q_guard 20 rfl rfl rfl hg47 (q_ldbA 1 Tryd.underlying29 rfl sz29 rfl rfl rfl rfl)) rfl rfl ?_
  refine wl_e (e_guard 20 rfl rfl rfl hg47 (e_callC M (valid_c a M.imm ⟨_, _, rfl, Rf1, Ra1⟩) Tryd.func39 rfl rfl)) rfl rfl ?_
  rintro _ w4 ⟨J49, hJ49, rfl, M⟩
  replace M := M.less hJ49 (fun _ _ => rfl)
  refine wl_m M (q_guard 20 rfl rfl rfl hg47 (q_not rfl)) rfl rfl ?_
  refine wl_m M (q_pickF rfl hg47 rfl) rfl rfl ?_
  refine wl_mv M rfl rfl ?_
  rcases Bool.eq_false_or_eq_true (!(validT a)) with hg52 | hg52
  ·refine wl_m M (q_off 25 rfl rfl rfl hg52) rfl rfl ?_
   refine wl_m M (q_off 25 rfl rfl rfl hg52) rfl rfl ?_
   refine wl_m M (q_off 25 rfl rfl rfl hg52) rfl rfl ?_
   refine wl_m M (q_pickT rfl hg52 rfl) rfl rfl ?_
   refine wl_nil ?_
   exact ⟨(), M, ⟨(show some (Value.bool true) = some (Value.bool ((((((decide (40 < (a.arcs.length : Int))) || (decide (40 < (b.arcs.length : Int)))) || (decide (40 < a.states))) || (decide (40 < b.states))) || (!(validT a))) || (!(validT b)))) from by first | (simp only [hg31, hg37, hg42, hg47, hg52, Bool.true_or, Bool.false_or, Bool.true_and, Bool.false_and, Bool.or_true, Bool.or_false, Bool.and_true, Bool.and_false]; done) | simp_all), trivial⟩, unw_take 30 rfl rfl⟩
  refine wl_m M (q_guard 25 rfl rfl rfl hg52 (q_ldbA 0 Tryd.underlying29 rfl sz29 rfl rfl rfl rfl)) rfl rfl ?_
  refine wl_e (e_guard 25 rfl rfl rfl hg52 (e_callC M (valid_c b M.imm ⟨_, _, rfl, Rf2, Ra2⟩) Tryd.func39 rfl rfl)) rfl rfl ?_
  rintro _ w5 ⟨J54, hJ54, rfl, M⟩
  replace M := M.less hJ54 (fun _ _ => rfl)
  refine wl_m M (q_guard 25 rfl rfl rfl hg52 (q_not rfl)) rfl rfl ?_
  refine wl_m M (q_pickF rfl hg52 rfl) rfl rfl ?_
  refine wl_nil ?_
  exact ⟨(), M, ⟨(show some (Value.bool (!(validT b))) = some (Value.bool ((((((decide (40 < (a.arcs.length : Int))) || (decide (40 < (b.arcs.length : Int)))) || (decide (40 < a.states))) || (decide (40 < b.states))) || (!(validT a))) || (!(validT b)))) from by first | (simp only [hg31, hg37, hg42, hg47, hg52, Bool.true_or, Bool.false_or, Bool.true_and, Bool.false_and, Bool.or_true, Bool.or_false, Bool.and_true, Bool.and_false]; done) | simp_all), trivial⟩, unw_take 30 rfl rfl⟩
 rintro _ jr3 w6 M
 refine wc_cond rfl (fun ht56 => ?_) (fun ht56 => ?_)
 ·refine wc_seq ?_
  refine wc_region ?_
  refine wl_as M rfl rfl ?_
  refine wl_nil ?_
  refine wc_ret ?_
  exact out1 rfl rfl ⟨_, _, rfl, M.grow, rfl⟩
 simp at ht56
 obtain ⟨⟨⟨⟨⟨hI1, hI2⟩, hI3⟩, hI4⟩, hva⟩, hvb⟩ := ht56
 refine wc_skip ?_
 refine wc_seq ?_
 refine wc_region ?_
 refine wl_m M (q_ldbA 1 Tryd.underlying29 rfl sz29 rfl rfl rfl rfl) rfl rfl ?_
 refine wl_e (e_callC M (invert_c a M.imm ⟨_, _, rfl, Rf1, Ra1⟩) Tryd.func25 rfl rfl) rfl rfl ?_
 rintro _ w7 ⟨J59, hJ59, ⟨_, t59, e59, rfl, ⟨fu59, au59, rfl, Rf59, Ra59⟩, hc59⟩, M⟩
 have hoJ59 := M.old
 refine wl_mv M rfl rfl ?_
 refine wl_m M (q_ext rfl rfl) rfl rfl ?_
 refine wl_m M (q_ext rfl rfl) rfl rfl ?_
 refine wl_e (e_alloc M z29) rfl rfl ?_
 rintro _ w8 ⟨b5, rfl, M⟩
 refine wl_e0 (e_stW 0 M rfl rfl rfl sz29 rfl rfl) rfl ?_
 intro _ w9 M
 simp only [sC0, sCS] at M
 refine wl_as M rfl rfl ?_
 refine wl_nil ?_
 refine wc_seq ?_
 refine wc_region ?_
 refine wl_m M (q_ldbA 1 Tryd.underlying29 rfl sz29 rfl rfl rfl rfl) rfl rfl ?_
 refine wl_e (e_callC M (invert_c b M.imm ⟨_, _, rfl, (Rf2.mono hJ59), (Ra2.mono hJ59)⟩) Tryd.func25 rfl rfl) rfl rfl ?_
 rintro _ w10 ⟨J64, hJ64, ⟨_, t64, e64, rfl, ⟨fu64, au64, rfl, Rf64, Ra64⟩, hc64⟩, M⟩
 have hoJ64 := M.old
 refine wl_mv M rfl rfl ?_
 refine wl_m M (q_ext rfl rfl) rfl rfl ?_
 refine wl_m M (q_ext rfl rfl) rfl rfl ?_
 refine wl_e (e_alloc M z29) rfl rfl ?_
 rintro _ w11 ⟨b7, rfl, M⟩
 refine wl_e0 (e_stW 0 M rfl rfl rfl sz29 rfl rfl) rfl ?_
 intro _ w12 M
 simp only [sC0, sCS] at M
 refine wl_as M rfl rfl ?_
 refine wl_nil ?_
 refine wc_seq ?_
 refine wc_region ?_
 refine wl_m M (q_ldbA 1 Tryd.underlying29 rfl sz29 rfl rfl rfl rfl) rfl rfl ?_
 refine wl_e (e_callC M (invert_c t59 M.imm ⟨_, _, rfl, (Rf59.mono hJ64), (Ra59.mono hJ64)⟩) Tryd.func25 rfl rfl) rfl rfl ?_
 rintro _ w13 ⟨J69, hJ69, ⟨_, t69, e69, rfl, ⟨fu69, au69, rfl, Rf69, Ra69⟩, hc69⟩, M⟩
 have hoJ69 := M.old
 refine wl_mv M rfl rfl ?_
 refine wl_m M (q_ext rfl rfl) rfl rfl ?_
 refine wl_m M (q_ext rfl rfl) rfl rfl ?_
 refine wl_e (e_alloc M z29) rfl rfl ?_
 rintro _ w14 ⟨b9, rfl, M⟩
 refine wl_e0 (e_stW 0 M rfl rfl rfl sz29 rfl rfl) rfl ?_
 intro _ w15 M
 simp only [sC0, sCS] at M
 refine wl_as M rfl rfl ?_
 refine wl_nil ?_
 refine wc_seq ?_
 refine wc_seq ?_
 refine wc_join (α := Unit) [72, 73, 74, 75, 76, 77, 78, 79, 80, 81, 82, 83, 84, 85, 86, 87, 88] (fun _ => [(88, .bool ((((!decide (e59 = 0)) || (!decide (e64 = 0))) || (!decide (e69 = 0))) || (!(decide (t69 = (TrimP a))))))]) (fun _ w' => Mem w I J69 (box b9 29 [.int .i64 t69.states, .int .i64 t69.start, sv fu69, sv au69] :: box b7 29 [.int .i64 t64.states, .int .i64 t64.start, sv fu64, sv au64] :: box b5 29 [.int .i64 t59.states, .int .i64 t59.start, sv fu59, sv au59] :: box b3 29 [.int .i64 b.states, .int .i64 b.start, sv fu2, sv au2] :: box b2 29 [.int .i64 a.states, .int .i64 a.start, sv fu1, sv au1] :: []) w') ?_ ?_
 ·refine wc_draws (fun w' => Mem w I J69 (box b9 29 [.int .i64 t69.states, .int .i64 t69.start, sv fu69, sv au69] :: box b7 29 [.int .i64 t64.states, .int .i64 t64.start, sv fu64, sv au64] :: box b5 29 [.int .i64 t59.states, .int .i64 t59.start, sv fu59, sv au59] :: box b3 29 [.int .i64 b.states, .int .i64 b.start, sv fu2, sv au2] :: box b2 29 [.int .i64 a.states, .int .i64 a.start, sv fu1, sv au1] :: []) w' ∧ True) [] fol ?_
  replace M := M.drew
  have hS := (⟨M, trivial⟩ : _ ∧ _)
  refine wa_q 0 rfl (by kernel_rfl) (q_move rfl) hS rfl rfl ?_
  refine wa_q 1 rfl (by kernel_rfl) (q_neq rfl rfl) hS rfl rfl ?_
  refine wa_q 2 rfl (by kernel_rfl) (q_move rfl) hS rfl rfl ?_
  rcases Bool.eq_false_or_eq_true (!decide (e59 = 0)) with hg74 | hg74
  ·refine wa_q 3 rfl (by kernel_rfl) (q_off 2 rfl rfl rfl hg74) hS rfl rfl ?_
   refine wa_q 4 rfl (by kernel_rfl) (q_off 2 rfl rfl rfl hg74) hS rfl rfl ?_
   refine wa_q 5 rfl (by kernel_rfl) (q_pickT rfl hg74 rfl) hS rfl rfl ?_
   refine wa_q 6 rfl (by kernel_rfl) (q_move rfl) hS rfl rfl ?_
   refine wa_q 7 rfl (by kernel_rfl) (q_off 6 rfl rfl rfl rfl) hS rfl rfl ?_
   refine wa_q 8 rfl (by kernel_rfl) (q_off 6 rfl rfl rfl rfl) hS rfl rfl ?_
   refine wa_q 9 rfl (by kernel_rfl) (q_pickT rfl rfl rfl) hS rfl rfl ?_
   refine wa_q 10 rfl (by kernel_rfl) (q_move rfl) hS rfl rfl ?_
   refine wa_q 11 rfl (by kernel_rfl) (q_off 10 rfl rfl rfl rfl) hS rfl rfl ?_
   refine wa_q 12 rfl (by kernel_rfl) (q_off 10 rfl rfl rfl rfl) hS rfl rfl ?_
   refine wa_q 13 rfl (by kernel_rfl) (q_off 10 rfl rfl rfl rfl) hS rfl rfl ?_
   refine wa_q 14 rfl (by kernel_rfl) (q_off 10 rfl rfl rfl rfl) hS rfl rfl ?_
   refine wa_q 15 rfl (by kernel_rfl) (q_off 10 rfl rfl rfl rfl) hS rfl rfl ?_
   refine wa_q 16 rfl (by kernel_rfl) (q_pickT rfl rfl rfl) hS rfl rfl ?_
   refine wa_done (by kernel_rfl) ?_
   exact ⟨(), M, ⟨(show some (Value.bool true) = some (Value.bool ((((!decide (e59 = 0)) || (!decide (e64 = 0))) || (!decide (e69 = 0))) || (!(decide (t69 = (TrimP a)))))) from by first | (simp only [hg74, Bool.true_or, Bool.false_or, Bool.true_and, Bool.false_and, Bool.or_true, Bool.or_false, Bool.and_true, Bool.and_false]; done) | simp_all), trivial⟩, unw_take 17 rfl rfl⟩
  refine wa_q 3 rfl (by kernel_rfl) (q_guard 2 rfl rfl rfl hg74 (q_move rfl)) hS rfl rfl ?_
  refine wa_q 4 rfl (by kernel_rfl) (q_guard 2 rfl rfl rfl hg74 (q_neq rfl rfl)) hS rfl rfl ?_
  refine wa_q 5 rfl (by kernel_rfl) (q_pickF rfl hg74 rfl) hS rfl rfl ?_
  refine wa_q 6 rfl (by kernel_rfl) (q_move rfl) hS rfl rfl ?_
  rcases Bool.eq_false_or_eq_true (!decide (e64 = 0)) with hg78 | hg78
  ·refine wa_q 7 rfl (by kernel_rfl) (q_off 6 rfl rfl rfl hg78) hS rfl rfl ?_
   refine wa_q 8 rfl (by kernel_rfl) (q_off 6 rfl rfl rfl hg78) hS rfl rfl ?_
   refine wa_q 9 rfl (by kernel_rfl) (q_pickT rfl hg78 rfl) hS rfl rfl ?_
   refine wa_q 10 rfl (by kernel_rfl) (q_move rfl) hS rfl rfl ?_
   refine wa_q 11 rfl (by kernel_rfl) (q_off 10 rfl rfl rfl rfl) hS rfl rfl ?_
   refine wa_q 12 rfl (by kernel_rfl) (q_off 10 rfl rfl rfl rfl) hS rfl rfl ?_
   refine wa_q 13 rfl (by kernel_rfl) (q_off 10 rfl rfl rfl rfl) hS rfl rfl ?_
   refine wa_q 14 rfl (by kernel_rfl) (q_off 10 rfl rfl rfl rfl) hS rfl rfl ?_
   refine wa_q 15 rfl (by kernel_rfl) (q_off 10 rfl rfl rfl rfl) hS rfl rfl ?_
   refine wa_q 16 rfl (by kernel_rfl) (q_pickT rfl rfl rfl) hS rfl rfl ?_
   refine wa_done (by kernel_rfl) ?_
   exact ⟨(), M, ⟨(show some (Value.bool true) = some (Value.bool ((((!decide (e59 = 0)) || (!decide (e64 = 0))) || (!decide (e69 = 0))) || (!(decide (t69 = (TrimP a)))))) from by first | (simp only [hg74, hg78, Bool.true_or, Bool.false_or, Bool.true_and, Bool.false_and, Bool.or_true, Bool.or_false, Bool.and_true, Bool.and_false]; done) | simp_all), trivial⟩, unw_take 17 rfl rfl⟩
  refine wa_q 7 rfl (by kernel_rfl) (q_guard 6 rfl rfl rfl hg78 (q_move rfl)) hS rfl rfl ?_
  refine wa_q 8 rfl (by kernel_rfl) (q_guard 6 rfl rfl rfl hg78 (q_neq rfl rfl)) hS rfl rfl ?_
  refine wa_q 9 rfl (by kernel_rfl) (q_pickF rfl hg78 rfl) hS rfl rfl ?_
  refine wa_q 10 rfl (by kernel_rfl) (q_move rfl) hS rfl rfl ?_
  rcases Bool.eq_false_or_eq_true (!decide (e69 = 0)) with hg82 | hg82
  ·refine wa_q 11 rfl (by kernel_rfl) (q_off 10 rfl rfl rfl hg82) hS rfl rfl ?_
   refine wa_q 12 rfl (by kernel_rfl) (q_off 10 rfl rfl rfl hg82) hS rfl rfl ?_
   refine wa_q 13 rfl (by kernel_rfl) (q_off 10 rfl rfl rfl hg82) hS rfl rfl ?_
   refine wa_q 14 rfl (by kernel_rfl) (q_off 10 rfl rfl rfl hg82) hS rfl rfl ?_
   refine wa_q 15 rfl (by kernel_rfl) (q_off 10 rfl rfl rfl hg82) hS rfl rfl ?_
   refine wa_q 16 rfl (by kernel_rfl) (q_pickT rfl hg82 rfl) hS rfl rfl ?_
   refine wa_done (by kernel_rfl) ?_
   exact ⟨(), M, ⟨(show some (Value.bool true) = some (Value.bool ((((!decide (e59 = 0)) || (!decide (e64 = 0))) || (!decide (e69 = 0))) || (!(decide (t69 = (TrimP a)))))) from by first | (simp only [hg74, hg78, hg82, Bool.true_or, Bool.false_or, Bool.true_and, Bool.false_and, Bool.or_true, Bool.or_false, Bool.and_true, Bool.and_false]; done) | simp_all), trivial⟩, unw_take 17 rfl rfl⟩
  refine wa_q 11 rfl (by kernel_rfl) ((q_guard 10 rfl rfl rfl hg82 (q_ldbA 0 Tryd.underlying29 rfl sz29 rfl rfl rfl rfl)).mono fun _ h => h.1) hS rfl rfl ?_
  refine wa_q 12 rfl (by kernel_rfl) ((q_guard 10 rfl rfl rfl hg82 (q_ldbA 4 Tryd.underlying29 rfl sz29 rfl rfl rfl rfl)).mono fun _ h => h.1) hS rfl rfl ?_
  refine wa_e 13 rfl (by kernel_rfl) (e_guard 10 rfl rfl rfl hg82 (e_callC M (trimP_c a M.imm ⟨_, _, rfl, (((Rf1.mono hJ59).mono hJ64).mono hJ69), (((Ra1.mono hJ59).mono hJ64).mono hJ69)⟩) Tryd.func41 rfl rfl)) rfl rfl ?_
  rintro _ w16 ⟨J85, hJ85, ⟨fu85, au85, rfl, Rf85, Ra85⟩, M⟩
  have hoJ85 := M.old
  have hS := (⟨(M.less hJ85 hoJ69), trivial⟩ : _ ∧ _)
  refine ⟨fun _ => hS, ?_⟩
  refine wa_e 14 rfl (by kernel_rfl) (e_guard 10 rfl rfl rfl hg82 (e_callC M (sameO_c t69 (TrimP a) M.imm ⟨_, _, rfl, (Rf69.mono hJ85), (Ra69.mono hJ85)⟩ ⟨_, _, rfl, Rf85, Ra85⟩) Tryd.func40 rfl rfl)) rfl rfl ?_
  rintro _ w17 ⟨J86, hJ86, rfl, M⟩
  have hS := (⟨(M.less (hle.trans hJ85 hJ86) hoJ69), trivial⟩ : _ ∧ _)
  refine ⟨fun _ => hS, ?_⟩
  replace M := M.less hJ86 hoJ85
  refine wa_q 15 rfl (by kernel_rfl) (q_guard 10 rfl rfl rfl hg82 (q_not rfl)) hS rfl rfl ?_
  refine wa_q 16 rfl (by kernel_rfl) (q_pickF rfl hg82 rfl) hS rfl rfl ?_
  refine wa_done (by kernel_rfl) ?_
  replace M := M.less hJ85 hoJ69
  exact ⟨(), M, ⟨(show some (Value.bool (!(decide (t69 = (TrimP a))))) = some (Value.bool ((((!decide (e59 = 0)) || (!decide (e64 = 0))) || (!decide (e69 = 0))) || (!(decide (t69 = (TrimP a)))))) from by first | (simp only [hg74, hg78, hg82, Bool.true_or, Bool.false_or, Bool.true_and, Bool.false_and, Bool.or_true, Bool.or_false, Bool.and_true, Bool.and_false]; done) | simp_all), trivial⟩, unw_take 17 rfl rfl⟩
 rintro _ jr8 w18 M
 refine wc_cond rfl (fun ht88 => ?_) (fun ht88 => ?_)
 ·refine wc_seq ?_
  refine wc_region ?_
  refine wl_as M rfl rfl ?_
  refine wl_nil ?_
  refine wc_ret ?_
  obtain ⟨⟨he, hf, hg⟩, hk, h1, h2, h3, h4, h5⟩ := identities_law hva hvb (by omega) (by omega) (by omega) (by omega) hc59 hc64 hc69 peta peta peta peta peta peta peta peta peta peta peta peta peta
  exact absurd ht88 (by rw [he, hf, hg, decide_eq_true hk]; decide)
 refine wc_skip ?_
 refine wc_seq ?_
 refine wc_region ?_
 refine wl_m M (q_ldbA 4 Tryd.underlying29 rfl sz29 rfl rfl rfl rfl) rfl rfl ?_
 refine wl_m M (q_ldbA 3 Tryd.underlying29 rfl sz29 rfl rfl rfl rfl) rfl rfl ?_
 refine wl_e (e_callC M (concat_c a b M.imm ⟨_, _, rfl, (((Rf1.mono hJ59).mono hJ64).mono hJ69), (((Ra1.mono hJ59).mono hJ64).mono hJ69)⟩ ⟨_, _, rfl, (((Rf2.mono hJ59).mono hJ64).mono hJ69), (((Ra2.mono hJ59).mono hJ64).mono hJ69)⟩) Tryd.func36 rfl rfl) rfl rfl ?_
 rintro _ w19 ⟨J92, hJ92, ⟨_, t92, e92, rfl, ⟨fu92, au92, rfl, Rf92, Ra92⟩, hc92⟩, M⟩
 have hoJ92 := M.old
 refine wl_mv M rfl rfl ?_
 refine wl_m M (q_ext rfl rfl) rfl rfl ?_
 refine wl_m M (q_ext rfl rfl) rfl rfl ?_
 refine wl_e (e_alloc M z29) rfl rfl ?_
 rintro _ w20 ⟨b11, rfl, M⟩
 refine wl_e0 (e_stW 0 M rfl rfl rfl sz29 rfl rfl) rfl ?_
 intro _ w21 M
 simp only [sC0, sCS] at M
 refine wl_as M rfl rfl ?_
 refine wl_nil ?_
 refine wc_seq ?_
 refine wc_region ?_
 refine wl_m M (q_ldbA 5 Tryd.underlying29 rfl sz29 rfl rfl rfl rfl) rfl rfl ?_
 refine wl_m M (q_ldbA 4 Tryd.underlying29 rfl sz29 rfl rfl rfl rfl) rfl rfl ?_
 refine wl_e (e_callC M (union_c a b M.imm ⟨_, _, rfl, ((((Rf1.mono hJ59).mono hJ64).mono hJ69).mono hJ92), ((((Ra1.mono hJ59).mono hJ64).mono hJ69).mono hJ92)⟩ ⟨_, _, rfl, ((((Rf2.mono hJ59).mono hJ64).mono hJ69).mono hJ92), ((((Ra2.mono hJ59).mono hJ64).mono hJ69).mono hJ92)⟩) Tryd.func22 rfl rfl) rfl rfl ?_
 rintro _ w22 ⟨J98, hJ98, ⟨_, t98, e98, rfl, ⟨fu98, au98, rfl, Rf98, Ra98⟩, hc98⟩, M⟩
 have hoJ98 := M.old
 refine wl_mv M rfl rfl ?_
 refine wl_m M (q_ext rfl rfl) rfl rfl ?_
 refine wl_m M (q_ext rfl rfl) rfl rfl ?_
 refine wl_e (e_alloc M z29) rfl rfl ?_
 rintro _ w23 ⟨b13, rfl, M⟩
 refine wl_e0 (e_stW 0 M rfl rfl rfl sz29 rfl rfl) rfl ?_
 intro _ w24 M
 simp only [sC0, sCS] at M
 refine wl_as M rfl rfl ?_
 refine wl_nil ?_
 refine wc_seq ?_
 refine wc_region ?_
 refine wl_m M (q_ldbA 6 Tryd.underlying29 rfl sz29 rfl rfl rfl rfl) rfl rfl ?_
 refine wl_e (e_callC M (star_c a M.imm ⟨_, _, rfl, (((((Rf1.mono hJ59).mono hJ64).mono hJ69).mono hJ92).mono hJ98), (((((Ra1.mono hJ59).mono hJ64).mono hJ69).mono hJ92).mono hJ98)⟩) Tryd.func23 rfl rfl) rfl rfl ?_
 rintro _ w25 ⟨J103, hJ103, ⟨_, t103, e103, rfl, ⟨fu103, au103, rfl, Rf103, Ra103⟩, hc103⟩, M⟩
 have hoJ103 := M.old
 refine wl_mv M rfl rfl ?_
 refine wl_m M (q_ext rfl rfl) rfl rfl ?_
 refine wl_m M (q_ext rfl rfl) rfl rfl ?_
 refine wl_e (e_alloc M z29) rfl rfl ?_
 rintro _ w26 ⟨b15, rfl, M⟩
 refine wl_e0 (e_stW 0 M rfl rfl rfl sz29 rfl rfl) rfl ?_
 intro _ w27 M
 simp only [sC0, sCS] at M
 refine wl_as M rfl rfl ?_
 refine wl_nil ?_
 refine wc_seq ?_
 refine wc_region ?_
 refine wl_m M (q_ldbA 2 Tryd.underlying29 rfl sz29 rfl rfl rfl rfl) rfl rfl ?_
 refine wl_e (e_callC M (invert_c t92 M.imm ⟨_, _, rfl, ((Rf92.mono hJ98).mono hJ103), ((Ra92.mono hJ98).mono hJ103)⟩) Tryd.func25 rfl rfl) rfl rfl ?_
 rintro _ w28 ⟨J108, hJ108, ⟨_, t108, e108, rfl, ⟨fu108, au108, rfl, Rf108, Ra108⟩, hc108⟩, M⟩
 have hoJ108 := M.old
 refine wl_mv M rfl rfl ?_
 refine wl_m M (q_ext rfl rfl) rfl rfl ?_
 refine wl_m M (q_ext rfl rfl) rfl rfl ?_
 refine wl_e (e_alloc M z29) rfl rfl ?_
 rintro _ w29 ⟨b17, rfl, M⟩
 refine wl_e0 (e_stW 0 M rfl rfl rfl sz29 rfl rfl) rfl ?_
 intro _ w30 M
 simp only [sC0, sCS] at M
 refine wl_as M rfl rfl ?_
 refine wl_nil ?_
 refine wc_seq ?_
 refine wc_region ?_
 refine wl_m M (q_ldbA 6 Tryd.underlying29 rfl sz29 rfl rfl rfl rfl) rfl rfl ?_
 refine wl_m M (q_ldbA 5 Tryd.underlying29 rfl sz29 rfl rfl rfl rfl) rfl rfl ?_
 refine wl_e (e_callC M (concat_c t59 t64 M.imm ⟨_, _, rfl, ((((((Rf59.mono hJ64).mono hJ69).mono hJ92).mono hJ98).mono hJ103).mono hJ108), ((((((Ra59.mono hJ64).mono hJ69).mono hJ92).mono hJ98).mono hJ103).mono hJ108)⟩ ⟨_, _, rfl, (((((Rf64.mono hJ69).mono hJ92).mono hJ98).mono hJ103).mono hJ108), (((((Ra64.mono hJ69).mono hJ92).mono hJ98).mono hJ103).mono hJ108)⟩) Tryd.func36 rfl rfl) rfl rfl ?_
 rintro _ w31 ⟨J114, hJ114, ⟨_, t114, e114, rfl, ⟨fu114, au114, rfl, Rf114, Ra114⟩, hc114⟩, M⟩
 have hoJ114 := M.old
 refine wl_mv M rfl rfl ?_
 refine wl_m M (q_ext rfl rfl) rfl rfl ?_
 refine wl_m M (q_ext rfl rfl) rfl rfl ?_
 refine wl_e (e_alloc M z29) rfl rfl ?_
 rintro _ w32 ⟨b19, rfl, M⟩
 refine wl_e0 (e_stW 0 M rfl rfl rfl sz29 rfl rfl) rfl ?_
 intro _ w33 M
 simp only [sC0, sCS] at M
 refine wl_as M rfl rfl ?_
 refine wl_nil ?_
 refine wc_seq ?_
 refine wc_seq ?_
 refine wc_region ?_
 refine wl_m M (q_ldbA 1 Tryd.underlying29 rfl sz29 rfl rfl rfl rfl) rfl rfl ?_
 refine wl_m M (q_ldbA 0 Tryd.underlying29 rfl sz29 rfl rfl rfl rfl) rfl rfl ?_
 refine wl_e (e_callC M (sameO_c t108 t114 M.imm ⟨_, _, rfl, (Rf108.mono hJ114), (Ra108.mono hJ114)⟩ ⟨_, _, rfl, Rf114, Ra114⟩) Tryd.func40 rfl rfl) rfl rfl ?_
 rintro _ w34 ⟨J119, hJ119, rfl, M⟩
 replace M := M.less hJ119 hoJ114
 refine wl_m M (q_not rfl) rfl rfl ?_
 refine wl_nil ?_
 refine wc_cond rfl (fun ht120 => ?_) (fun ht120 => ?_)
 ·refine wc_seq ?_
  refine wc_region ?_
  refine wl_as M rfl rfl ?_
  refine wl_nil ?_
  refine wc_ret ?_
  obtain ⟨⟨he, hf, hg⟩, hk, h1, h2, h3, h4, h5⟩ := identities_law hva hvb (by omega) (by omega) (by omega) (by omega) hc59 hc64 hc69 hc92 hc98 hc103 hc108 hc114 peta peta peta peta peta peta peta peta
  exact absurd ht120 (by rw [decide_eq_true h1]; decide)
 refine wc_skip ?_
 refine wc_seq ?_
 refine wc_region ?_
 refine wl_m M (q_ldbA 3 Tryd.underlying29 rfl sz29 rfl rfl rfl rfl) rfl rfl ?_
 refine wl_e (e_callC M (invert_c t98 M.imm ⟨_, _, rfl, (((Rf98.mono hJ103).mono hJ108).mono hJ114), (((Ra98.mono hJ103).mono hJ108).mono hJ114)⟩) Tryd.func25 rfl rfl) rfl rfl ?_
 rintro _ w35 ⟨J123, hJ123, ⟨_, t123, e123, rfl, ⟨fu123, au123, rfl, Rf123, Ra123⟩, hc123⟩, M⟩
 have hoJ123 := M.old
 refine wl_mv M rfl rfl ?_
 refine wl_m M (q_ext rfl rfl) rfl rfl ?_
 refine wl_m M (q_ext rfl rfl) rfl rfl ?_
 refine wl_e0 (e_stW 1 M rfl rfl rfl sz29 rfl rfl) rfl ?_
 intro _ w36 M
 simp only [sC0, sCS] at M
 refine wl_nil ?_
 refine wc_seq ?_
 refine wc_region ?_
 refine wl_m M (q_ldbA 7 Tryd.underlying29 rfl sz29 rfl rfl rfl rfl) rfl rfl ?_
 refine wl_m M (q_ldbA 6 Tryd.underlying29 rfl sz29 rfl rfl rfl rfl) rfl rfl ?_
 refine wl_e (e_callC M (union_c t59 t64 M.imm ⟨_, _, rfl, ((((((((Rf59.mono hJ64).mono hJ69).mono hJ92).mono hJ98).mono hJ103).mono hJ108).mono hJ114).mono hJ123), ((((((((Ra59.mono hJ64).mono hJ69).mono hJ92).mono hJ98).mono hJ103).mono hJ108).mono hJ114).mono hJ123)⟩ ⟨_, _, rfl, (((((((Rf64.mono hJ69).mono hJ92).mono hJ98).mono hJ103).mono hJ108).mono hJ114).mono hJ123), (((((((Ra64.mono hJ69).mono hJ92).mono hJ98).mono hJ103).mono hJ108).mono hJ114).mono hJ123)⟩) Tryd.func22 rfl rfl) rfl rfl ?_
 rintro _ w37 ⟨J129, hJ129, ⟨_, t129, e129, rfl, ⟨fu129, au129, rfl, Rf129, Ra129⟩, hc129⟩, M⟩
 have hoJ129 := M.old
 refine wl_mv M rfl rfl ?_
 refine wl_m M (q_ext rfl rfl) rfl rfl ?_
 refine wl_m M (q_ext rfl rfl) rfl rfl ?_
 refine wl_e0 (e_stW 0 M rfl rfl rfl sz29 rfl rfl) rfl ?_
 intro _ w38 M
 simp only [sC0, sCS] at M
 refine wl_nil ?_
 refine wc_seq ?_
 refine wc_seq ?_
 refine wc_region ?_
 refine wl_m M (q_ldbA 1 Tryd.underlying29 rfl sz29 rfl rfl rfl rfl) rfl rfl ?_
 refine wl_m M (q_ldbA 0 Tryd.underlying29 rfl sz29 rfl rfl rfl rfl) rfl rfl ?_
 refine wl_e (e_callC M (sameO_c t123 t129 M.imm ⟨_, _, rfl, (Rf123.mono hJ129), (Ra123.mono hJ129)⟩ ⟨_, _, rfl, Rf129, Ra129⟩) Tryd.func40 rfl rfl) rfl rfl ?_
 rintro _ w39 ⟨J134, hJ134, rfl, M⟩
 replace M := M.less hJ134 hoJ129
 refine wl_m M (q_not rfl) rfl rfl ?_
 refine wl_nil ?_
 refine wc_cond rfl (fun ht135 => ?_) (fun ht135 => ?_)
 ·refine wc_seq ?_
  refine wc_region ?_
  refine wl_as M rfl rfl ?_
  refine wl_nil ?_
  refine wc_ret ?_
  obtain ⟨⟨he, hf, hg⟩, hk, h1, h2, h3, h4, h5⟩ := identities_law hva hvb (by omega) (by omega) (by omega) (by omega) hc59 hc64 hc69 hc92 hc98 hc103 hc108 hc114 hc123 hc129 peta peta peta peta peta peta
  exact absurd ht135 (by rw [decide_eq_true h2]; decide)
 refine wc_skip ?_
 refine wc_seq ?_
 refine wc_region ?_
 refine wl_m M (q_ldbA 2 Tryd.underlying29 rfl sz29 rfl rfl rfl rfl) rfl rfl ?_
 refine wl_e (e_callC M (invert_c t103 M.imm ⟨_, _, rfl, ((((Rf103.mono hJ108).mono hJ114).mono hJ123).mono hJ129), ((((Ra103.mono hJ108).mono hJ114).mono hJ123).mono hJ129)⟩) Tryd.func25 rfl rfl) rfl rfl ?_
 rintro _ w40 ⟨J138, hJ138, ⟨_, t138, e138, rfl, ⟨fu138, au138, rfl, Rf138, Ra138⟩, hc138⟩, M⟩
 have hoJ138 := M.old
 refine wl_mv M rfl rfl ?_
 refine wl_m M (q_ext rfl rfl) rfl rfl ?_
 refine wl_m M (q_ext rfl rfl) rfl rfl ?_
 refine wl_e0 (e_stW 1 M rfl rfl rfl sz29 rfl rfl) rfl ?_
 intro _ w41 M
 simp only [sC0, sCS] at M
 refine wl_nil ?_
 refine wc_seq ?_
 refine wc_region ?_
 refine wl_m M (q_ldbA 7 Tryd.underlying29 rfl sz29 rfl rfl rfl rfl) rfl rfl ?_
 refine wl_e (e_callC M (star_c t59 M.imm ⟨_, _, rfl, ((((((((((Rf59.mono hJ64).mono hJ69).mono hJ92).mono hJ98).mono hJ103).mono hJ108).mono hJ114).mono hJ123).mono hJ129).mono hJ138), ((((((((((Ra59.mono hJ64).mono hJ69).mono hJ92).mono hJ98).mono hJ103).mono hJ108).mono hJ114).mono hJ123).mono hJ129).mono hJ138)⟩) Tryd.func23 rfl rfl) rfl rfl ?_
 rintro _ w42 ⟨J143, hJ143, ⟨_, t143, e143, rfl, ⟨fu143, au143, rfl, Rf143, Ra143⟩, hc143⟩, M⟩
 have hoJ143 := M.old
 refine wl_mv M rfl rfl ?_
 refine wl_m M (q_ext rfl rfl) rfl rfl ?_
 refine wl_m M (q_ext rfl rfl) rfl rfl ?_
 refine wl_e0 (e_stW 0 M rfl rfl rfl sz29 rfl rfl) rfl ?_
 intro _ w43 M
 simp only [sC0, sCS] at M
 refine wl_nil ?_
 refine wc_seq ?_
 refine wc_seq ?_
 refine wc_region ?_
 refine wl_m M (q_ldbA 1 Tryd.underlying29 rfl sz29 rfl rfl rfl rfl) rfl rfl ?_
 refine wl_m M (q_ldbA 0 Tryd.underlying29 rfl sz29 rfl rfl rfl rfl) rfl rfl ?_
 refine wl_e (e_callC M (sameO_c t138 t143 M.imm ⟨_, _, rfl, (Rf138.mono hJ143), (Ra138.mono hJ143)⟩ ⟨_, _, rfl, Rf143, Ra143⟩) Tryd.func40 rfl rfl) rfl rfl ?_
 rintro _ w44 ⟨J148, hJ148, rfl, M⟩
 replace M := M.less hJ148 hoJ143
 refine wl_m M (q_not rfl) rfl rfl ?_
 refine wl_nil ?_
 refine wc_cond rfl (fun ht149 => ?_) (fun ht149 => ?_)
 ·refine wc_seq ?_
  refine wc_region ?_
  refine wl_as M rfl rfl ?_
  refine wl_nil ?_
  refine wc_ret ?_
  obtain ⟨⟨he, hf, hg⟩, hk, h1, h2, h3, h4, h5⟩ := identities_law hva hvb (by omega) (by omega) (by omega) (by omega) hc59 hc64 hc69 hc92 hc98 hc103 hc108 hc114 hc123 hc129 hc138 hc143 peta peta peta peta
  exact absurd ht149 (by rw [decide_eq_true h3]; decide)
 refine wc_skip ?_
 refine wc_seq ?_
 refine wc_region ?_
 refine wl_m M (q_ldbA 9 Tryd.underlying29 rfl sz29 rfl rfl rfl rfl) rfl rfl ?_
 refine wl_e (e_callC M (domain_c a M.imm ⟨_, _, rfl, ((((((((((((Rf1.mono hJ59).mono hJ64).mono hJ69).mono hJ92).mono hJ98).mono hJ103).mono hJ108).mono hJ114).mono hJ123).mono hJ129).mono hJ138).mono hJ143), ((((((((((((Ra1.mono hJ59).mono hJ64).mono hJ69).mono hJ92).mono hJ98).mono hJ103).mono hJ108).mono hJ114).mono hJ123).mono hJ129).mono hJ138).mono hJ143)⟩) Tryd.func27 rfl rfl) rfl rfl ?_
 rintro _ w45 ⟨J152, hJ152, ⟨_, t152, e152, rfl, ⟨fu152, au152, rfl, Rf152, Ra152⟩, hc152⟩, M⟩
 have hoJ152 := M.old
 refine wl_mv M rfl rfl ?_
 refine wl_m M (q_ext rfl rfl) rfl rfl ?_
 refine wl_m M (q_ext rfl rfl) rfl rfl ?_
 refine wl_e (e_alloc M z29) rfl rfl ?_
 rintro _ w46 ⟨b21, rfl, M⟩
 refine wl_e0 (e_stW 0 M rfl rfl rfl sz29 rfl rfl) rfl ?_
 intro _ w47 M
 simp only [sC0, sCS] at M
 refine wl_as M rfl rfl ?_
 refine wl_nil ?_
 refine wc_seq ?_
 refine wc_region ?_
 refine wl_m M (q_ldbA 10 Tryd.underlying29 rfl sz29 rfl rfl rfl rfl) rfl rfl ?_
 refine wl_e (e_callC M (range_c a M.imm ⟨_, _, rfl, (((((((((((((Rf1.mono hJ59).mono hJ64).mono hJ69).mono hJ92).mono hJ98).mono hJ103).mono hJ108).mono hJ114).mono hJ123).mono hJ129).mono hJ138).mono hJ143).mono hJ152), (((((((((((((Ra1.mono hJ59).mono hJ64).mono hJ69).mono hJ92).mono hJ98).mono hJ103).mono hJ108).mono hJ114).mono hJ123).mono hJ129).mono hJ138).mono hJ143).mono hJ152)⟩) Tryd.func29 rfl rfl) rfl rfl ?_
 rintro _ w48 ⟨J157, hJ157, ⟨_, t157, e157, rfl, ⟨fu157, au157, rfl, Rf157, Ra157⟩, hc157⟩, M⟩
 have hoJ157 := M.old
 refine wl_mv M rfl rfl ?_
 refine wl_m M (q_ext rfl rfl) rfl rfl ?_
 refine wl_m M (q_ext rfl rfl) rfl rfl ?_
 refine wl_e (e_alloc M z29) rfl rfl ?_
 rintro _ w49 ⟨b23, rfl, M⟩
 refine wl_e0 (e_stW 0 M rfl rfl rfl sz29 rfl rfl) rfl ?_
 intro _ w50 M
 simp only [sC0, sCS] at M
 refine wl_as M rfl rfl ?_
 refine wl_nil ?_
 refine wc_seq ?_
 refine wc_region ?_
 refine wl_m M (q_ldbA 9 Tryd.underlying29 rfl sz29 rfl rfl rfl rfl) rfl rfl ?_
 refine wl_e (e_callC M (domain_c t59 M.imm ⟨_, _, rfl, (((((((((((((Rf59.mono hJ64).mono hJ69).mono hJ92).mono hJ98).mono hJ103).mono hJ108).mono hJ114).mono hJ123).mono hJ129).mono hJ138).mono hJ143).mono hJ152).mono hJ157), (((((((((((((Ra59.mono hJ64).mono hJ69).mono hJ92).mono hJ98).mono hJ103).mono hJ108).mono hJ114).mono hJ123).mono hJ129).mono hJ138).mono hJ143).mono hJ152).mono hJ157)⟩) Tryd.func27 rfl rfl) rfl rfl ?_
 rintro _ w51 ⟨J162, hJ162, ⟨_, t162, e162, rfl, ⟨fu162, au162, rfl, Rf162, Ra162⟩, hc162⟩, M⟩
 have hoJ162 := M.old
 refine wl_mv M rfl rfl ?_
 refine wl_m M (q_ext rfl rfl) rfl rfl ?_
 refine wl_m M (q_ext rfl rfl) rfl rfl ?_
 refine wl_e0 (e_stW 3 M rfl rfl rfl sz29 rfl rfl) rfl ?_
 intro _ w52 M
 simp only [sC0, sCS] at M
 refine wl_nil ?_
 refine wc_seq ?_
 refine wc_region ?_
 refine wl_m M (q_ldbA 1 Tryd.underlying29 rfl sz29 rfl rfl rfl rfl) rfl rfl ?_
 refine wl_e (e_callC M (domain_c t152 M.imm ⟨_, _, rfl, ((Rf152.mono hJ157).mono hJ162), ((Ra152.mono hJ157).mono hJ162)⟩) Tryd.func27 rfl rfl) rfl rfl ?_
 rintro _ w53 ⟨J167, hJ167, ⟨_, t167, e167, rfl, ⟨fu167, au167, rfl, Rf167, Ra167⟩, hc167⟩, M⟩
 have hoJ167 := M.old
 refine wl_mv M rfl rfl ?_
 refine wl_m M (q_ext rfl rfl) rfl rfl ?_
 refine wl_m M (q_ext rfl rfl) rfl rfl ?_
 refine wl_e0 (e_stW 2 M rfl rfl rfl sz29 rfl rfl) rfl ?_
 intro _ w54 M
 simp only [sC0, sCS] at M
 refine wl_nil ?_
 refine wc_seq ?_
 refine wc_join (α := Unit) [4, 170, 171, 172, 173, 174, 175, 176, 177] (fun _ => [(4, .bool ((decide (t162 = t157)) && (decide (t167 = t152))))]) (fun _ w' => Mem w I J167 (box b23 29 [.int .i64 t157.states, .int .i64 t157.start, sv fu157, sv au157] :: box b21 29 [.int .i64 t152.states, .int .i64 t152.start, sv fu152, sv au152] :: box b19 29 [.int .i64 t167.states, .int .i64 t167.start, sv fu167, sv au167] :: box b17 29 [.int .i64 t162.states, .int .i64 t162.start, sv fu162, sv au162] :: box b15 29 [.int .i64 t103.states, .int .i64 t103.start, sv fu103, sv au103] :: box b13 29 [.int .i64 t98.states, .int .i64 t98.start, sv fu98, sv au98] :: box b11 29 [.int .i64 t92.states, .int .i64 t92.start, sv fu92, sv au92] :: box b9 29 [.int .i64 t69.states, .int .i64 t69.start, sv fu69, sv au69] :: box b7 29 [.int .i64 t64.states, .int .i64 t64.start, sv fu64, sv au64] :: box b5 29 [.int .i64 t59.states, .int .i64 t59.start, sv fu59, sv au59] :: box b3 29 [.int .i64 b.states, .int .i64 b.start, sv fu2, sv au2] :: box b2 29 [.int .i64 a.states, .int .i64 a.start, sv fu1, sv au1] :: []) w') ?_ ?_
 ·refine wc_region ?_
  refine wl_m M (q_ldbA 3 Tryd.underlying29 rfl sz29 rfl rfl rfl rfl) rfl rfl ?_
  refine wl_m M (q_ldbA 0 Tryd.underlying29 rfl sz29 rfl rfl rfl rfl) rfl rfl ?_
  refine wl_e (e_callC M (sameO_c t162 t157 M.imm ⟨_, _, rfl, (Rf162.mono hJ167), (Ra162.mono hJ167)⟩ ⟨_, _, rfl, ((Rf157.mono hJ162).mono hJ167), ((Ra157.mono hJ162).mono hJ167)⟩) Tryd.func40 rfl rfl) rfl rfl ?_
  rintro _ w55 ⟨J172, hJ172, rfl, M⟩
  replace M := M.less hJ172 hoJ167
  refine wl_mv M rfl rfl ?_
  rcases Bool.eq_false_or_eq_true (decide (t162 = t157)) with hg173 | hg173
  ·refine wl_m M (q_guard 3 rfl rfl rfl hg173 (q_ldbA 2 Tryd.underlying29 rfl sz29 rfl rfl rfl rfl)) rfl rfl ?_
   refine wl_m M (q_guard 3 rfl rfl rfl hg173 (q_ldbA 1 Tryd.underlying29 rfl sz29 rfl rfl rfl rfl)) rfl rfl ?_
   refine wl_e (e_guard 3 rfl rfl rfl hg173 (e_callC M (sameO_c t167 t152 M.imm ⟨_, _, rfl, Rf167, Ra167⟩ ⟨_, _, rfl, (((Rf152.mono hJ157).mono hJ162).mono hJ167), (((Ra152.mono hJ157).mono hJ162).mono hJ167)⟩) Tryd.func40 rfl rfl)) rfl rfl ?_
   rintro _ w56 ⟨J176, hJ176, rfl, M⟩
   replace M := M.less hJ176 hoJ167
   refine wl_m M (q_pickT rfl hg173 rfl) rfl rfl ?_
   refine wl_as M rfl rfl ?_
   refine wl_nil ?_
   exact ⟨(), M, ⟨(show some (Value.bool (decide (t167 = t152))) = some (Value.bool ((decide (t162 = t157)) && (decide (t167 = t152)))) from by first | (simp only [hg173, Bool.true_or, Bool.false_or, Bool.true_and, Bool.false_and, Bool.or_true, Bool.or_false, Bool.and_true, Bool.and_false]; done) | simp_all), trivial⟩, unw_take 9 rfl rfl⟩
  refine wl_m M (q_off 3 rfl rfl rfl hg173) rfl rfl ?_
  refine wl_m M (q_off 3 rfl rfl rfl hg173) rfl rfl ?_
  refine wl_m M (q_off 3 rfl rfl rfl hg173) rfl rfl ?_
  refine wl_m M (q_pickF rfl hg173 rfl) rfl rfl ?_
  refine wl_as M rfl rfl ?_
  refine wl_nil ?_
  exact ⟨(), M, ⟨(show some (Value.bool false) = some (Value.bool ((decide (t162 = t157)) && (decide (t167 = t152)))) from by first | (simp only [hg173, Bool.true_or, Bool.false_or, Bool.true_and, Bool.false_and, Bool.or_true, Bool.or_false, Bool.and_true, Bool.and_false]; done) | simp_all), trivial⟩, unw_take 9 rfl rfl⟩
 rintro _ jr29 w57 M
 refine wc_ret ?_
 obtain ⟨⟨he, hf, hg⟩, hk, h1, h2, h3, h4, h5⟩ := identities_law hva hvb (by omega) (by omega) (by omega) (by omega) hc59 hc64 hc69 hc92 hc98 hc103 hc108 hc114 hc123 hc129 hc138 hc143 hc152 hc157 hc162 hc167
 exact out1 rfl rfl ⟨_, _, rfl, M.grow, by rw [decide_eq_true h4, decide_eq_true h5]; rfl⟩
end Go.Proofs.YtoilmeiikgegcaaDoor.G
