/- Walks of the program's functions. -/
import Derived.Test.YtfepjcmjkaolgaaWRa
import Derived.Test.YtfepjcmjkaolgaaWOf
set_option linter.all false
namespace Go.Proofs.Ytfepjcmjkaolgaa.G
open Go Go.RowKit
theorem outputsBad_c (t : Tra) (x : ByteArray) (n : Int) (hv : validT t = false) (hx : x.size ≤ 70368744177664) {v1 : Value} {I : Heap} {w : World} (hI : hle I (hp w)) (R1 : t.rd I v1) :
    Calls A 14 #[v1, .string x, .int .i64 n] w (Ret w I fun r _ => r = .tuple #[.slice none 0 0, .int .i64 1]) := by
 obtain ⟨fu1, au1, rfl, Rf1, Ra1⟩ := R1
 have hxl := runesL_le x
 have M := Mem.start hI
 refine enter Try.func14 rfl 130 Try.ntmps14 [_, _, _] rfl ?_
 refine wc_seq ?_
 refine wc_region ?_
 refine wl_e (e_box M rfl) rfl rfl ?_
 rintro _ w1 ⟨b3, rfl, M⟩
 refine wl_as M rfl rfl ?_
 refine wl_as M rfl rfl ?_
 refine wl_nil ?_
 refine wc_seq ?_
 refine wc_region ?_
 refine wl_mv M rfl rfl ?_
 refine wl_e (e_callC M (readableT_c x (by omega) M.imm) Try.func44 rfl rfl) rfl rfl ?_
 rintro _ w2 ⟨J24, hJ24, ⟨u24, rfl, R24⟩, M⟩
 have hoJ24 := M.old
 refine wl_mv M rfl rfl ?_
 refine wl_m M (q_ext rfl rfl) rfl rfl ?_
 refine wl_m M (q_ext rfl rfl) rfl rfl ?_
 refine wl_as M rfl rfl ?_
 refine wl_as M rfl rfl ?_
 refine wl_nil ?_
 refine wc_seq ?_
 refine wc_seq ?_
 refine wc_join (α := Unit) [27, 28, 29, 30, 31, 32, 33, 34, 35, 36, 37, 38, 39, 40, 41] (fun _ => [(41, .bool ((((!(validT t)) || (!(okT x))) || (decide (n < 0))) || (decide (4096 < n))))]) (fun _ w' => Mem w I J24 (box b3 25 [.int .i64 t.states, .int .i64 t.start, sv fu1, sv au1] :: []) w') ?_ ?_
 ·refine wc_region ?_
  refine wl_m M (q_ldbA 0 Try.underlying25 rfl sz25 rfl rfl rfl rfl) rfl rfl ?_
  refine wl_e (e_callC M (valid_c t M.imm ⟨_, _, rfl, (Rf1.mono hJ24), (Ra1.mono hJ24)⟩) Try.func11 rfl rfl) rfl rfl ?_
  rintro _ w3 ⟨J28, hJ28, rfl, M⟩
  replace M := M.less hJ28 hoJ24
  refine wl_m M (q_not rfl) rfl rfl ?_
  refine wl_mv M rfl rfl ?_
  rcases Bool.eq_false_or_eq_true (!(validT t)) with hg30 | hg30
  ·refine wl_m M (q_off 3 rfl rfl rfl hg30) rfl rfl ?_
   refine wl_m M (q_off 3 rfl rfl rfl hg30) rfl rfl ?_
   refine wl_m M (q_pickT rfl hg30 rfl) rfl rfl ?_
   refine wl_mv M rfl rfl ?_
   refine wl_m M (q_off 7 rfl rfl rfl rfl) rfl rfl ?_
   refine wl_m M (q_off 7 rfl rfl rfl rfl) rfl rfl ?_
   refine wl_m M (q_pickT rfl rfl rfl) rfl rfl ?_
   refine wl_mv M rfl rfl ?_
   refine wl_m M (q_off 11 rfl rfl rfl rfl) rfl rfl ?_
   refine wl_m M (q_off 11 rfl rfl rfl rfl) rfl rfl ?_
   refine wl_m M (q_pickT rfl rfl rfl) rfl rfl ?_
   refine wl_nil ?_
   exact ⟨(), M, ⟨(show some (Value.bool true) = some (Value.bool ((((!(validT t)) || (!(okT x))) || (decide (n < 0))) || (decide (4096 < n)))) from by first | (simp only [hg30, Bool.true_or, Bool.false_or, Bool.true_and, Bool.false_and, Bool.or_true, Bool.or_false, Bool.and_true, Bool.and_false]; done) | simp_all), trivial⟩, unw_take 15 rfl rfl⟩
  refine wl_m M (q_guard 3 rfl rfl rfl hg30 (q_move rfl)) rfl rfl ?_
  refine wl_m M (q_guard 3 rfl rfl rfl hg30 (q_not rfl)) rfl rfl ?_
  refine wl_m M (q_pickF rfl hg30 rfl) rfl rfl ?_
  refine wl_mv M rfl rfl ?_
  rcases Bool.eq_false_or_eq_true (!(okT x)) with hg34 | hg34
  ·refine wl_m M (q_off 7 rfl rfl rfl hg34) rfl rfl ?_
   refine wl_m M (q_off 7 rfl rfl rfl hg34) rfl rfl ?_
   refine wl_m M (q_pickT rfl hg34 rfl) rfl rfl ?_
   refine wl_mv M rfl rfl ?_
   refine wl_m M (q_off 11 rfl rfl rfl rfl) rfl rfl ?_
   refine wl_m M (q_off 11 rfl rfl rfl rfl) rfl rfl ?_
   refine wl_m M (q_pickT rfl rfl rfl) rfl rfl ?_
   refine wl_nil ?_
   exact ⟨(), M, ⟨(show some (Value.bool true) = some (Value.bool ((((!(validT t)) || (!(okT x))) || (decide (n < 0))) || (decide (4096 < n)))) from by first | (simp only [hg30, hg34, Bool.true_or, Bool.false_or, Bool.true_and, Bool.false_and, Bool.or_true, Bool.or_false, Bool.and_true, Bool.and_false]; done) | simp_all), trivial⟩, unw_take 15 rfl rfl⟩
  refine wl_m M (q_guard 7 rfl rfl rfl hg34 (q_move rfl)) rfl rfl ?_
  refine wl_m M (q_guard 7 rfl rfl rfl hg34 (q_lss rfl rfl)) rfl rfl ?_
  refine wl_m M (q_pickF rfl hg34 rfl) rfl rfl ?_
  refine wl_mv M rfl rfl ?_
  rcases Bool.eq_false_or_eq_true (decide (n < 0)) with hg38 | hg38
  ·refine wl_m M (q_off 11 rfl rfl rfl hg38) rfl rfl ?_
   refine wl_m M (q_off 11 rfl rfl rfl hg38) rfl rfl ?_
   refine wl_m M (q_pickT rfl hg38 rfl) rfl rfl ?_
   refine wl_nil ?_
   exact ⟨(), M, ⟨(show some (Value.bool true) = some (Value.bool ((((!(validT t)) || (!(okT x))) || (decide (n < 0))) || (decide (4096 < n)))) from by first | (simp only [hg30, hg34, hg38, Bool.true_or, Bool.false_or, Bool.true_and, Bool.false_and, Bool.or_true, Bool.or_false, Bool.and_true, Bool.and_false]; done) | simp_all), trivial⟩, unw_take 15 rfl rfl⟩
  refine wl_m M (q_guard 11 rfl rfl rfl hg38 (q_move rfl)) rfl rfl ?_
  refine wl_m M (q_guard 11 rfl rfl rfl hg38 (q_gtr rfl rfl)) rfl rfl ?_
  refine wl_m M (q_pickF rfl hg38 rfl) rfl rfl ?_
  refine wl_nil ?_
  exact ⟨(), M, ⟨(show some (Value.bool (decide (4096 < n))) = some (Value.bool ((((!(validT t)) || (!(okT x))) || (decide (n < 0))) || (decide (4096 < n)))) from by first | (simp only [hg30, hg34, hg38, Bool.true_or, Bool.false_or, Bool.true_and, Bool.false_and, Bool.or_true, Bool.or_false, Bool.and_true, Bool.and_false]; done) | simp_all), trivial⟩, unw_take 15 rfl rfl⟩
 rintro _ jr2 w4 M
 refine wc_cond rfl (fun ht41 => ?_) (fun ht41 => ?_)
 ·refine wc_seq ?_
  refine wc_region ?_
  refine wl_as M rfl rfl ?_
  refine wl_as M rfl rfl ?_
  refine wl_nil ?_
  refine wc_ret ?_
  exact out2 rfl rfl rfl ⟨_, _, rfl, M.grow, rfl⟩
 rw [hv] at ht41; cases ht41
theorem relatesBad_c (t : Tra) (x y : ByteArray) (hv : validT t = false) (hx : x.size ≤ 70368744177664) (hy : y.size ≤ 70368744177664) {v1 : Value} {I : Heap} {w : World} (hI : hle I (hp w)) (R1 : t.rd I v1) :
    Calls A 15 #[v1, .string x, .string y] w (Ret w I fun r _ => r = .bool false) := by
 obtain ⟨fu1, au1, rfl, Rf1, Ra1⟩ := R1
 have M := Mem.start hI
 refine enter Try.func15 rfl 165 Try.ntmps15 [_, _, _] rfl ?_
 refine wc_seq ?_
 refine wc_region ?_
 refine wl_e (e_box M rfl) rfl rfl ?_
 rintro _ w1 ⟨b3, rfl, M⟩
 refine wl_as M rfl rfl ?_
 refine wl_nil ?_
 refine wc_seq ?_
 refine wc_region ?_
 refine wl_mv M rfl rfl ?_
 refine wl_e (e_callC M (readableT_c x hx M.imm) Try.func44 rfl rfl) rfl rfl ?_
 rintro _ w2 ⟨J21, hJ21, ⟨u21, rfl, R21⟩, M⟩
 have hoJ21 := M.old
 refine wl_mv M rfl rfl ?_
 refine wl_m M (q_ext rfl rfl) rfl rfl ?_
 refine wl_m M (q_ext rfl rfl) rfl rfl ?_
 refine wl_as M rfl rfl ?_
 refine wl_as M rfl rfl ?_
 refine wl_nil ?_
 refine wc_seq ?_
 refine wc_region ?_
 refine wl_mv M rfl rfl ?_
 refine wl_e (e_callC M (readableT_c y hy M.imm) Try.func44 rfl rfl) rfl rfl ?_
 rintro _ w3 ⟨J26, hJ26, ⟨u26, rfl, R26⟩, M⟩
 have hoJ26 := M.old
 refine wl_mv M rfl rfl ?_
 refine wl_m M (q_ext rfl rfl) rfl rfl ?_
 refine wl_m M (q_ext rfl rfl) rfl rfl ?_
 refine wl_as M rfl rfl ?_
 refine wl_as M rfl rfl ?_
 refine wl_nil ?_
 refine wc_seq ?_
 refine wc_seq ?_
 refine wc_join (α := Unit) [29, 30, 31, 32, 33, 34, 35, 36, 37, 38, 39] (fun _ => [(39, .bool (((!(validT t)) || (!(okT x))) || (!(okT y))))]) (fun _ w' => Mem w I J26 (box b3 25 [.int .i64 t.states, .int .i64 t.start, sv fu1, sv au1] :: []) w') ?_ ?_
 ·refine wc_region ?_
  refine wl_m M (q_ldbA 0 Try.underlying25 rfl sz25 rfl rfl rfl rfl) rfl rfl ?_
  refine wl_e (e_callC M (valid_c t M.imm ⟨_, _, rfl, ((Rf1.mono hJ21).mono hJ26), ((Ra1.mono hJ21).mono hJ26)⟩) Try.func11 rfl rfl) rfl rfl ?_
  rintro _ w4 ⟨J30, hJ30, rfl, M⟩
  replace M := M.less hJ30 hoJ26
  refine wl_m M (q_not rfl) rfl rfl ?_
  refine wl_mv M rfl rfl ?_
  rcases Bool.eq_false_or_eq_true (!(validT t)) with hg32 | hg32
  ·refine wl_m M (q_off 3 rfl rfl rfl hg32) rfl rfl ?_
   refine wl_m M (q_off 3 rfl rfl rfl hg32) rfl rfl ?_
   refine wl_m M (q_pickT rfl hg32 rfl) rfl rfl ?_
   refine wl_mv M rfl rfl ?_
   refine wl_m M (q_off 7 rfl rfl rfl rfl) rfl rfl ?_
   refine wl_m M (q_off 7 rfl rfl rfl rfl) rfl rfl ?_
   refine wl_m M (q_pickT rfl rfl rfl) rfl rfl ?_
   refine wl_nil ?_
   exact ⟨(), M, ⟨(show some (Value.bool true) = some (Value.bool (((!(validT t)) || (!(okT x))) || (!(okT y)))) from by first | (simp only [hg32, Bool.true_or, Bool.false_or, Bool.true_and, Bool.false_and, Bool.or_true, Bool.or_false, Bool.and_true, Bool.and_false]; done) | simp_all), trivial⟩, unw_take 11 rfl rfl⟩
  refine wl_m M (q_guard 3 rfl rfl rfl hg32 (q_move rfl)) rfl rfl ?_
  refine wl_m M (q_guard 3 rfl rfl rfl hg32 (q_not rfl)) rfl rfl ?_
  refine wl_m M (q_pickF rfl hg32 rfl) rfl rfl ?_
  refine wl_mv M rfl rfl ?_
  rcases Bool.eq_false_or_eq_true (!(okT x)) with hg36 | hg36
  ·refine wl_m M (q_off 7 rfl rfl rfl hg36) rfl rfl ?_
   refine wl_m M (q_off 7 rfl rfl rfl hg36) rfl rfl ?_
   refine wl_m M (q_pickT rfl hg36 rfl) rfl rfl ?_
   refine wl_nil ?_
   exact ⟨(), M, ⟨(show some (Value.bool true) = some (Value.bool (((!(validT t)) || (!(okT x))) || (!(okT y)))) from by first | (simp only [hg32, hg36, Bool.true_or, Bool.false_or, Bool.true_and, Bool.false_and, Bool.or_true, Bool.or_false, Bool.and_true, Bool.and_false]; done) | simp_all), trivial⟩, unw_take 11 rfl rfl⟩
  refine wl_m M (q_guard 7 rfl rfl rfl hg36 (q_move rfl)) rfl rfl ?_
  refine wl_m M (q_guard 7 rfl rfl rfl hg36 (q_not rfl)) rfl rfl ?_
  refine wl_m M (q_pickF rfl hg36 rfl) rfl rfl ?_
  refine wl_nil ?_
  exact ⟨(), M, ⟨(show some (Value.bool (!(okT y))) = some (Value.bool (((!(validT t)) || (!(okT x))) || (!(okT y)))) from by first | (simp only [hg32, hg36, Bool.true_or, Bool.false_or, Bool.true_and, Bool.false_and, Bool.or_true, Bool.or_false, Bool.and_true, Bool.and_false]; done) | simp_all), trivial⟩, unw_take 11 rfl rfl⟩
 rintro _ jr3 w5 M
 refine wc_cond rfl (fun ht39 => ?_) (fun ht39 => ?_)
 ·refine wc_seq ?_
  refine wc_region ?_
  refine wl_as M rfl rfl ?_
  refine wl_nil ?_
  refine wc_ret ?_
  exact out1 rfl rfl ⟨_, _, rfl, M.grow, rfl⟩
 rw [hv] at ht39; cases ht39
end Go.Proofs.Ytfepjcmjkaolgaa.G
