/- Walks of the program's functions. -/
import Derived.Test.YtfepjcmjkaolgaaWL1
import Derived.Test.YtfepjcmjkaolgaaGBef
set_option linter.all false
namespace Go.Proofs.Ytfepjcmjkaolgaa.G
open Go Go.RowKit
set_option maxRecDepth 4000 in
set_option maxHeartbeats 2000000 in
theorem lawEmpty_c (t : Tra) (x y : ByteArray) {v1 : Value} {I : Heap} {w : World} (hI : hle I (hp w)) (R1 : t.rd I v1) : Calls A 5 #[v1, .string x, .string y] w (Ret w I fun r _ => r = .bool true) := by
 obtain ⟨fu1, au1, rfl, Rf1, Ra1⟩ := R1
 have M := Mem.start hI
 refine enter Try.func5 rfl 84 Try.ntmps5 [_, _, _] rfl ?_
 refine wc_seq <| wc_region <| wl_e (e_box M rfl) rfl rfl ?_
 rintro _ w1 ⟨b3, rfl, M⟩
 refine wl_as M rfl rfl <| wl_nil ?_
 refine wc_seq ?_
 refine wc_seq ?_
 refine wc_join (α := Unit) [11, 12, 13, 14, 15, 16, 17, 18, 19, 20, 21, 22, 23, 24, 25, 26, 27, 28, 29] (fun _ => [(29, .bool ((((decide (40 < t.states)) || (decide (100 < (t.arcs.length : Int)))) || (!(decide ((x.size : Int) ≤ 20)))) || (!(decide ((y.size : Int) ≤ 20)))))]) (fun _ w' => Mem w I I (box b3 25 [.int .i64 t.states, .int .i64 t.start, sv fu1, sv au1] :: []) w') ?_ ?_
 ·refine wc_region <| wl_m M (q_fa fo_25_0 rfl) rfl rfl <| wl_m M (q_ldb 0 Try.underlying3 rfl rfl rfl rfl) rfl rfl <| wl_m M (q_gtr rfl rfl) rfl rfl <| wl_mv M rfl rfl ?_
  rcases Bool.eq_false_or_eq_true (decide (40 < t.states)) with hg14 | hg14
  ·refine wl_m M (q_off 3 rfl rfl rfl hg14) rfl rfl <| wl_m M (q_off 3 rfl rfl rfl hg14) rfl rfl <| wl_m M (q_off 3 rfl rfl rfl hg14) rfl rfl <| wl_m M (q_off 3 rfl rfl rfl hg14) rfl rfl <| wl_m M (q_pickT rfl hg14 rfl) rfl rfl <| wl_mv M rfl rfl <| wl_m M (q_off 9 rfl rfl rfl rfl) rfl rfl <| wl_m M (q_off 9 rfl rfl rfl rfl) rfl rfl <| wl_m M (q_off 9 rfl rfl rfl rfl) rfl rfl <| wl_m M (q_pickT rfl rfl rfl) rfl rfl <| wl_mv M rfl rfl <| wl_m M (q_off 14 rfl rfl rfl rfl) rfl rfl <| wl_m M (q_off 14 rfl rfl rfl rfl) rfl rfl ?_
   refine wl_m M (q_off 14 rfl rfl rfl rfl) rfl rfl <| wl_m M (q_pickT rfl rfl rfl) rfl rfl <| wl_nil ?_
   exact ⟨(), M, ⟨(show some (Value.bool true) = some (Value.bool ((((decide (40 < t.states)) || (decide (100 < (t.arcs.length : Int)))) || (!(decide ((x.size : Int) ≤ 20)))) || (!(decide ((y.size : Int) ≤ 20))))) from by first | (simp only [hg14, bL8]; done) | (simp_all; done) | (simp_all; omega)), trivial⟩, unw_take 19 rfl rfl⟩
  refine wl_m M (q_guard 3 rfl rfl rfl hg14 (q_fa fo_25_3 rfl)) rfl rfl <| wl_m M (q_guard 3 rfl rfl rfl hg14 (q_ldb 0 Try.underlying23 rfl rfl rfl rfl)) rfl rfl <| wl_m M (q_guard 3 rfl rfl rfl hg14 (q_lenR Ra1 Try.underlying23 rfl)) rfl rfl <| wl_m M (q_guard 3 rfl rfl rfl hg14 (q_gtr rfl rfl)) rfl rfl <| wl_m M (q_pickF rfl hg14 rfl) rfl rfl <| wl_mv M rfl rfl ?_
  rcases Bool.eq_false_or_eq_true (decide (100 < (t.arcs.length : Int))) with hg20 | hg20
  ·refine wl_m M (q_off 9 rfl rfl rfl hg20) rfl rfl <| wl_m M (q_off 9 rfl rfl rfl hg20) rfl rfl <| wl_m M (q_off 9 rfl rfl rfl hg20) rfl rfl <| wl_m M (q_pickT rfl hg20 rfl) rfl rfl <| wl_mv M rfl rfl <| wl_m M (q_off 14 rfl rfl rfl rfl) rfl rfl <| wl_m M (q_off 14 rfl rfl rfl rfl) rfl rfl <| wl_m M (q_off 14 rfl rfl rfl rfl) rfl rfl <| wl_m M (q_pickT rfl rfl rfl) rfl rfl <| wl_nil ?_
   exact ⟨(), M, ⟨(show some (Value.bool true) = some (Value.bool ((((decide (40 < t.states)) || (decide (100 < (t.arcs.length : Int)))) || (!(decide ((x.size : Int) ≤ 20)))) || (!(decide ((y.size : Int) ≤ 20))))) from by first | (simp only [hg14, hg20, bL8]; done) | (simp_all; done) | (simp_all; omega)), trivial⟩, unw_take 19 rfl rfl⟩
  refine wl_m M (q_guard 9 rfl rfl rfl hg20 (q_move rfl)) rfl rfl <| wl_e (e_guard 9 rfl rfl rfl hg20 (e_callC M (short_c x 20 M.imm) Try.func21 rfl rfl)) rfl rfl ?_
  rintro _ w2 ⟨J22, hJ22, rfl, M⟩
  replace M := M.less hJ22 (fun _ _ => rfl)
  refine wl_m M (q_guard 9 rfl rfl rfl hg20 (q_not rfl)) rfl rfl <| wl_m M (q_pickF rfl hg20 rfl) rfl rfl <| wl_mv M rfl rfl ?_
  rcases Bool.eq_false_or_eq_true (!(decide ((x.size : Int) ≤ 20))) with hg25 | hg25
  ·refine wl_m M (q_off 14 rfl rfl rfl hg25) rfl rfl <| wl_m M (q_off 14 rfl rfl rfl hg25) rfl rfl <| wl_m M (q_off 14 rfl rfl rfl hg25) rfl rfl <| wl_m M (q_pickT rfl hg25 rfl) rfl rfl <| wl_nil ?_
   exact ⟨(), M, ⟨(show some (Value.bool true) = some (Value.bool ((((decide (40 < t.states)) || (decide (100 < (t.arcs.length : Int)))) || (!(decide ((x.size : Int) ≤ 20)))) || (!(decide ((y.size : Int) ≤ 20))))) from by first | (simp only [hg14, hg20, hg25, bL8]; done) | (simp_all; done) | (simp_all; omega)), trivial⟩, unw_take 19 rfl rfl⟩
  refine wl_m M (q_guard 14 rfl rfl rfl hg25 (q_move rfl)) rfl rfl <| wl_e (e_guard 14 rfl rfl rfl hg25 (e_callC M (short_c y 20 M.imm) Try.func21 rfl rfl)) rfl rfl ?_
  rintro _ w3 ⟨J27, hJ27, rfl, M⟩
  replace M := M.less hJ27 (fun _ _ => rfl)
  refine wl_m M (q_guard 14 rfl rfl rfl hg25 (q_not rfl)) rfl rfl <| wl_m M (q_pickF rfl hg25 rfl) rfl rfl <| wl_nil ?_
  exact ⟨(), M, ⟨(show some (Value.bool (!(decide ((y.size : Int) ≤ 20)))) = some (Value.bool ((((decide (40 < t.states)) || (decide (100 < (t.arcs.length : Int)))) || (!(decide ((x.size : Int) ≤ 20)))) || (!(decide ((y.size : Int) ≤ 20))))) from by first | (simp only [hg14, hg20, hg25, bL8]; done) | (simp_all; done) | (simp_all; omega)), trivial⟩, unw_take 19 rfl rfl⟩
 rintro _ jr1 w4 M
 refine wc_cond rfl (fun ht29 => ?_) (fun ht29 => ?_)
 ·refine wc_seq <| wc_region <| wl_e (e_callC M (awake3_c M.imm) Try.func12 rfl rfl) rfl rfl ?_
  rintro _ w5 ⟨J30, hJ30, rfl, M⟩
  replace M := M.less hJ30 (fun _ _ => rfl)
  refine wl_as M rfl rfl <| wl_nil <| wc_ret ?_
  exact out1 rfl rfl ⟨_, _, rfl, M.grow, rfl⟩
 simp only [Bool.or_eq_false_iff, Bool.not_eq_false', decide_eq_false_iff_not, decide_eq_true_eq] at ht29
 obtain ⟨⟨⟨h1, h2⟩, h3⟩, h4⟩ := ht29
 refine wc_skip ?_
 refine wc_seq <| wc_region <| wl_m M (q_ldbA 0 Try.underlying25 rfl sz25 rfl rfl rfl rfl) rfl rfl <| wl_e (e_callC M (shortest_c t (fun _ => Nat.le_trans (Nat.mul_le_mul (Nat.mul_le_mul (show t.states.toNat ≤ 40 by omega) (show 2 * t.states.toNat + 1 ≤ 81 by omega)) (show t.arcs.length ≤ 100 by omega)) (by decide)) (fun _ => alph_hun (by omega)) sht_h M.imm ⟨_, _, rfl, Rf1, Ra1⟩) Try.func13 rfl rfl) rfl rfl ?_
 rintro _ w6 ⟨J33, hJ33, ⟨xA, yA, bA, rfl, hsP⟩, M⟩
 obtain ⟨hbA, hxA, hyA, hrA, hmin⟩ := sht_law hsP (by omega)
 have hr_1 := runesL_le xA
 have hr_2 := runesL_le yA
 have hr_3 := runesL_le x
 have hr_4 := runesL_le y
 have hoJ33 := M.old
 refine wl_mv M rfl rfl <| wl_m M (q_ext rfl rfl) rfl rfl <| wl_m M (q_ext rfl rfl) rfl rfl <| wl_m M (q_ext rfl rfl) rfl rfl <| wl_as M rfl rfl <| wl_as M rfl rfl <| wl_as M rfl rfl <| wl_nil ?_
 refine wc_seq <| wc_region <| wl_m M (q_ldbA 0 Try.underlying25 rfl sz25 rfl rfl rfl rfl) rfl rfl <| wl_mv M rfl rfl <| wl_mv M rfl rfl <| wl_e (e_callC M (relates_c t x y (by omega) (by omega) (Nat.le_trans (Nat.mul_le_mul (show x.size + 1 ≤ 21 by omega) (show y.size + 1 ≤ 21 by omega)) (by decide)) M.imm ⟨_, _, rfl, (Rf1.mono hJ33), (Ra1.mono hJ33)⟩) Try.func15 rfl rfl) rfl rfl ?_
 rintro _ w7 ⟨J40, hJ40, rfl, M⟩
 replace M := M.less hJ40 hoJ33
 refine wl_as M rfl rfl <| wl_nil ?_
 refine wc_seq ?_
 refine wc_seq ?_
 refine wc_join (α := Unit) [41, 42, 43, 44, 45, 46, 47, 48, 49, 50, 51, 52, 53, 54, 55, 56, 57, 58, 59, 60, 61] (fun _ => [(61, .bool (((bA == (emptyS t)) || (bA && (!(relS t xA yA)))) || ((relS t x y) && (!bA))))]) (fun _ w' => Mem w I J33 (box b3 25 [.int .i64 t.states, .int .i64 t.start, sv fu1, sv au1] :: []) w') ?_ ?_
 ·refine wc_region <| wl_mv M rfl rfl <| wl_m M (q_ldbA 0 Try.underlying25 rfl sz25 rfl rfl rfl rfl) rfl rfl <| wl_e (e_callC M (emptyT_c t M.imm ⟨_, _, rfl, (Rf1.mono hJ33), (Ra1.mono hJ33)⟩) Try.func17 rfl rfl) rfl rfl ?_
  rintro _ w8 ⟨J43, hJ43, rfl, M⟩
  replace M := M.less hJ43 hoJ33
  refine wl_m M (q_eqlB Try.underlying4 rfl rfl) rfl rfl <| wl_mv M rfl rfl ?_
  rcases Bool.eq_false_or_eq_true (bA == (emptyS t)) with hg45 | hg45
  ·refine wl_m M (q_off 4 rfl rfl rfl hg45) rfl rfl <| wl_m M (q_off 4 rfl rfl rfl hg45) rfl rfl <| wl_m M (q_offu 6 rfl rfl rfl) rfl rfl <| wl_m M (q_offu 6 rfl rfl rfl) rfl rfl <| wl_m M (q_offu 6 rfl rfl rfl) rfl rfl <| wl_m M (q_offu 6 rfl rfl rfl) rfl rfl <| wl_m M (q_offu 6 rfl rfl rfl) rfl rfl <| wl_m M (q_off 4 rfl rfl rfl hg45) rfl rfl <| wl_m M (q_pickT rfl hg45 rfl) rfl rfl <| wl_mv M rfl rfl <| wl_m M (q_off 14 rfl rfl rfl rfl) rfl rfl <| wl_m M (q_off 14 rfl rfl rfl rfl) rfl rfl <| wl_m M (q_offu 16 rfl rfl rfl) rfl rfl ?_
   refine wl_m M (q_offu 16 rfl rfl rfl) rfl rfl <| wl_m M (q_off 14 rfl rfl rfl rfl) rfl rfl <| wl_m M (q_pickT rfl rfl rfl) rfl rfl <| wl_nil ?_
   exact ⟨(), M, ⟨(show some (Value.bool true) = some (Value.bool (((bA == (emptyS t)) || (bA && (!(relS t xA yA)))) || ((relS t x y) && (!bA)))) from by first | (simp only [hg45, bL8]; done) | (simp_all; done) | (simp_all; omega)), trivial⟩, unw_take 21 rfl rfl⟩
  refine wl_m M (q_guard 4 rfl rfl rfl hg45 (q_move rfl)) rfl rfl <| wl_m M (q_guard 4 rfl rfl rfl hg45 (q_move rfl)) rfl rfl ?_
  rcases Bool.eq_false_or_eq_true (bA) with hg47 | hg47
  ·refine wl_m M (q_guard 6 rfl rfl rfl hg47 (q_ldbA 0 Try.underlying25 rfl sz25 rfl rfl rfl rfl)) rfl rfl <| wl_m M (q_guard 6 rfl rfl rfl hg47 (q_move rfl)) rfl rfl <| wl_m M (q_guard 6 rfl rfl rfl hg47 (q_move rfl)) rfl rfl <| wl_e (e_guard 6 rfl rfl rfl hg47 (e_callC M (relates_c t xA yA (by omega) (by omega) (Nat.le_trans (Nat.mul_le_mul (show xA.size + 1 ≤ 321 by omega) (show yA.size + 1 ≤ 321 by omega)) (by decide)) M.imm ⟨_, _, rfl, (Rf1.mono hJ33), (Ra1.mono hJ33)⟩) Try.func15 rfl rfl)) rfl rfl ?_
   rintro _ w9 ⟨J51, hJ51, rfl, M⟩
   replace M := M.less hJ51 hoJ33
   refine wl_m M (q_guard 6 rfl rfl rfl hg47 (q_not rfl)) rfl rfl <| wl_m M (q_guard 4 rfl rfl rfl hg45 (q_pickT rfl hg47 rfl)) rfl rfl <| wl_m M (q_pickF rfl hg45 rfl) rfl rfl <| wl_mv M rfl rfl ?_
   rcases Bool.eq_false_or_eq_true (!(relS t xA yA)) with hg55 | hg55
   ·refine wl_m M (q_off 14 rfl rfl rfl hg55) rfl rfl <| wl_m M (q_off 14 rfl rfl rfl hg55) rfl rfl <| wl_m M (q_offu 16 rfl rfl rfl) rfl rfl <| wl_m M (q_offu 16 rfl rfl rfl) rfl rfl <| wl_m M (q_off 14 rfl rfl rfl hg55) rfl rfl <| wl_m M (q_pickT rfl hg55 rfl) rfl rfl <| wl_nil ?_
    exact ⟨(), M, ⟨(show some (Value.bool true) = some (Value.bool (((bA == (emptyS t)) || (bA && (!(relS t xA yA)))) || ((relS t x y) && (!bA)))) from by first | (simp only [hg45, hg47, hg55, bL8]; done) | (simp_all; done) | (simp_all; omega)), trivial⟩, unw_take 21 rfl rfl⟩
   refine wl_m M (q_guard 14 rfl rfl rfl hg55 (q_move rfl)) rfl rfl <| wl_m M (q_guard 14 rfl rfl rfl hg55 (q_move rfl)) rfl rfl ?_
   rcases Bool.eq_false_or_eq_true (relS t x y) with hg57 | hg57
   ·refine wl_m M (q_guard 16 rfl rfl rfl hg57 (q_move rfl)) rfl rfl <| wl_m M (q_guard 16 rfl rfl rfl hg57 (q_not rfl)) rfl rfl <| wl_m M (q_guard 14 rfl rfl rfl hg55 (q_pickT rfl hg57 rfl)) rfl rfl <| wl_m M (q_pickF rfl hg55 rfl) rfl rfl <| wl_nil ?_
    exact ⟨(), M, ⟨(show some (Value.bool (!bA)) = some (Value.bool (((bA == (emptyS t)) || (bA && (!(relS t xA yA)))) || ((relS t x y) && (!bA)))) from by first | (simp only [hg45, hg47, hg55, hg57, bL8]; done) | (simp_all; done) | (simp_all; omega)), trivial⟩, unw_take 21 rfl rfl⟩
   refine wl_m M (q_off 16 rfl rfl rfl hg57) rfl rfl <| wl_m M (q_off 16 rfl rfl rfl hg57) rfl rfl <| wl_m M (q_guard 14 rfl rfl rfl hg55 (q_pickF rfl hg57 rfl)) rfl rfl <| wl_m M (q_pickF rfl hg55 rfl) rfl rfl <| wl_nil ?_
   exact ⟨(), M, ⟨(show some (Value.bool false) = some (Value.bool (((bA == (emptyS t)) || (bA && (!(relS t xA yA)))) || ((relS t x y) && (!bA)))) from by first | (simp only [hg45, hg47, hg55, hg57, bL8]; done) | (simp_all; done) | (simp_all; omega)), trivial⟩, unw_take 21 rfl rfl⟩
  refine wl_m M (q_off 6 rfl rfl rfl hg47) rfl rfl <| wl_m M (q_off 6 rfl rfl rfl hg47) rfl rfl <| wl_m M (q_off 6 rfl rfl rfl hg47) rfl rfl <| wl_m M (q_off 6 rfl rfl rfl hg47) rfl rfl <| wl_m M (q_off 6 rfl rfl rfl hg47) rfl rfl <| wl_m M (q_guard 4 rfl rfl rfl hg45 (q_pickF rfl hg47 rfl)) rfl rfl <| wl_m M (q_pickF rfl hg45 rfl) rfl rfl <| wl_mv M rfl rfl <| wl_m M (q_guard 14 rfl rfl rfl rfl (q_move rfl)) rfl rfl <| wl_m M (q_guard 14 rfl rfl rfl rfl (q_move rfl)) rfl rfl ?_
  rcases Bool.eq_false_or_eq_true (relS t x y) with hg57 | hg57
  ·refine wl_m M (q_guard 16 rfl rfl rfl hg57 (q_move rfl)) rfl rfl <| wl_m M (q_guard 16 rfl rfl rfl hg57 (q_not rfl)) rfl rfl <| wl_m M (q_guard 14 rfl rfl rfl rfl (q_pickT rfl hg57 rfl)) rfl rfl <| wl_m M (q_pickF rfl rfl rfl) rfl rfl <| wl_nil ?_
   exact ⟨(), M, ⟨(show some (Value.bool (!bA)) = some (Value.bool (((bA == (emptyS t)) || (bA && (!(relS t xA yA)))) || ((relS t x y) && (!bA)))) from by first | (simp only [hg45, hg47, hg57, bL8]; done) | (simp_all; done) | (simp_all; omega)), trivial⟩, unw_take 21 rfl rfl⟩
  refine wl_m M (q_off 16 rfl rfl rfl hg57) rfl rfl <| wl_m M (q_off 16 rfl rfl rfl hg57) rfl rfl <| wl_m M (q_guard 14 rfl rfl rfl rfl (q_pickF rfl hg57 rfl)) rfl rfl <| wl_m M (q_pickF rfl rfl rfl) rfl rfl <| wl_nil ?_
  exact ⟨(), M, ⟨(show some (Value.bool false) = some (Value.bool (((bA == (emptyS t)) || (bA && (!(relS t xA yA)))) || ((relS t x y) && (!bA)))) from by first | (simp only [hg45, hg47, hg57, bL8]; done) | (simp_all; done) | (simp_all; omega)), trivial⟩, unw_take 21 rfl rfl⟩
 rintro _ jr5 w10 M
 refine wc_cond rfl (fun ht61 => ?_) (fun ht61 => ?_)
 ·rw [emp_a hbA hrA (fun h => (hmin x y h).1)] at ht61; cases ht61
 refine wc_skip ?_
 refine wc_seq ?_
 refine wc_join (α := Unit) [6, 62, 63, 64, 65, 66, 67, 68, 69, 70, 71, 72, 73, 74, 75, 76, 77, 78, 79, 80, 81, 82, 83] (fun _ => [(6, .bool (true && ((!(relS t x y)) || (decide ((((runesL xA).length : Int) + ((runesL yA).length : Int)) ≤ (((runesL x).length : Int) + ((runesL y).length : Int)))))))]) (fun _ w' => Mem w I J33 (box b3 25 [.int .i64 t.states, .int .i64 t.start, sv fu1, sv au1] :: []) w') ?_ ?_
 ·refine wc_region <| wl_e (e_callC M (awake3_c M.imm) Try.func12 rfl rfl) rfl rfl ?_
  rintro _ w11 ⟨J62, hJ62, rfl, M⟩
  replace M := M.less hJ62 hoJ33
  refine wl_mv M rfl rfl <| wl_m M (q_guard 1 rfl rfl rfl rfl (q_move rfl)) rfl rfl <| wl_m M (q_guard 1 rfl rfl rfl rfl (q_not rfl)) rfl rfl <| wl_m M (q_guard 1 rfl rfl rfl rfl (q_move rfl)) rfl rfl ?_
  rcases Bool.eq_false_or_eq_true (!(relS t x y)) with hg66 | hg66
  ·refine wl_m M (q_off 4 rfl rfl rfl hg66) rfl rfl <| wl_m M (q_off 4 rfl rfl rfl hg66) rfl rfl <| wl_m M (q_off 4 rfl rfl rfl hg66) rfl rfl <| wl_m M (q_off 4 rfl rfl rfl hg66) rfl rfl <| wl_m M (q_off 4 rfl rfl rfl hg66) rfl rfl <| wl_m M (q_off 4 rfl rfl rfl hg66) rfl rfl <| wl_m M (q_off 4 rfl rfl rfl hg66) rfl rfl <| wl_m M (q_off 4 rfl rfl rfl hg66) rfl rfl <| wl_m M (q_off 4 rfl rfl rfl hg66) rfl rfl <| wl_m M (q_off 4 rfl rfl rfl hg66) rfl rfl <| wl_m M (q_off 4 rfl rfl rfl hg66) rfl rfl <| wl_m M (q_off 4 rfl rfl rfl hg66) rfl rfl <| wl_m M (q_off 4 rfl rfl rfl hg66) rfl rfl ?_
   refine wl_m M (q_off 4 rfl rfl rfl hg66) rfl rfl <| wl_m M (q_off 4 rfl rfl rfl hg66) rfl rfl <| wl_m M (q_guard 1 rfl rfl rfl rfl (q_pickT rfl hg66 rfl)) rfl rfl <| wl_m M (q_pickT rfl rfl rfl) rfl rfl <| wl_as M rfl rfl <| wl_nil ?_
   exact ⟨(), M, ⟨(show some (Value.bool true) = some (Value.bool (true && ((!(relS t x y)) || (decide ((((runesL xA).length : Int) + ((runesL yA).length : Int)) ≤ (((runesL x).length : Int) + ((runesL y).length : Int))))))) from by first | (simp only [hg66, bL8]; done) | (simp_all; done) | (simp_all; omega)), trivial⟩, unw_take 23 rfl rfl⟩
  refine wl_m M (q_guard 4 rfl rfl rfl hg66 (q_move rfl)) rfl rfl <| wl_e (e_guard 4 rfl rfl rfl hg66 (e_cvRI (E := ERune) (s := xA) M (fun _ => rfl) Try.underlying9 Try.underlying40 Try.underlying21 (by omega) rfl)) rfl rfl ?_
  rintro v68 w12 ⟨J68, hJ68, R68, M⟩
  obtain ⟨u68, rfl⟩ := rdSl_slice R68
  have hoJ68 := M.old
  replace R68 : rdSl ERune J68 (sv u68) (runesL xA) := R68
  refine wl_m M (q_guard 4 rfl rfl rfl hg66 (q_lenR R68 Try.underlying40 rfl)) rfl rfl <| wl_m M (q_guard 4 rfl rfl rfl hg66 (q_move rfl)) rfl rfl <| wl_e (e_guard 4 rfl rfl rfl hg66 (e_cvRI (E := ERune) (s := yA) M (fun _ => rfl) Try.underlying9 Try.underlying40 Try.underlying21 (by omega) rfl)) rfl rfl ?_
  rintro v71 w13 ⟨J71, hJ71, R71, M⟩
  obtain ⟨u71, rfl⟩ := rdSl_slice R71
  have hoJ71 := M.old
  replace R71 : rdSl ERune J71 (sv u71) (runesL yA) := R71
  refine wl_m M (q_guard 4 rfl rfl rfl hg66 (q_lenR R71 Try.underlying40 rfl)) rfl rfl <| wl_m M (q_guard 4 rfl rfl rfl hg66 (q_add rfl rfl (IntWalk.i64_in _ (by omega)))) rfl rfl ?_
  refine wl_m M (q_guard 4 rfl rfl rfl hg66 (q_move rfl)) rfl rfl <| wl_e (e_guard 4 rfl rfl rfl hg66 (e_cvRI (E := ERune) (s := x) M (fun _ => rfl) Try.underlying9 Try.underlying40 Try.underlying21 (by omega) rfl)) rfl rfl ?_
  rintro v75 w14 ⟨J75, hJ75, R75, M⟩
  obtain ⟨u75, rfl⟩ := rdSl_slice R75
  have hoJ75 := M.old
  replace R75 : rdSl ERune J75 (sv u75) (runesL x) := R75
  refine wl_m M (q_guard 4 rfl rfl rfl hg66 (q_lenR R75 Try.underlying40 rfl)) rfl rfl <| wl_m M (q_guard 4 rfl rfl rfl hg66 (q_move rfl)) rfl rfl <| wl_e (e_guard 4 rfl rfl rfl hg66 (e_cvRI (E := ERune) (s := y) M (fun _ => rfl) Try.underlying9 Try.underlying40 Try.underlying21 (by omega) rfl)) rfl rfl ?_
  rintro v78 w15 ⟨J78, hJ78, R78, M⟩
  obtain ⟨u78, rfl⟩ := rdSl_slice R78
  have hoJ78 := M.old
  replace R78 : rdSl ERune J78 (sv u78) (runesL y) := R78
  refine wl_m M (q_guard 4 rfl rfl rfl hg66 (q_lenR R78 Try.underlying40 rfl)) rfl rfl <| wl_m M (q_guard 4 rfl rfl rfl hg66 (q_add rfl rfl (IntWalk.i64_in _ (by omega)))) rfl rfl ?_
  refine wl_m M (q_guard 4 rfl rfl rfl hg66 (q_leq rfl rfl)) rfl rfl <| wl_m M (q_guard 1 rfl rfl rfl rfl (q_pickF rfl hg66 rfl)) rfl rfl <| wl_m M (q_pickT rfl rfl rfl) rfl rfl <| wl_as M rfl rfl <| wl_nil ?_
  replace M := M.less (hle.trans (hle.trans (hle.trans hJ68 hJ71) hJ75) hJ78) hoJ33
  exact ⟨(), M, ⟨(show some (Value.bool (decide ((((runesL xA).length : Int) + ((runesL yA).length : Int)) ≤ (((runesL x).length : Int) + ((runesL y).length : Int))))) = some (Value.bool (true && ((!(relS t x y)) || (decide ((((runesL xA).length : Int) + ((runesL yA).length : Int)) ≤ (((runesL x).length : Int) + ((runesL y).length : Int))))))) from by first | (simp only [hg66, bL8]; done) | (simp_all; done) | (simp_all; omega)), trivial⟩, unw_take 23 rfl rfl⟩
 rintro _ jr7 w16 M
 refine wc_ret ?_
 exact out1 rfl rfl ⟨_, _, rfl, M.grow, by rw [Bool.true_and, emp_b (fun h => (hmin x y h).2)]⟩
end Go.Proofs.Ytfepjcmjkaolgaa.G
