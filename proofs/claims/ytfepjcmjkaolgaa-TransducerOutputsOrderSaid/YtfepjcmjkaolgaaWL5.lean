/- Walks of the program's functions. -/
import Derived.Test.YtfepjcmjkaolgaaWSj
import Derived.Test.YtfepjcmjkaolgaaWBf
import Derived.Test.YtfepjcmjkaolgaaWL1
import Derived.Test.YtfepjcmjkaolgaaWSc
set_option linter.all false
namespace Go.Proofs.Ytfepjcmjkaolgaa.G
open Go Go.RowKit
set_option maxRecDepth 4000 in
set_option maxHeartbeats 2000000 in
theorem lawOrder_c (t : Tra) (x : ByteArray) (n ls : Int) (hn : 0 ≤ n ∧ n ≤ 255) (hl : 0 ≤ ls ∧ ls ≤ 255) {v1 : Value} {I : Heap} {w : World} (hI : hle I (hp w)) (R1 : t.rd I v1) : Calls A 4 #[v1, .string x, .int .u8 n, .int .u8 ls] w (Ret w I fun r _ => r = .bool true) := by
 obtain ⟨fu1, au1, rfl, Rf1, Ra1⟩ := R1
 have hk0_ : 0 ≤ n.tmod 12 := Int.tmod_nonneg _ hn.1
 have hk1_ : n.tmod 12 < 12 := Int.tmod_lt_of_pos _ (by decide)
 have hj0_ : 0 ≤ (ls.tmod (n.tmod 12 + 1)) := Int.tmod_nonneg _ hl.1
 have hj1_ : (ls.tmod (n.tmod 12 + 1)) < n.tmod 12 + 1 := Int.tmod_lt_of_pos _ (by omega)
 have M := Mem.start hI
 refine enter Try.func4 rfl 139 Try.ntmps4 [_, _, _, _] rfl ?_
 refine wc_seq <| wc_region <| wl_e (e_box M rfl) rfl rfl ?_
 rintro _ w1 ⟨b4, rfl, M⟩
 refine wl_as M rfl rfl <| wl_nil ?_
 refine wc_seq ?_
 refine wc_seq ?_
 refine wc_join (α := Unit) [17, 18, 19, 20, 21, 22, 23, 24, 25, 26, 27, 28, 29, 30] (fun _ => [(30, .bool (((decide (40 < t.states)) || (decide (100 < (t.arcs.length : Int)))) || (!(decide ((x.size : Int) ≤ 20)))))]) (fun _ w' => Mem w I I (box b4 25 [.int .i64 t.states, .int .i64 t.start, sv fu1, sv au1] :: []) w') ?_ ?_
 ·refine wc_region <| wl_m M (q_fa fo_25_0 rfl) rfl rfl <| wl_m M (q_ldb 0 Try.underlying3 rfl rfl rfl rfl) rfl rfl <| wl_m M (q_gtr rfl rfl) rfl rfl <| wl_mv M rfl rfl ?_
  rcases Bool.eq_false_or_eq_true (decide (40 < t.states)) with hg20 | hg20
  ·refine wl_m M (q_off 3 rfl rfl rfl hg20) rfl rfl <| wl_m M (q_off 3 rfl rfl rfl hg20) rfl rfl <| wl_m M (q_off 3 rfl rfl rfl hg20) rfl rfl <| wl_m M (q_off 3 rfl rfl rfl hg20) rfl rfl <| wl_m M (q_pickT rfl hg20 rfl) rfl rfl <| wl_mv M rfl rfl <| wl_m M (q_off 9 rfl rfl rfl rfl) rfl rfl <| wl_m M (q_off 9 rfl rfl rfl rfl) rfl rfl <| wl_m M (q_off 9 rfl rfl rfl rfl) rfl rfl <| wl_m M (q_pickT rfl rfl rfl) rfl rfl <| wl_nil ?_
   exact ⟨(), M, ⟨(show some (Value.bool true) = some (Value.bool (((decide (40 < t.states)) || (decide (100 < (t.arcs.length : Int)))) || (!(decide ((x.size : Int) ≤ 20))))) from by first | (simp only [hg20, bL8]; done) | (simp_all; done) | (simp_all; omega)), trivial⟩, unw_take 14 rfl rfl⟩
  refine wl_m M (q_guard 3 rfl rfl rfl hg20 (q_fa fo_25_3 rfl)) rfl rfl <| wl_m M (q_guard 3 rfl rfl rfl hg20 (q_ldb 0 Try.underlying23 rfl rfl rfl rfl)) rfl rfl <| wl_m M (q_guard 3 rfl rfl rfl hg20 (q_lenR Ra1 Try.underlying23 rfl)) rfl rfl <| wl_m M (q_guard 3 rfl rfl rfl hg20 (q_gtr rfl rfl)) rfl rfl <| wl_m M (q_pickF rfl hg20 rfl) rfl rfl <| wl_mv M rfl rfl ?_
  rcases Bool.eq_false_or_eq_true (decide (100 < (t.arcs.length : Int))) with hg26 | hg26
  ·refine wl_m M (q_off 9 rfl rfl rfl hg26) rfl rfl <| wl_m M (q_off 9 rfl rfl rfl hg26) rfl rfl <| wl_m M (q_off 9 rfl rfl rfl hg26) rfl rfl <| wl_m M (q_pickT rfl hg26 rfl) rfl rfl <| wl_nil ?_
   exact ⟨(), M, ⟨(show some (Value.bool true) = some (Value.bool (((decide (40 < t.states)) || (decide (100 < (t.arcs.length : Int)))) || (!(decide ((x.size : Int) ≤ 20))))) from by first | (simp only [hg20, hg26, bL8]; done) | (simp_all; done) | (simp_all; omega)), trivial⟩, unw_take 14 rfl rfl⟩
  refine wl_m M (q_guard 9 rfl rfl rfl hg26 (q_move rfl)) rfl rfl <| wl_e (e_guard 9 rfl rfl rfl hg26 (e_callC M (short_c x 20 M.imm) Try.func21 rfl rfl)) rfl rfl ?_
  rintro _ w2 ⟨J28, hJ28, rfl, M⟩
  replace M := M.less hJ28 (fun _ _ => rfl)
  refine wl_m M (q_guard 9 rfl rfl rfl hg26 (q_not rfl)) rfl rfl <| wl_m M (q_pickF rfl hg26 rfl) rfl rfl <| wl_nil ?_
  exact ⟨(), M, ⟨(show some (Value.bool (!(decide ((x.size : Int) ≤ 20)))) = some (Value.bool (((decide (40 < t.states)) || (decide (100 < (t.arcs.length : Int)))) || (!(decide ((x.size : Int) ≤ 20))))) from by first | (simp only [hg20, hg26, bL8]; done) | (simp_all; done) | (simp_all; omega)), trivial⟩, unw_take 14 rfl rfl⟩
 rintro _ jr1 w3 M
 refine wc_cond rfl (fun ht30 => ?_) (fun ht30 => ?_)
 ·refine wc_seq <| wc_region <| wl_e (e_callC M (awake3_c M.imm) Try.func12 rfl rfl) rfl rfl ?_
  rintro _ w4 ⟨J31, hJ31, rfl, M⟩
  replace M := M.less hJ31 (fun _ _ => rfl)
  refine wl_as M rfl rfl <| wl_nil <| wc_ret ?_
  exact out1 rfl rfl ⟨_, _, rfl, M.grow, rfl⟩
 simp only [Bool.or_eq_false_iff, Bool.not_eq_false', decide_eq_false_iff_not, decide_eq_true_eq] at ht30
 obtain ⟨⟨h1, h2⟩, h3⟩ := ht30
 refine wc_skip ?_
 refine wc_seq <| wc_region <| wl_mv M rfl rfl <| wl_m M (q_rem rfl rfl (by decide)) rfl rfl ?_
 refine wl_m M (q_cvII (k' := .i64) (r' := (n.tmod 12)) (by rw [Try.underlying5]; rfl) Try.underlying3 (IntWalk.i64_in _ (by omega)) rfl) rfl rfl ?_
 refine wl_as M rfl rfl <| wl_nil ?_
 refine wc_seq <| wc_region <| wl_m M (q_ldbA 0 Try.underlying25 rfl sz25 rfl rfl rfl rfl) rfl rfl <| wl_mv M rfl rfl <| wl_mv M rfl rfl <| wl_e (e_callC M (outputs_c t x (n.tmod 12) (by omega) (fun _ => Nat.le_trans (Nat.mul_le_mul (show x.size + 1 ≤ 21 by omega) (show t.arcs.length ≤ 100 by omega)) (by decide)) (alph_hun (by omega)) M.imm ⟨_, _, rfl, Rf1, Ra1⟩) Try.func14 rfl rfl) rfl rfl ?_
 rintro _ w5 ⟨J39, hJ39, ⟨u39, o39, e39, rfl, R39, hk39⟩, M⟩
 have hoJ39 := M.old
 refine wl_mv M rfl rfl <| wl_m M (q_ext rfl rfl) rfl rfl <| wl_m M (q_ext rfl rfl) rfl rfl <| wl_as M rfl rfl <| wl_as M rfl rfl <| wl_nil ?_
 refine wc_seq ?_
 refine wc_seq <| wc_region <| wl_mv M rfl rfl <| wl_m M (q_neq rfl rfl) rfl rfl <| wl_nil ?_
 refine wc_cond rfl (fun ht43 => ?_) (fun ht43 => ?_)
 ·have he : ¬ e39 = 0 := by simpa using ht43
  obtain ⟨ho0, hee⟩ := out_err hk39 he
  refine wc_seq ?_
  refine wc_join (α := Unit) [8, 44, 45, 46, 47, 48, 49, 50, 51, 52, 53, 54, 55, 56, 57] (fun _ => [(8, .bool ((true && (decide ((o39.length : Int) = 0))) && ((decide (e39 = 2)) || (decide (e39 = 1)))))]) (fun _ w' => Mem w I J39 (box b4 25 [.int .i64 t.states, .int .i64 t.start, sv fu1, sv au1] :: []) w') ?_ ?_
  ·refine wc_region <| wl_e (e_callC M (awake3_c M.imm) Try.func12 rfl rfl) rfl rfl ?_
   rintro _ w6 ⟨J44, hJ44, rfl, M⟩
   replace M := M.less hJ44 hoJ39
   refine wl_mv M rfl rfl <| wl_m M (q_guard 1 rfl rfl rfl rfl (q_move rfl)) rfl rfl <| wl_m M (q_guard 1 rfl rfl rfl rfl (q_lenR R39 Try.underlying30 rfl)) rfl rfl <| wl_m M (q_guard 1 rfl rfl rfl rfl (q_eql rfl rfl)) rfl rfl <| wl_m M (q_pickT rfl rfl rfl) rfl rfl <| wl_mv M rfl rfl ?_
   rcases Bool.eq_false_or_eq_true (decide ((o39.length : Int) = 0)) with hg50 | hg50
   ·refine wl_m M (q_guard 6 rfl rfl rfl hg50 (q_move rfl)) rfl rfl <| wl_m M (q_guard 6 rfl rfl rfl hg50 (q_eql rfl rfl)) rfl rfl <| wl_m M (q_guard 6 rfl rfl rfl hg50 (q_move rfl)) rfl rfl ?_
    rcases Bool.eq_false_or_eq_true (decide (e39 = 2)) with hg53 | hg53
    ·refine wl_m M (q_off 9 rfl rfl rfl hg53) rfl rfl <| wl_m M (q_off 9 rfl rfl rfl hg53) rfl rfl <| wl_m M (q_guard 6 rfl rfl rfl hg50 (q_pickT rfl hg53 rfl)) rfl rfl <| wl_m M (q_pickT rfl hg50 rfl) rfl rfl <| wl_as M rfl rfl <| wl_nil ?_
     exact ⟨(), M, ⟨(show some (Value.bool true) = some (Value.bool ((true && (decide ((o39.length : Int) = 0))) && ((decide (e39 = 2)) || (decide (e39 = 1))))) from by first | (simp only [hg50, hg53, bL8]; done) | (simp_all; done) | (simp_all; omega)), trivial⟩, unw_take 15 rfl rfl⟩
    refine wl_m M (q_guard 9 rfl rfl rfl hg53 (q_move rfl)) rfl rfl <| wl_m M (q_guard 9 rfl rfl rfl hg53 (q_eql rfl rfl)) rfl rfl <| wl_m M (q_guard 6 rfl rfl rfl hg50 (q_pickF rfl hg53 rfl)) rfl rfl <| wl_m M (q_pickT rfl hg50 rfl) rfl rfl <| wl_as M rfl rfl <| wl_nil ?_
    exact ⟨(), M, ⟨(show some (Value.bool (decide (e39 = 1))) = some (Value.bool ((true && (decide ((o39.length : Int) = 0))) && ((decide (e39 = 2)) || (decide (e39 = 1))))) from by first | (simp only [hg50, hg53, bL8]; done) | (simp_all; done) | (simp_all; omega)), trivial⟩, unw_take 15 rfl rfl⟩
   refine wl_m M (q_off 6 rfl rfl rfl hg50) rfl rfl <| wl_m M (q_off 6 rfl rfl rfl hg50) rfl rfl <| wl_m M (q_off 6 rfl rfl rfl hg50) rfl rfl <| wl_m M (q_offu 9 rfl rfl rfl) rfl rfl <| wl_m M (q_offu 9 rfl rfl rfl) rfl rfl <| wl_m M (q_off 6 rfl rfl rfl hg50) rfl rfl <| wl_m M (q_pickF rfl hg50 rfl) rfl rfl <| wl_as M rfl rfl <| wl_nil ?_
   exact ⟨(), M, ⟨(show some (Value.bool false) = some (Value.bool ((true && (decide ((o39.length : Int) = 0))) && ((decide (e39 = 2)) || (decide (e39 = 1))))) from by first | (simp only [hg50, bL8]; done) | (simp_all; done) | (simp_all; omega)), trivial⟩, unw_take 15 rfl rfl⟩
  rintro _ jr6 w7 M
  refine wc_ret ?_
  exact out1 rfl rfl ⟨_, _, rfl, M.grow, (by rw [ho0]; rcases hee with h | h <;> rw [h] <;> rfl)⟩
 have he : e39 = 0 := by simpa using ht43
 subst he
 have hoo := out_ok hk39
 have hol := R39.len_le
 refine wc_skip ?_
 refine wc_seq ?_
 refine wc_seq <| wc_region <| wl_as M rfl rfl <| wl_nil <| wc_block ?_
 refine wc_loop (α := Nat) [8, 12, 58, 59, 60, 61, 62, 63, 64, 65, 66, 67, 68, 69, 70, 71, 72, 73, 74, 75, 76, 77, 78, 79, 80, 81, 82, 83, 84, 85, 86, 87, 88, 89, 90, 91, 92, 93, 94, 95, 96, 97, 98] (fun (k0 : Nat) => [(12, .int .i64 (k0 : Int))])
   (fun (k0 : Nat) w' => (k0 ≤ o39.length) ∧ Mem w I J39 (box b4 25 [.int .i64 t.states, .int .i64 t.start, sv fu1, sv au1] :: []) w')
   (fun (k0 : Nat) => o39.length - k0) (0) ⟨rfl, trivial⟩ ?_ ?_
 ·refine ⟨Nat.zero_le _, ?_⟩
  exact M
 rintro k0 jj0 w8 ⟨hk0, M⟩
 have hoJ39 := M.old
 refine wc_seq ?_
 refine wc_seq <| wc_region <| wl_mv M rfl rfl <| wl_mv M rfl rfl <| wl_m M (q_lenR R39 Try.underlying30 rfl) rfl rfl <| wl_m M (q_lss rfl rfl) rfl rfl <| wl_nil ?_
 refine wc_dec rfl (fun ht61 => ?_) (fun ht61 => ?_)
 ·obtain ⟨x0, hx0⟩ : ∃ x_, o39[k0]? = some x_ := ⟨_, List.getElem?_eq_getElem (by omega)⟩
  have hll0 := (R39).len_le
  obtain ⟨xp, hxpe⟩ : ∃ x_, x_ = o39.getD (k0 - 1) x0 := ⟨_, rfl⟩
  have hm0 := List.mem_of_getElem? hx0
  have hr1 := hoo.rel x0 hm0
  obtain ⟨hl1, hl2⟩ := hoo.len x0 hm0
  refine wc_skip ?_
  refine wc_seq <| wc_block ?_
  refine wc_seq ?_
  refine wc_join (α := Unit) [64, 65, 66, 67, 68, 69, 70, 71, 72, 73, 74, 75, 76, 77, 78, 79, 80, 81, 82, 83, 84, 85, 86, 87, 88, 89, 90, 91, 92, 93, 94, 95, 96, 97, 98] (fun _ => [(98, .bool (((!(relS t x x0)) || (decide ((n.tmod 12) < ((runesL x0).length : Int)))) || ((decide (0 < (k0 : Int))) && (!(slxB (runesL xp) (runesL x0))))))]) (fun _ w' => Mem w I J39 (box b4 25 [.int .i64 t.states, .int .i64 t.start, sv fu1, sv au1] :: []) w') ?_ ?_
  ·refine wc_draws (fun w' => Mem w I J39 (box b4 25 [.int .i64 t.states, .int .i64 t.start, sv fu1, sv au1] :: []) w' ∧ True) [] fol ?_
   replace M := M.drew
   have hS := (⟨M, trivial⟩ : _ ∧ _)
   refine wa_q 0 rfl (by kernel_rfl) ((q_ldbA 0 Try.underlying25 rfl sz25 rfl rfl rfl rfl).mono fun _ h => h.1) hS rfl rfl ?_
   refine wa_q 1 rfl (by kernel_rfl) (q_move rfl) hS rfl rfl ?_
   refine wa_q 2 rfl (by kernel_rfl) (q_move rfl) hS rfl rfl ?_
   refine wa_q 3 rfl (by kernel_rfl) (q_move rfl) hS rfl rfl ?_
   refine wa_ixS (j := k0) 4 hS (fun _ h => R39.mono h.1.imm) rfl (by kernel_rfl) Try.underlying30 rfl rfl hx0 rfl (fun b68 o68 p68 => ?_)
   refine wa_q 5 rfl (by kernel_rfl) (q_ldp p68 rfl rfl) hS rfl rfl ?_
   refine wa_e 6 rfl (by kernel_rfl) (e_callC M (relates_c t x x0 (by omega) (by omega) (Nat.le_trans (Nat.mul_le_mul (show x.size + 1 ≤ 21 by omega) (show x0.size + 1 ≤ 49 by omega)) (by decide)) M.imm ⟨_, _, rfl, (Rf1.mono hJ39), (Ra1.mono hJ39)⟩) Try.func15 rfl rfl) rfl rfl ?_
   rintro _ w9 ⟨J70, hJ70, rfl, M⟩
   have hS := (⟨(M.less hJ70 hoJ39), trivial⟩ : _ ∧ _)
   refine ⟨fun _ => hS, ?_⟩
   replace M := M.less hJ70 hoJ39
   refine wa_q 7 rfl (by kernel_rfl) (q_not rfl) hS rfl rfl ?_
   refine wa_q 8 rfl (by kernel_rfl) (q_move rfl) hS rfl rfl ?_
   rcases Bool.eq_false_or_eq_true (!(relS t x x0)) with hg72 | hg72
   ·refine wa_q 9 rfl (by kernel_rfl) (q_off 8 rfl rfl rfl hg72) hS rfl rfl ?_
    refine wa_q 10 rfl (by kernel_rfl) (q_off 8 rfl rfl rfl hg72) hS rfl rfl ?_
    refine wa_q 11 rfl (by kernel_rfl) (q_off 8 rfl rfl rfl hg72) hS rfl rfl ?_
    refine wa_q 12 rfl (by kernel_rfl) (q_off 8 rfl rfl rfl hg72) hS rfl rfl ?_
    refine wa_q 15 rfl (by kernel_rfl) (q_off 8 rfl rfl rfl hg72) hS rfl rfl ?_
    refine wa_q 13 rfl (by kernel_rfl) (q_off 8 rfl rfl rfl hg72) hS rfl rfl ?_
    refine wa_q 14 rfl (by kernel_rfl) (q_off 8 rfl rfl rfl hg72) hS rfl rfl ?_
    refine wa_q 16 rfl (by kernel_rfl) (q_off 8 rfl rfl rfl hg72) hS rfl rfl ?_
    refine wa_q 17 rfl (by kernel_rfl) (q_pickT rfl hg72 rfl) hS rfl rfl ?_
    refine wa_q 18 rfl (by kernel_rfl) (q_move rfl) hS rfl rfl ?_
    refine wa_q 19 rfl (by kernel_rfl) (q_off 18 rfl rfl rfl rfl) hS rfl rfl ?_
    refine wa_q 20 rfl (by kernel_rfl) (q_off 18 rfl rfl rfl rfl) hS rfl rfl ?_
    refine wa_q 21 rfl (by kernel_rfl) (q_off 18 rfl rfl rfl rfl) hS rfl rfl ?_
    refine wa_q 22 rfl (by kernel_rfl) (q_offu 21 rfl rfl rfl) hS rfl rfl ?_
    refine wa_q 23 rfl (by kernel_rfl) (q_offu 21 rfl rfl rfl) hS rfl rfl ?_
    refine wa_q 24 rfl (by kernel_rfl) (q_offu 21 rfl rfl rfl) hS rfl rfl ?_
    refine wa_q 25 rfl (by kernel_rfl) (q_offu 21 rfl rfl rfl) hS rfl rfl ?_
    refine wa_q 26 rfl (by kernel_rfl) (q_offu 21 rfl rfl rfl) hS rfl rfl ?_
    refine wa_q 27 rfl (by kernel_rfl) (q_offu 21 rfl rfl rfl) hS rfl rfl ?_
    refine wa_q 28 rfl (by kernel_rfl) (q_offu 21 rfl rfl rfl) hS rfl rfl ?_
    refine wa_q 29 rfl (by kernel_rfl) (q_offu 21 rfl rfl rfl) hS rfl rfl ?_
    refine wa_q 30 rfl (by kernel_rfl) (q_offu 21 rfl rfl rfl) hS rfl rfl ?_
    refine wa_q 31 rfl (by kernel_rfl) (q_offu 21 rfl rfl rfl) hS rfl rfl ?_
    refine wa_q 32 rfl (by kernel_rfl) (q_offu 21 rfl rfl rfl) hS rfl rfl ?_
    refine wa_q 33 rfl (by kernel_rfl) (q_off 18 rfl rfl rfl rfl) hS rfl rfl ?_
    refine wa_q 34 rfl (by kernel_rfl) (q_pickT rfl rfl rfl) hS rfl rfl ?_
    refine wa_done (by kernel_rfl) ?_
    exact ⟨(), M, ⟨(show some (Value.bool true) = some (Value.bool (((!(relS t x x0)) || (decide ((n.tmod 12) < ((runesL x0).length : Int)))) || ((decide (0 < (k0 : Int))) && (!(slxB (runesL xp) (runesL x0)))))) from by first | (simp only [hg72, bL8]; done) | (simp_all; done) | (simp_all; omega)), trivial⟩, unw_take 35 rfl rfl⟩
   refine wa_q 9 rfl (by kernel_rfl) (q_guard 8 rfl rfl rfl hg72 (q_move rfl)) hS rfl rfl ?_
   refine wa_q 10 rfl (by kernel_rfl) (q_guard 8 rfl rfl rfl hg72 (q_move rfl)) hS rfl rfl ?_
   refine wa_ixSG (j := k0) 8 rfl rfl rfl hg72 11 hS (fun _ h => R39.mono h.1.imm) rfl (by kernel_rfl) Try.underlying30 rfl rfl hx0 rfl (fun b75 o75 p75 => ?_)
   refine wa_q 12 rfl (by kernel_rfl) (q_guard 8 rfl rfl rfl hg72 (q_ldp p75 rfl rfl)) hS rfl rfl ?_
   refine wa_q 15 rfl (by kernel_rfl) (q_guard 8 rfl rfl rfl hg72 (q_move rfl)) hS rfl rfl ?_
   refine wa_e 13 rfl (by kernel_rfl) (e_guard 8 rfl rfl rfl hg72 (e_cvRI (E := ERune) (s := x0) M (fun _ => rfl) Try.underlying9 Try.underlying40 Try.underlying21 (by omega) rfl)) rfl rfl ?_
   rintro v77 w10 ⟨J77, hJ77, R77, M⟩
   obtain ⟨u77, rfl⟩ := rdSl_slice R77
   have hoJ77 := M.old
   have hS := (⟨(M.less hJ77 hoJ39), trivial⟩ : _ ∧ _)
   refine ⟨fun _ => hS, ?_⟩
   replace R77 : rdSl ERune J77 (sv u77) (runesL x0) := R77
   refine wa_q 14 rfl (by kernel_rfl) (q_guard 8 rfl rfl rfl hg72 (q_lenR R77 Try.underlying40 rfl)) hS rfl rfl ?_
   refine wa_q 16 rfl (by kernel_rfl) (q_guard 8 rfl rfl rfl hg72 (q_gtr rfl rfl)) hS rfl rfl ?_
   refine wa_q 17 rfl (by kernel_rfl) (q_pickF rfl hg72 rfl) hS rfl rfl ?_
   refine wa_q 18 rfl (by kernel_rfl) (q_move rfl) hS rfl rfl ?_
   rcases Bool.eq_false_or_eq_true (decide ((n.tmod 12) < ((runesL x0).length : Int))) with hg82 | hg82
   ·refine wa_q 19 rfl (by kernel_rfl) (q_off 18 rfl rfl rfl hg82) hS rfl rfl ?_
    refine wa_q 20 rfl (by kernel_rfl) (q_off 18 rfl rfl rfl hg82) hS rfl rfl ?_
    refine wa_q 21 rfl (by kernel_rfl) (q_off 18 rfl rfl rfl hg82) hS rfl rfl ?_
    refine wa_q 22 rfl (by kernel_rfl) (q_offu 21 rfl rfl rfl) hS rfl rfl ?_
    refine wa_q 23 rfl (by kernel_rfl) (q_offu 21 rfl rfl rfl) hS rfl rfl ?_
    refine wa_q 24 rfl (by kernel_rfl) (q_offu 21 rfl rfl rfl) hS rfl rfl ?_
    refine wa_q 25 rfl (by kernel_rfl) (q_offu 21 rfl rfl rfl) hS rfl rfl ?_
    refine wa_q 26 rfl (by kernel_rfl) (q_offu 21 rfl rfl rfl) hS rfl rfl ?_
    refine wa_q 27 rfl (by kernel_rfl) (q_offu 21 rfl rfl rfl) hS rfl rfl ?_
    refine wa_q 28 rfl (by kernel_rfl) (q_offu 21 rfl rfl rfl) hS rfl rfl ?_
    refine wa_q 29 rfl (by kernel_rfl) (q_offu 21 rfl rfl rfl) hS rfl rfl ?_
    refine wa_q 30 rfl (by kernel_rfl) (q_offu 21 rfl rfl rfl) hS rfl rfl ?_
    refine wa_q 31 rfl (by kernel_rfl) (q_offu 21 rfl rfl rfl) hS rfl rfl ?_
    refine wa_q 32 rfl (by kernel_rfl) (q_offu 21 rfl rfl rfl) hS rfl rfl ?_
    refine wa_q 33 rfl (by kernel_rfl) (q_off 18 rfl rfl rfl hg82) hS rfl rfl ?_
    refine wa_q 34 rfl (by kernel_rfl) (q_pickT rfl hg82 rfl) hS rfl rfl ?_
    refine wa_done (by kernel_rfl) ?_
    replace M := M.less hJ77 hoJ39
    exact ⟨(), M, ⟨(show some (Value.bool true) = some (Value.bool (((!(relS t x x0)) || (decide ((n.tmod 12) < ((runesL x0).length : Int)))) || ((decide (0 < (k0 : Int))) && (!(slxB (runesL xp) (runesL x0)))))) from by first | (simp only [hg72, hg82, bL8]; done) | (simp_all; done) | (simp_all; omega)), trivial⟩, unw_take 35 rfl rfl⟩
   refine wa_q 19 rfl (by kernel_rfl) (q_guard 18 rfl rfl rfl hg82 (q_move rfl)) hS rfl rfl ?_
   refine wa_q 20 rfl (by kernel_rfl) (q_guard 18 rfl rfl rfl hg82 (q_gtr rfl rfl)) hS rfl rfl ?_
   refine wa_q 21 rfl (by kernel_rfl) (q_guard 18 rfl rfl rfl hg82 (q_move rfl)) hS rfl rfl ?_
   rcases Bool.eq_false_or_eq_true (decide (0 < (k0 : Int))) with hg85 | hg85
   ·refine wa_q 22 rfl (by kernel_rfl) (q_guard 21 rfl rfl rfl hg85 (q_move rfl)) hS rfl rfl ?_
    refine wa_q 23 rfl (by kernel_rfl) (q_guard 21 rfl rfl rfl hg85 (q_move rfl)) hS rfl rfl ?_
    refine wa_q 24 rfl (by kernel_rfl) (q_guard 21 rfl rfl rfl hg85 (q_sub rfl rfl (IntWalk.i64_in _ (by omega)))) hS rfl rfl ?_
    have hk0 : 0 < k0 := by have := of_decide_eq_true hg85; omega
    have hxp : o39[k0 - 1]? = some xp := by rw [hxpe]; exact getD_at (by omega)
    have hlp := (hoo.len xp (List.mem_of_getElem? hxp)).2
    have hsl := hoo.srt (k0 - 1) xp x0 hxp (by rw [show k0 - 1 + 1 = k0 by omega]; exact hx0)
    refine wa_ixSG (j := (k0 - 1)) 21 rfl rfl rfl hg85 25 hS (fun _ h => R39.mono h.1.imm) rfl (by kernel_rfl) Try.underlying30 rfl (ixe (by omega)) hxp rfl (fun b89 o89 p89 => ?_)
    refine wa_q 26 rfl (by kernel_rfl) (q_guard 21 rfl rfl rfl hg85 (q_ldp p89 rfl rfl)) hS rfl rfl ?_
    refine wa_q 27 rfl (by kernel_rfl) (q_guard 21 rfl rfl rfl hg85 (q_move rfl)) hS rfl rfl ?_
    refine wa_q 28 rfl (by kernel_rfl) (q_guard 21 rfl rfl rfl hg85 (q_move rfl)) hS rfl rfl ?_
    refine wa_ixSG (j := k0) 21 rfl rfl rfl hg85 29 hS (fun _ h => R39.mono h.1.imm) rfl (by kernel_rfl) Try.underlying30 rfl rfl hx0 rfl (fun b93 o93 p93 => ?_)
    refine wa_q 30 rfl (by kernel_rfl) (q_guard 21 rfl rfl rfl hg85 (q_ldp p93 rfl rfl)) hS rfl rfl ?_
    refine wa_e 31 rfl (by kernel_rfl) (e_guard 21 rfl rfl rfl hg85 (e_callC M (before_c xp x0 (by omega) (by omega) M.imm) Try.func22 rfl rfl)) rfl rfl ?_
    rintro _ w11 ⟨J95, hJ95, rfl, M⟩
    have hS := (⟨(M.less (hle.trans hJ77 hJ95) hoJ39), trivial⟩ : _ ∧ _)
    refine ⟨fun _ => hS, ?_⟩
    replace M := M.less hJ95 hoJ77
    refine wa_q 32 rfl (by kernel_rfl) (q_guard 21 rfl rfl rfl hg85 (q_not rfl)) hS rfl rfl ?_
    refine wa_q 33 rfl (by kernel_rfl) (q_guard 18 rfl rfl rfl hg82 (q_pickT rfl hg85 rfl)) hS rfl rfl ?_
    refine wa_q 34 rfl (by kernel_rfl) (q_pickF rfl hg82 rfl) hS rfl rfl ?_
    refine wa_done (by kernel_rfl) ?_
    replace M := M.less hJ77 hoJ39
    exact ⟨(), M, ⟨(show some (Value.bool (!(slxB (runesL xp) (runesL x0)))) = some (Value.bool (((!(relS t x x0)) || (decide ((n.tmod 12) < ((runesL x0).length : Int)))) || ((decide (0 < (k0 : Int))) && (!(slxB (runesL xp) (runesL x0)))))) from by first | (simp only [hg72, hg82, hg85, bL8]; done) | (simp_all; done) | (simp_all; omega)), trivial⟩, unw_take 35 rfl rfl⟩
   refine wa_q 22 rfl (by kernel_rfl) (q_off 21 rfl rfl rfl hg85) hS rfl rfl ?_
   refine wa_q 23 rfl (by kernel_rfl) (q_off 21 rfl rfl rfl hg85) hS rfl rfl ?_
   refine wa_q 24 rfl (by kernel_rfl) (q_off 21 rfl rfl rfl hg85) hS rfl rfl ?_
   refine wa_q 25 rfl (by kernel_rfl) (q_off 21 rfl rfl rfl hg85) hS rfl rfl ?_
   refine wa_q 26 rfl (by kernel_rfl) (q_off 21 rfl rfl rfl hg85) hS rfl rfl ?_
   refine wa_q 27 rfl (by kernel_rfl) (q_off 21 rfl rfl rfl hg85) hS rfl rfl ?_
   refine wa_q 28 rfl (by kernel_rfl) (q_off 21 rfl rfl rfl hg85) hS rfl rfl ?_
   refine wa_q 29 rfl (by kernel_rfl) (q_off 21 rfl rfl rfl hg85) hS rfl rfl ?_
   refine wa_q 30 rfl (by kernel_rfl) (q_off 21 rfl rfl rfl hg85) hS rfl rfl ?_
   refine wa_q 31 rfl (by kernel_rfl) (q_off 21 rfl rfl rfl hg85) hS rfl rfl ?_
   refine wa_q 32 rfl (by kernel_rfl) (q_off 21 rfl rfl rfl hg85) hS rfl rfl ?_
   refine wa_q 33 rfl (by kernel_rfl) (q_guard 18 rfl rfl rfl hg82 (q_pickF rfl hg85 rfl)) hS rfl rfl ?_
   refine wa_q 34 rfl (by kernel_rfl) (q_pickF rfl hg82 rfl) hS rfl rfl ?_
   refine wa_done (by kernel_rfl) ?_
   replace M := M.less hJ77 hoJ39
   exact ⟨(), M, ⟨(show some (Value.bool false) = some (Value.bool (((!(relS t x x0)) || (decide ((n.tmod 12) < ((runesL x0).length : Int)))) || ((decide (0 < (k0 : Int))) && (!(slxB (runesL xp) (runesL x0)))))) from by first | (simp only [hg72, hg82, hg85, bL8]; done) | (simp_all; done) | (simp_all; omega)), trivial⟩, unw_take 35 rfl rfl⟩
  rintro _ jr10 w12 M
  refine wc_cond rfl (fun ht98 => ?_) (fun ht98 => ?_)
  ·have hsl9 : (decide (0 < (k0 : Int)) && !slxB (runesL xp) (runesL x0)) = false := by
     by_cases hk0 : 0 < k0
     · have hsl := hoo.srt (k0 - 1) xp x0 (by rw [hxpe]; exact getD_at (by omega)) (by rw [show k0 - 1 + 1 = k0 by omega]; exact hx0)
       rw [hsl]; simp
     · rw [decide_eq_false (by omega)]; rfl
   rw [hr1, hsl9, decide_eq_false (by omega)] at ht98
   exact absurd ht98 (by decide)
  refine wc_skip <| wc_region <| wl_mv M rfl rfl <| wl_m M (q_add rfl rfl (IntWalk.i64_in _ (by omega))) rfl rfl ?_
  refine wl_as M rfl rfl <| wl_nil ?_
  refine ⟨(k0 + 1), ?_, ⟨(by omega), M⟩, ⟨rfl, trivial⟩, unw_look rfl (unw_hav rfl (unw_look rfl unw_base))⟩
  show o39.length - (k0 + 1) < o39.length - k0
  omega
 have hke0 : k0 = o39.length := by omega
 refine wc_exit rfl ?_
 refine wc_seq <| wc_region <| wl_mv M rfl rfl <| wl_m M (q_cvII (k' := .i64) (r' := ls) (by rw [Try.underlying5]; rfl) Try.underlying3 (IntWalk.i64_in _ (by omega)) rfl) rfl rfl ?_
 refine wl_mv M rfl rfl <| wl_m M (q_add rfl rfl (IntWalk.i64_in _ (by omega))) rfl rfl ?_
 refine wl_m M (q_rem rfl rfl (by omega)) rfl rfl ?_
 refine wl_as M rfl rfl <| wl_nil ?_
 refine wc_seq <| wc_region <| wl_m M (q_ldbA 0 Try.underlying25 rfl sz25 rfl rfl rfl rfl) rfl rfl <| wl_mv M rfl rfl <| wl_mv M rfl rfl <| wl_e (e_callC M (outputs_c t x (ls.tmod (n.tmod 12 + 1)) (by omega) (fun _ => Nat.le_trans (Nat.mul_le_mul (show x.size + 1 ≤ 21 by omega) (show t.arcs.length ≤ 100 by omega)) (by decide)) (alph_hun (by omega)) M.imm ⟨_, _, rfl, (Rf1.mono hJ39), (Ra1.mono hJ39)⟩) Try.func14 rfl rfl) rfl rfl ?_
 rintro _ w13 ⟨J108, hJ108, ⟨u108, o108, e108, rfl, R108, hk108⟩, M⟩
 have hoJ108 := M.old
 refine wl_mv M rfl rfl <| wl_m M (q_ext rfl rfl) rfl rfl <| wl_m M (q_ext rfl rfl) rfl rfl <| wl_as M rfl rfl <| wl_as M rfl rfl <| wl_nil ?_
 refine wc_seq <| wc_region <| wl_as M rfl rfl <| wl_nil ?_
 refine wc_seq <| wc_block ?_
 refine wc_loop (α := Nat) [16, 111, 112, 113, 114, 115, 116, 117, 118, 119, 120, 121, 122, 123, 124, 125, 126] (fun (ct : Nat) => [(16, .int .i64 (ct : Int))])
   (fun (ct : Nat) w' => (ct ≤ o39.length) ∧ (∀ s ∈ o39.take ct, ((runesL s).length : Int) ≤ (ls.tmod (n.tmod 12 + 1))) ∧ Mem w I J108 (box b4 25 [.int .i64 t.states, .int .i64 t.start, sv fu1, sv au1] :: []) w')
   (fun (ct : Nat) => o39.length - ct) (0) ⟨rfl, trivial⟩ ?_ ?_
 ·refine ⟨(Nat.zero_le _), (by simp), ?_⟩
  exact M
 rintro ct jj2 w14 ⟨hcl, hcj, M⟩
 have hoJ108 := M.old
 obtain ⟨yc, hyc⟩ : ∃ y_, y_ = o39.getD ct ⟨#[]⟩ := ⟨_, rfl⟩
 refine wc_seq ?_
 refine wc_seq ?_
 refine wc_join (α := Unit) [111, 112, 113, 114, 115, 116, 117, 118, 119, 120, 121, 122, 123, 124] (fun _ => [(124, .bool ((decide ((ct : Int) < (o39.length : Int))) && (decide (((runesL yc).length : Int) ≤ (ls.tmod ((n.tmod 12) + 1))))))]) (fun _ w' => Mem w I J108 (box b4 25 [.int .i64 t.states, .int .i64 t.start, sv fu1, sv au1] :: []) w') ?_ ?_
 ·refine wc_region <| wl_mv M rfl rfl <| wl_mv M rfl rfl <| wl_m M (q_lenR (R39.mono hJ108) Try.underlying30 rfl) rfl rfl <| wl_m M (q_lss rfl rfl) rfl rfl <| wl_mv M rfl rfl ?_
  rcases Bool.eq_false_or_eq_true (decide ((ct : Int) < (o39.length : Int))) with hg115 | hg115
  ·refine wl_m M (q_guard 4 rfl rfl rfl hg115 (q_move rfl)) rfl rfl <| wl_m M (q_guard 4 rfl rfl rfl hg115 (q_move rfl)) rfl rfl ?_
   have hct : ct < o39.length := by have := of_decide_eq_true hg115; omega
   have hyx : o39[ct]? = some yc := by rw [hyc]; exact getD_at hct
   have hyl := (hoo.len yc (List.mem_of_getElem? hyx)).2
   refine wl_ixG (j := ct) 4 rfl rfl rfl hg115 M (R39.mono hJ108) Try.underlying30 rfl (ixe (by omega)) hyx rfl (fun b118 o118 p118 => ?_)
   refine wl_m M (q_guard 4 rfl rfl rfl hg115 (q_ldp p118 rfl rfl)) rfl rfl <| wl_e (e_guard 4 rfl rfl rfl hg115 (e_cvRI (E := ERune) (s := yc) M (fun _ => rfl) Try.underlying9 Try.underlying40 Try.underlying21 (by omega) rfl)) rfl rfl ?_
   rintro v120 w15 ⟨J120, hJ120, R120, M⟩
   obtain ⟨u120, rfl⟩ := rdSl_slice R120
   have hoJ120 := M.old
   replace R120 : rdSl ERune J120 (sv u120) (runesL yc) := R120
   refine wl_m M (q_guard 4 rfl rfl rfl hg115 (q_lenR R120 Try.underlying40 rfl)) rfl rfl <| wl_m M (q_guard 4 rfl rfl rfl hg115 (q_move rfl)) rfl rfl <| wl_m M (q_guard 4 rfl rfl rfl hg115 (q_leq rfl rfl)) rfl rfl <| wl_m M (q_pickT rfl hg115 rfl) rfl rfl <| wl_nil ?_
   replace M := M.less hJ120 hoJ108
   exact ⟨(), M, ⟨(show some (Value.bool (decide (((runesL yc).length : Int) ≤ (ls.tmod ((n.tmod 12) + 1))))) = some (Value.bool ((decide ((ct : Int) < (o39.length : Int))) && (decide (((runesL yc).length : Int) ≤ (ls.tmod ((n.tmod 12) + 1)))))) from by first | (simp only [hg115, bL8]; done) | (simp_all; done) | (simp_all; omega)), trivial⟩, unw_take 14 rfl rfl⟩
  refine wl_m M (q_off 4 rfl rfl rfl hg115) rfl rfl <| wl_m M (q_off 4 rfl rfl rfl hg115) rfl rfl <| wl_m M (q_off 4 rfl rfl rfl hg115) rfl rfl <| wl_m M (q_off 4 rfl rfl rfl hg115) rfl rfl <| wl_m M (q_off 4 rfl rfl rfl hg115) rfl rfl <| wl_m M (q_off 4 rfl rfl rfl hg115) rfl rfl <| wl_m M (q_off 4 rfl rfl rfl hg115) rfl rfl <| wl_m M (q_off 4 rfl rfl rfl hg115) rfl rfl <| wl_m M (q_pickF rfl hg115 rfl) rfl rfl <| wl_nil ?_
  exact ⟨(), M, ⟨(show some (Value.bool false) = some (Value.bool ((decide ((ct : Int) < (o39.length : Int))) && (decide (((runesL yc).length : Int) ≤ (ls.tmod ((n.tmod 12) + 1)))))) from by first | (simp only [hg115, bL8]; done) | (simp_all; done) | (simp_all; omega)), trivial⟩, unw_take 14 rfl rfl⟩
 rintro _ jr15 w16 M
 refine wc_cond rfl (fun ht124 => ?_) (fun ht124 => ?_)
 ·have h124 : (ct : Int) < o39.length ∧ ((runesL yc).length : Int) ≤ (ls.tmod (n.tmod 12 + 1)) := by simpa using ht124
  have hyx : o39[ct]? = some yc := by rw [hyc]; exact getD_at (by omega)
  refine wc_skip <| wc_block <| wc_region <| wl_mv M rfl rfl <| wl_m M (q_add rfl rfl (IntWalk.i64_in _ (by omega))) rfl rfl ?_
  refine wl_as M rfl rfl <| wl_nil ?_
  refine ⟨(ct + 1), ?_, ⟨(by omega), (by rw [take_snoc hyx]; intro s hs; rcases List.mem_append.1 hs with k | k; exact hcj s k; rw [List.mem_singleton.1 k]; exact h124.2), M⟩, ⟨rfl, trivial⟩, unw_look rfl (unw_hav rfl (unw_look rfl unw_base))⟩
  show o39.length - (ct + 1) < o39.length - ct
  omega
 have hst : ct = o39.length ∨ ∃ s, o39[ct]? = some s ∧ (ls.tmod (n.tmod 12 + 1)) < ((runesL s).length : Int) := by
   by_cases hc : ct < o39.length
   · refine .inr ⟨yc, by rw [hyc]; exact getD_at hc, ?_⟩
     rw [decide_eq_true (show (ct : Int) < o39.length by omega), Bool.true_and] at ht124
     have := of_decide_eq_false ht124
     omega
   · left; omega
 have hpre := out_pre hk39 hk108 hj0_ (by omega) hcl hcj hst
 refine wc_exit rfl ?_
 refine wc_seq ?_
 refine wc_join (α := Unit) [8, 127, 128, 129, 130, 131, 132, 133, 134, 135, 136, 137, 138] (fun _ => [(8, .bool ((true && true) && true))]) (fun _ w' => Mem w I J108 (box b4 25 [.int .i64 t.states, .int .i64 t.start, sv fu1, sv au1] :: []) w') ?_ ?_
 ·refine wc_region <| wl_e (e_callC M (awake3_c M.imm) Try.func12 rfl rfl) rfl rfl ?_
  rintro _ w17 ⟨J127, hJ127, rfl, M⟩
  replace M := M.less hJ127 hoJ108
  refine wl_mv M rfl rfl <| wl_m M (q_guard 1 rfl rfl rfl rfl (q_move rfl)) rfl rfl <| wl_m M (q_guard 1 rfl rfl rfl rfl (q_to (congrArg Value.bool (decide_eq_true hpre.1)) (q_eql rfl rfl))) rfl rfl <| wl_m M (q_pickT rfl rfl rfl) rfl rfl <| wl_mv M rfl rfl <| wl_m M (q_guard 5 rfl rfl rfl rfl (q_move rfl)) rfl rfl <| wl_m M (q_guard 5 rfl rfl rfl rfl (q_move rfl)) rfl rfl <| wl_m M (q_guard 5 rfl rfl rfl rfl (q_move rfl)) rfl rfl ?_
  have R136 := rdTake (k := ct) (R39.mono hJ108) hcl
  refine wl_m M (q_guard 5 rfl rfl rfl rfl (q_takeV (E := EStr) (k := ct) Try.underlying30 rfl rfl (Nat.le_trans hcl (rd_cap3 (R39.mono hJ108))))) rfl rfl <| wl_e (e_guard 5 rfl rfl rfl rfl (e_callC M (bool_to (decide_eq_true hpre.2) (texts3_c M.imm R108 R136)) Try.func23 rfl rfl)) rfl rfl ?_
  rintro _ w18 ⟨J137, hJ137, rfl, M⟩
  replace M := M.less hJ137 hoJ108
  refine wl_m M (q_pickT rfl rfl rfl) rfl rfl <| wl_as M rfl rfl <| wl_nil ?_
  exact ⟨(), M, ⟨rfl, trivial⟩, unw_take 13 rfl rfl⟩
 rintro _ jr17 w19 M
 refine wc_ret ?_
 exact out1 rfl rfl ⟨_, _, rfl, M.grow, rfl⟩
end Go.Proofs.Ytfepjcmjkaolgaa.G
