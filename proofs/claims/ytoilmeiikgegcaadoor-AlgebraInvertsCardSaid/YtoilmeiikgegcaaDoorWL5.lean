/- Walks of the program's functions. -/
import Derived.Test.YtoilmeiikgegcaaDoorWLc
set_option linter.all false
namespace Go.Proofs.YtoilmeiikgegcaaDoor.G
open Go Go.RowKit
theorem lawInverts4_c (a : Tra) (x y : ByteArray) {v1 : Value} {I : Heap} {w : World} (hI : hle I (hp w)) (hT : Tabs I) (R1 : a.rd I v1) : Calls A 9 #[v1, .string x, .string y] w (Ret w I fun r _ => r = .bool true) := by
 obtain ⟨fu1, au1, rfl, Rf1, Ra1⟩ := R1
 have M := Mem.start hI
 refine enter Tryd.func9 rfl 80 Tryd.ntmps9 [_, _, _] rfl ?_
 refine wc_seq ?_
 refine wc_region ?_
 refine wl_e (e_box M rfl) rfl rfl ?_
 rintro _ w1 ⟨b3, rfl, M⟩
 refine wl_as M rfl rfl ?_
 refine wl_nil ?_
 refine wc_seq ?_
 refine wc_seq ?_
 refine wc_region ?_
 refine wl_e (e_callC M (awake4_c M.imm hT) Tryd.func14 rfl rfl) rfl rfl ?_
 rintro _ w2 ⟨J12, hJ12, rfl, M⟩
 replace M := M.less hJ12 (fun _ _ => rfl)
 refine wl_m M (q_not rfl) rfl rfl ?_
 refine wl_nil ?_
 refine wc_cond rfl (fun ht13 => ?_) (fun ht13 => ?_)
 ·refine wc_seq ?_
  refine wc_region ?_
  refine wl_as M rfl rfl ?_
  refine wl_nil ?_
  refine wc_ret ?_
  exact absurd ht13 (by decide)
 refine wc_skip ?_
 refine wc_seq ?_
 refine wc_seq ?_
 refine wc_join (α := Unit) [14, 15, 16, 17, 18, 19, 20, 21, 22, 23, 24, 25, 26, 27, 28, 29, 30, 31, 32, 33, 34, 35, 36, 37, 38, 39, 40, 41] (fun _ => [(41, .bool (((((!([a].all smallB)) || (decide (20 < (x.size : Int)))) || (decide (20 < (y.size : Int)))) || (!decide ((strL (runesL x)) = x))) || (!decide ((strL (runesL y)) = y))))]) (fun _ w' => Mem w I I (box b3 29 [.int .i64 a.states, .int .i64 a.start, sv fu1, sv au1] :: []) w') ?_ ?_
 ·refine wc_region ?_
  refine wl_m M (q_ldbA 0 Tryd.underlying29 rfl sz29 rfl rfl rfl rfl) rfl rfl ?_
  refine wl_e (e_bsI (E := ETra) (xs := [(RTra.mk a.states a.start fu1 au1)]) M (bs_66_1 _ _ _ _) ⟨⟨rfl, rfl⟩, trivial⟩ rfl rfl (by decide)) rfl rfl ?_
  rintro _ w3 ⟨u15, J15, rfl, hJ15, R15, M⟩
  have hoJ15 := M.old
  refine wl_e (e_callC M (small4_c M.imm (rdTras1 R15 (Rf1.mono hJ15) (Ra1.mono hJ15))) Tryd.func21 rfl rfl) rfl rfl ?_
  rintro _ w4 ⟨J16, hJ16, rfl, M⟩
  replace M := M.less hJ16 hoJ15
  refine wl_m M (q_not rfl) rfl rfl ?_
  refine wl_mv M rfl rfl ?_
  rcases Bool.eq_false_or_eq_true (!([a].all smallB)) with hg18 | hg18
  ·refine wl_m M (q_off 4 rfl rfl rfl hg18) rfl rfl ?_
   refine wl_m M (q_off 4 rfl rfl rfl hg18) rfl rfl ?_
   refine wl_m M (q_off 4 rfl rfl rfl hg18) rfl rfl ?_
   refine wl_m M (q_pickT rfl hg18 rfl) rfl rfl ?_
   refine wl_mv M rfl rfl ?_
   refine wl_m M (q_off 9 rfl rfl rfl rfl) rfl rfl ?_
   refine wl_m M (q_off 9 rfl rfl rfl rfl) rfl rfl ?_
   refine wl_m M (q_off 9 rfl rfl rfl rfl) rfl rfl ?_
   refine wl_m M (q_pickT rfl rfl rfl) rfl rfl ?_
   refine wl_mv M rfl rfl ?_
   refine wl_m M (q_off 14 rfl rfl rfl rfl) rfl rfl ?_
   refine wl_m M (q_off 14 rfl rfl rfl rfl) rfl rfl ?_
   refine wl_m M (q_off 14 rfl rfl rfl rfl) rfl rfl ?_
   refine wl_m M (q_off 14 rfl rfl rfl rfl) rfl rfl ?_
   refine wl_m M (q_off 14 rfl rfl rfl rfl) rfl rfl ?_
   refine wl_m M (q_pickT rfl rfl rfl) rfl rfl ?_
   refine wl_mv M rfl rfl ?_
   refine wl_m M (q_off 21 rfl rfl rfl rfl) rfl rfl ?_
   refine wl_m M (q_off 21 rfl rfl rfl rfl) rfl rfl ?_
   refine wl_m M (q_off 21 rfl rfl rfl rfl) rfl rfl ?_
   refine wl_m M (q_off 21 rfl rfl rfl rfl) rfl rfl ?_
   refine wl_m M (q_off 21 rfl rfl rfl rfl) rfl rfl ?_
   refine wl_m M (q_pickT rfl rfl rfl) rfl rfl ?_
   refine wl_nil ?_
   replace M := M.less hJ15 (fun _ _ => rfl)
   exact ⟨(), M, ⟨(show some (Value.bool true) = some (Value.bool (((((!([a].all smallB)) || (decide (20 < (x.size : Int)))) || (decide (20 < (y.size : Int)))) || (!decide ((strL (runesL x)) = x))) || (!decide ((strL (runesL y)) = y)))) from by first | (simp only [hg18, Bool.true_or, Bool.false_or, Bool.true_and, Bool.false_and, Bool.or_true, Bool.or_false, Bool.and_true, Bool.and_false]; done) | simp_all), trivial⟩, unw_take 28 rfl rfl⟩
  refine wl_m M (q_guard 4 rfl rfl rfl hg18 (q_move rfl)) rfl rfl ?_
  refine wl_m M (q_guard 4 rfl rfl rfl hg18 (q_lenStr Tryd.underlying9 rfl)) rfl rfl ?_
  refine wl_m M (q_guard 4 rfl rfl rfl hg18 (q_gtr rfl rfl)) rfl rfl ?_
  refine wl_m M (q_pickF rfl hg18 rfl) rfl rfl ?_
  refine wl_mv M rfl rfl ?_
  rcases Bool.eq_false_or_eq_true (decide (20 < (x.size : Int))) with hg23 | hg23
  ·refine wl_m M (q_off 9 rfl rfl rfl hg23) rfl rfl ?_
   refine wl_m M (q_off 9 rfl rfl rfl hg23) rfl rfl ?_
   refine wl_m M (q_off 9 rfl rfl rfl hg23) rfl rfl ?_
   refine wl_m M (q_pickT rfl hg23 rfl) rfl rfl ?_
   refine wl_mv M rfl rfl ?_
   refine wl_m M (q_off 14 rfl rfl rfl rfl) rfl rfl ?_
   refine wl_m M (q_off 14 rfl rfl rfl rfl) rfl rfl ?_
   refine wl_m M (q_off 14 rfl rfl rfl rfl) rfl rfl ?_
   refine wl_m M (q_off 14 rfl rfl rfl rfl) rfl rfl ?_
   refine wl_m M (q_off 14 rfl rfl rfl rfl) rfl rfl ?_
   refine wl_m M (q_pickT rfl rfl rfl) rfl rfl ?_
   refine wl_mv M rfl rfl ?_
   refine wl_m M (q_off 21 rfl rfl rfl rfl) rfl rfl ?_
   refine wl_m M (q_off 21 rfl rfl rfl rfl) rfl rfl ?_
   refine wl_m M (q_off 21 rfl rfl rfl rfl) rfl rfl ?_
   refine wl_m M (q_off 21 rfl rfl rfl rfl) rfl rfl ?_
   refine wl_m M (q_off 21 rfl rfl rfl rfl) rfl rfl ?_
   refine wl_m M (q_pickT rfl rfl rfl) rfl rfl ?_
   refine wl_nil ?_
   replace M := M.less hJ15 (fun _ _ => rfl)
   exact ⟨(), M, ⟨(show some (Value.bool true) = some (Value.bool (((((!([a].all smallB)) || (decide (20 < (x.size : Int)))) || (decide (20 < (y.size : Int)))) || (!decide ((strL (runesL x)) = x))) || (!decide ((strL (runesL y)) = y)))) from by first | (simp only [hg18, hg23, Bool.true_or, Bool.false_or, Bool.true_and, Bool.false_and, Bool.or_true, Bool.or_false, Bool.and_true, Bool.and_false]; done) | simp_all), trivial⟩, unw_take 28 rfl rfl⟩
  refine wl_m M (q_guard 9 rfl rfl rfl hg23 (q_move rfl)) rfl rfl ?_
  refine wl_m M (q_guard 9 rfl rfl rfl hg23 (q_lenStr Tryd.underlying9 rfl)) rfl rfl ?_
  refine wl_m M (q_guard 9 rfl rfl rfl hg23 (q_gtr rfl rfl)) rfl rfl ?_
  refine wl_m M (q_pickF rfl hg23 rfl) rfl rfl ?_
  refine wl_mv M rfl rfl ?_
  rcases Bool.eq_false_or_eq_true (decide (20 < (y.size : Int))) with hg28 | hg28
  ·refine wl_m M (q_off 14 rfl rfl rfl hg28) rfl rfl ?_
   refine wl_m M (q_off 14 rfl rfl rfl hg28) rfl rfl ?_
   refine wl_m M (q_off 14 rfl rfl rfl hg28) rfl rfl ?_
   refine wl_m M (q_off 14 rfl rfl rfl hg28) rfl rfl ?_
   refine wl_m M (q_off 14 rfl rfl rfl hg28) rfl rfl ?_
   refine wl_m M (q_pickT rfl hg28 rfl) rfl rfl ?_
   refine wl_mv M rfl rfl ?_
   refine wl_m M (q_off 21 rfl rfl rfl rfl) rfl rfl ?_
   refine wl_m M (q_off 21 rfl rfl rfl rfl) rfl rfl ?_
   refine wl_m M (q_off 21 rfl rfl rfl rfl) rfl rfl ?_
   refine wl_m M (q_off 21 rfl rfl rfl rfl) rfl rfl ?_
   refine wl_m M (q_off 21 rfl rfl rfl rfl) rfl rfl ?_
   refine wl_m M (q_pickT rfl rfl rfl) rfl rfl ?_
   refine wl_nil ?_
   replace M := M.less hJ15 (fun _ _ => rfl)
   exact ⟨(), M, ⟨(show some (Value.bool true) = some (Value.bool (((((!([a].all smallB)) || (decide (20 < (x.size : Int)))) || (decide (20 < (y.size : Int)))) || (!decide ((strL (runesL x)) = x))) || (!decide ((strL (runesL y)) = y)))) from by first | (simp only [hg18, hg23, hg28, Bool.true_or, Bool.false_or, Bool.true_and, Bool.false_and, Bool.or_true, Bool.or_false, Bool.and_true, Bool.and_false]; done) | simp_all), trivial⟩, unw_take 28 rfl rfl⟩
  refine wl_m M (q_guard 14 rfl rfl rfl hg28 (q_move rfl)) rfl rfl ?_
  have hsz2 : x.size ≤ 20 ∧ y.size ≤ 20 := by have h1 := of_decide_eq_false hg23; have h2 := of_decide_eq_false hg28; omega
  obtain ⟨hs1, hs2⟩ := hsz2
  refine wl_e (e_guard 14 rfl rfl rfl hg28 (e_cvRI (E := ERune) (s := x) M (fun _ => rfl) Tryd.underlying9 Tryd.underlying47 Tryd.underlying21 (by omega) rfl)) rfl rfl ?_
  rintro v30 w5 ⟨J30, hJ30, R30, M⟩
  obtain ⟨u30, rfl⟩ := rdSl_slice R30
  have hoJ30 := M.old
  replace R30 : rdSl ERune J30 (sv u30) (runesL x) := R30
  refine wl_m M (q_guard 14 rfl rfl rfl hg28 (q_cvS (E := ERune) (fun _ => rfl) rfl (fun _ M => R30.mono M.imm) Tryd.underlying47 Tryd.underlying21 Tryd.underlying9 rfl)) rfl rfl ?_
  refine wl_m M (q_guard 14 rfl rfl rfl hg28 (q_move rfl)) rfl rfl ?_
  refine wl_m M (q_guard 14 rfl rfl rfl hg28 (q_neqS rfl rfl)) rfl rfl ?_
  refine wl_m M (q_pickF rfl hg28 rfl) rfl rfl ?_
  refine wl_mv M rfl rfl ?_
  rcases Bool.eq_false_or_eq_true (!decide ((strL (runesL x)) = x)) with hg35 | hg35
  ·refine wl_m M (q_off 21 rfl rfl rfl hg35) rfl rfl ?_
   refine wl_m M (q_off 21 rfl rfl rfl hg35) rfl rfl ?_
   refine wl_m M (q_off 21 rfl rfl rfl hg35) rfl rfl ?_
   refine wl_m M (q_off 21 rfl rfl rfl hg35) rfl rfl ?_
   refine wl_m M (q_off 21 rfl rfl rfl hg35) rfl rfl ?_
   refine wl_m M (q_pickT rfl hg35 rfl) rfl rfl ?_
   refine wl_nil ?_
   replace M := M.less (hle.trans hJ15 hJ30) (fun _ _ => rfl)
   exact ⟨(), M, ⟨(show some (Value.bool true) = some (Value.bool (((((!([a].all smallB)) || (decide (20 < (x.size : Int)))) || (decide (20 < (y.size : Int)))) || (!decide ((strL (runesL x)) = x))) || (!decide ((strL (runesL y)) = y)))) from by first | (simp only [hg18, hg23, hg28, hg35, Bool.true_or, Bool.false_or, Bool.true_and, Bool.false_and, Bool.or_true, Bool.or_false, Bool.and_true, Bool.and_false]; done) | simp_all), trivial⟩, unw_take 28 rfl rfl⟩
  refine wl_m M (q_guard 21 rfl rfl rfl hg35 (q_move rfl)) rfl rfl ?_
  refine wl_e (e_guard 21 rfl rfl rfl hg35 (e_cvRI (E := ERune) (s := y) M (fun _ => rfl) Tryd.underlying9 Tryd.underlying47 Tryd.underlying21 (by omega) rfl)) rfl rfl ?_
  rintro v37 w6 ⟨J37, hJ37, R37, M⟩
  obtain ⟨u37, rfl⟩ := rdSl_slice R37
  have hoJ37 := M.old
  replace R37 : rdSl ERune J37 (sv u37) (runesL y) := R37
  refine wl_m M (q_guard 21 rfl rfl rfl hg35 (q_cvS (E := ERune) (fun _ => rfl) rfl (fun _ M => R37.mono M.imm) Tryd.underlying47 Tryd.underlying21 Tryd.underlying9 rfl)) rfl rfl ?_
  refine wl_m M (q_guard 21 rfl rfl rfl hg35 (q_move rfl)) rfl rfl ?_
  refine wl_m M (q_guard 21 rfl rfl rfl hg35 (q_neqS rfl rfl)) rfl rfl ?_
  refine wl_m M (q_pickF rfl hg35 rfl) rfl rfl ?_
  refine wl_nil ?_
  replace M := M.less (hle.trans (hle.trans hJ15 hJ30) hJ37) (fun _ _ => rfl)
  exact ⟨(), M, ⟨(show some (Value.bool (!decide ((strL (runesL y)) = y))) = some (Value.bool (((((!([a].all smallB)) || (decide (20 < (x.size : Int)))) || (decide (20 < (y.size : Int)))) || (!decide ((strL (runesL x)) = x))) || (!decide ((strL (runesL y)) = y)))) from by first | (simp only [hg18, hg23, hg28, hg35, Bool.true_or, Bool.false_or, Bool.true_and, Bool.false_and, Bool.or_true, Bool.or_false, Bool.and_true, Bool.and_false]; done) | simp_all), trivial⟩, unw_take 28 rfl rfl⟩
 rintro _ jr3 w7 M
 refine wc_cond rfl (fun ht41 => ?_) (fun ht41 => ?_)
 ·refine wc_seq ?_
  refine wc_region ?_
  refine wl_as M rfl rfl ?_
  refine wl_nil ?_
  refine wc_ret ?_
  exact out1 rfl rfl ⟨_, _, rfl, M.grow, rfl⟩
 have hex : strL (runesL x) = x := by
   by_cases h : strL (runesL x) = x
   · exact h
   · simp [h] at ht41
 have hey : strL (runesL y) = y := by
   by_cases h : strL (runesL y) = y
   · exact h
   · simp [h] at ht41
 have hsm : ([a].all smallB) = true := by revert ht41; generalize ([a].all smallB) = q; cases q <;> simp
 rw [hsm] at ht41
 have hxy : x.size ≤ 20 ∧ y.size ≤ 20 := by simp at ht41; omega
 obtain ⟨hsx, hsy⟩ := hxy
 obtain ⟨hva, hla, hza⟩ := small1 hsm
 have hfa := valid_fin hva
 refine wc_skip ?_
 refine wc_seq ?_
 refine wc_region ?_
 refine wl_m M (q_ldbA 0 Tryd.underlying29 rfl sz29 rfl rfl rfl rfl) rfl rfl ?_
 refine wl_mv M rfl rfl ?_
 refine wl_mv M rfl rfl ?_
 refine wl_e (e_callC M (relates_c a x y (by omega) (by omega) (Nat.le_trans (Nat.mul_le_mul (show x.size + 1 ≤ 21 by omega) (show y.size + 1 ≤ 21 by omega)) (by decide)) M.imm ⟨_, _, rfl, Rf1, Ra1⟩) Tryd.func20 rfl rfl) rfl rfl ?_
 rintro _ w8 ⟨J45, hJ45, rfl, M⟩
 replace M := M.less hJ45 (fun _ _ => rfl)
 refine wl_as M rfl rfl ?_
 refine wl_nil ?_
 refine wc_seq ?_
 refine wc_region ?_
 refine wl_m M (q_ldbA 0 Tryd.underlying29 rfl sz29 rfl rfl rfl rfl) rfl rfl ?_
 refine wl_e (e_callC M (invert_c a M.imm ⟨_, _, rfl, Rf1, Ra1⟩) Tryd.func25 rfl rfl) rfl rfl ?_
 rintro _ w9 ⟨J48, hJ48, ⟨_, t48, e48, rfl, ⟨fu48, au48, rfl, Rf48, Ra48⟩, hc48⟩, M⟩
 have hoJ48 := M.old
 refine wl_mv M rfl rfl ?_
 refine wl_m M (q_ext rfl rfl) rfl rfl ?_
 refine wl_m M (q_ext rfl rfl) rfl rfl ?_
 refine wl_e (e_alloc M z29) rfl rfl ?_
 rintro _ w10 ⟨b8, rfl, M⟩
 refine wl_e0 (e_stW 0 M rfl rfl rfl sz29 rfl rfl) rfl ?_
 intro _ w11 M
 simp only [sC0, sCS] at M
 refine wl_as M rfl rfl ?_
 refine wl_nil ?_
 refine wc_seq ?_
 refine wc_region ?_
 refine wl_m M (q_ldbA 1 Tryd.underlying29 rfl sz29 rfl rfl rfl rfl) rfl rfl ?_
 refine wl_e (e_callC M (reverse_c a M.imm ⟨_, _, rfl, (Rf1.mono hJ48), (Ra1.mono hJ48)⟩) Tryd.func32 rfl rfl) rfl rfl ?_
 rintro _ w12 ⟨J53, hJ53, ⟨_, t53, e53, rfl, ⟨fu53, au53, rfl, Rf53, Ra53⟩, hc53⟩, M⟩
 have hoJ53 := M.old
 refine wl_mv M rfl rfl ?_
 refine wl_m M (q_ext rfl rfl) rfl rfl ?_
 refine wl_m M (q_ext rfl rfl) rfl rfl ?_
 refine wl_e (e_alloc M z29) rfl rfl ?_
 rintro _ w13 ⟨b10, rfl, M⟩
 refine wl_e0 (e_stW 0 M rfl rfl rfl sz29 rfl rfl) rfl ?_
 intro _ w14 M
 simp only [sC0, sCS] at M
 refine wl_as M rfl rfl ?_
 refine wl_nil ?_
 refine wc_seq ?_
 refine wc_join (α := Unit) [6, 56, 57, 58, 59, 60, 61, 62, 63, 64, 65, 66, 67, 68, 69, 70, 71, 72, 73, 74, 75, 76, 77, 78, 79] (fun _ => [(6, .bool ((((decide (e48 = 0)) && (decide (e53 = 0))) && ((relS t48 y x) == (relS a x y))) && ((relS t53 (revS x) (revS y)) == (relS a x y))))]) (fun _ w' => Mem w I J53 (box b10 29 [.int .i64 t53.states, .int .i64 t53.start, sv fu53, sv au53] :: box b8 29 [.int .i64 t48.states, .int .i64 t48.start, sv fu48, sv au48] :: box b3 29 [.int .i64 a.states, .int .i64 a.start, sv fu1, sv au1] :: []) w') ?_ ?_
 ·refine wc_draws (fun w' => Mem w I J53 (box b10 29 [.int .i64 t53.states, .int .i64 t53.start, sv fu53, sv au53] :: box b8 29 [.int .i64 t48.states, .int .i64 t48.start, sv fu48, sv au48] :: box b3 29 [.int .i64 a.states, .int .i64 a.start, sv fu1, sv au1] :: []) w' ∧ True) [] fol ?_
  replace M := M.drew
  have hS := (⟨M, trivial⟩ : _ ∧ _)
  refine wa_q 0 rfl (by kernel_rfl) (q_move rfl) hS rfl rfl ?_
  refine wa_q 1 rfl (by kernel_rfl) (q_eql rfl rfl) hS rfl rfl ?_
  refine wa_q 2 rfl (by kernel_rfl) (q_move rfl) hS rfl rfl ?_
  rcases Bool.eq_false_or_eq_true (decide (e48 = 0)) with hg58 | hg58
  ·refine wa_q 3 rfl (by kernel_rfl) (q_guard 2 rfl rfl rfl hg58 (q_move rfl)) hS rfl rfl ?_
   refine wa_q 4 rfl (by kernel_rfl) (q_guard 2 rfl rfl rfl hg58 (q_eql rfl rfl)) hS rfl rfl ?_
   refine wa_q 5 rfl (by kernel_rfl) (q_pickT rfl hg58 rfl) hS rfl rfl ?_
   refine wa_q 6 rfl (by kernel_rfl) (q_move rfl) hS rfl rfl ?_
   rcases Bool.eq_false_or_eq_true (decide (e53 = 0)) with hg62 | hg62
   ·refine wa_q 7 rfl (by kernel_rfl) ((q_guard 6 rfl rfl rfl hg62 (q_ldbA 1 Tryd.underlying29 rfl sz29 rfl rfl rfl rfl)).mono fun _ h => h.1) hS rfl rfl ?_
    refine wa_q 8 rfl (by kernel_rfl) (q_guard 6 rfl rfl rfl hg62 (q_move rfl)) hS rfl rfl ?_
    refine wa_q 9 rfl (by kernel_rfl) (q_guard 6 rfl rfl rfl hg62 (q_move rfl)) hS rfl rfl ?_
    refine wa_q 11 rfl (by kernel_rfl) (q_guard 6 rfl rfl rfl hg62 (q_move rfl)) hS rfl rfl ?_
    refine wa_e 10 rfl (by kernel_rfl) (e_guard 6 rfl rfl rfl hg62 (e_callC M (relates_c t48 y x (by omega) (by omega) (Nat.le_trans (Nat.mul_le_mul (show y.size + 1 ≤ 21 by omega) (show x.size + 1 ≤ 21 by omega)) (by decide)) M.imm ⟨_, _, rfl, (Rf48.mono hJ53), (Ra48.mono hJ53)⟩) Tryd.func20 rfl rfl)) rfl rfl ?_
    rintro _ w15 ⟨J66, hJ66, rfl, M⟩
    have hS := (⟨(M.less hJ66 hoJ53), trivial⟩ : _ ∧ _)
    refine ⟨fun _ => hS, ?_⟩
    replace M := M.less hJ66 hoJ53
    refine wa_q 12 rfl (by kernel_rfl) (q_guard 6 rfl rfl rfl hg62 (q_eqlB Tryd.underlying4 rfl rfl)) hS rfl rfl ?_
    refine wa_q 13 rfl (by kernel_rfl) (q_pickT rfl hg62 rfl) hS rfl rfl ?_
    refine wa_q 14 rfl (by kernel_rfl) (q_move rfl) hS rfl rfl ?_
    rcases Bool.eq_false_or_eq_true ((relS t48 y x) == (relS a x y)) with hg70 | hg70
    ·refine wa_q 15 rfl (by kernel_rfl) ((q_guard 14 rfl rfl rfl hg70 (q_ldbA 0 Tryd.underlying29 rfl sz29 rfl rfl rfl rfl)).mono fun _ h => h.1) hS rfl rfl ?_
     refine wa_q 16 rfl (by kernel_rfl) (q_guard 14 rfl rfl rfl hg70 (q_move rfl)) hS rfl rfl ?_
     refine wa_q 18 rfl (by kernel_rfl) (q_guard 14 rfl rfl rfl hg70 (q_move rfl)) hS rfl rfl ?_
     refine wa_q 21 rfl (by kernel_rfl) (q_guard 14 rfl rfl rfl hg70 (q_move rfl)) hS rfl rfl ?_
     refine wa_e 17 rfl (by kernel_rfl) (e_guard 14 rfl rfl rfl hg70 (e_callC M (reversed_c x (by omega) M.imm) Tryd.func34 rfl rfl)) rfl rfl ?_
     rintro _ w16 ⟨J73, hJ73, rfl, M⟩
     have hS := (⟨(M.less hJ73 hoJ53), trivial⟩ : _ ∧ _)
     refine ⟨fun _ => hS, ?_⟩
     replace M := M.less hJ73 hoJ53
     refine wa_e 19 rfl (by kernel_rfl) (e_guard 14 rfl rfl rfl hg70 (e_callC M (reversed_c y (by omega) M.imm) Tryd.func34 rfl rfl)) rfl rfl ?_
     rintro _ w17 ⟨J75, hJ75, rfl, M⟩
     have hS := (⟨(M.less hJ75 hoJ53), trivial⟩ : _ ∧ _)
     refine ⟨fun _ => hS, ?_⟩
     replace M := M.less hJ75 hoJ53
     refine wa_e 20 rfl (by kernel_rfl) (e_guard 14 rfl rfl rfl hg70 (e_callC M (relates_c t53 (revS x) (revS y) (by rw [rev_size hex]; omega) (by rw [rev_size hey]; omega) (by rw [rev_size hex, rev_size hey]; exact (Nat.le_trans (Nat.mul_le_mul (show x.size + 1 ≤ 21 by omega) (show y.size + 1 ≤ 21 by omega)) (by decide))) M.imm ⟨_, _, rfl, Rf53, Ra53⟩) Tryd.func20 rfl rfl)) rfl rfl ?_
     rintro _ w18 ⟨J76, hJ76, rfl, M⟩
     have hS := (⟨(M.less hJ76 hoJ53), trivial⟩ : _ ∧ _)
     refine ⟨fun _ => hS, ?_⟩
     replace M := M.less hJ76 hoJ53
     refine wa_q 22 rfl (by kernel_rfl) (q_guard 14 rfl rfl rfl hg70 (q_eqlB Tryd.underlying4 rfl rfl)) hS rfl rfl ?_
     refine wa_q 23 rfl (by kernel_rfl) (q_pickT rfl hg70 rfl) hS rfl rfl ?_
     refine wa_q 24 rfl (by kernel_rfl) (q_assign rfl) hS rfl rfl ?_
     refine wa_done (by kernel_rfl) ?_
     exact ⟨(), M, ⟨(show some (Value.bool ((relS t53 (revS x) (revS y)) == (relS a x y))) = some (Value.bool ((((decide (e48 = 0)) && (decide (e53 = 0))) && ((relS t48 y x) == (relS a x y))) && ((relS t53 (revS x) (revS y)) == (relS a x y)))) from by first | (simp only [hg58, hg62, hg70, Bool.true_or, Bool.false_or, Bool.true_and, Bool.false_and, Bool.or_true, Bool.or_false, Bool.and_true, Bool.and_false]; done) | simp_all), trivial⟩, unw_take 25 rfl rfl⟩
    refine wa_q 15 rfl (by kernel_rfl) (q_off 14 rfl rfl rfl hg70) hS rfl rfl ?_
    refine wa_q 16 rfl (by kernel_rfl) (q_off 14 rfl rfl rfl hg70) hS rfl rfl ?_
    refine wa_q 18 rfl (by kernel_rfl) (q_off 14 rfl rfl rfl hg70) hS rfl rfl ?_
    refine wa_q 21 rfl (by kernel_rfl) (q_off 14 rfl rfl rfl hg70) hS rfl rfl ?_
    refine wa_q 17 rfl (by kernel_rfl) (q_off 14 rfl rfl rfl hg70) hS rfl rfl ?_
    refine wa_q 19 rfl (by kernel_rfl) (q_off 14 rfl rfl rfl hg70) hS rfl rfl ?_
    refine wa_q 20 rfl (by kernel_rfl) (q_off 14 rfl rfl rfl hg70) hS rfl rfl ?_
    refine wa_q 22 rfl (by kernel_rfl) (q_off 14 rfl rfl rfl hg70) hS rfl rfl ?_
    refine wa_q 23 rfl (by kernel_rfl) (q_pickF rfl hg70 rfl) hS rfl rfl ?_
    refine wa_q 24 rfl (by kernel_rfl) (q_assign rfl) hS rfl rfl ?_
    refine wa_done (by kernel_rfl) ?_
    exact ⟨(), M, ⟨(show some (Value.bool false) = some (Value.bool ((((decide (e48 = 0)) && (decide (e53 = 0))) && ((relS t48 y x) == (relS a x y))) && ((relS t53 (revS x) (revS y)) == (relS a x y)))) from by first | (simp only [hg58, hg62, hg70, Bool.true_or, Bool.false_or, Bool.true_and, Bool.false_and, Bool.or_true, Bool.or_false, Bool.and_true, Bool.and_false]; done) | simp_all), trivial⟩, unw_take 25 rfl rfl⟩
   refine wa_q 7 rfl (by kernel_rfl) (q_off 6 rfl rfl rfl hg62) hS rfl rfl ?_
   refine wa_q 8 rfl (by kernel_rfl) (q_off 6 rfl rfl rfl hg62) hS rfl rfl ?_
   refine wa_q 9 rfl (by kernel_rfl) (q_off 6 rfl rfl rfl hg62) hS rfl rfl ?_
   refine wa_q 11 rfl (by kernel_rfl) (q_off 6 rfl rfl rfl hg62) hS rfl rfl ?_
   refine wa_q 10 rfl (by kernel_rfl) (q_off 6 rfl rfl rfl hg62) hS rfl rfl ?_
   refine wa_q 12 rfl (by kernel_rfl) (q_off 6 rfl rfl rfl hg62) hS rfl rfl ?_
   refine wa_q 13 rfl (by kernel_rfl) (q_pickF rfl hg62 rfl) hS rfl rfl ?_
   refine wa_q 14 rfl (by kernel_rfl) (q_move rfl) hS rfl rfl ?_
   refine wa_q 15 rfl (by kernel_rfl) (q_off 14 rfl rfl rfl rfl) hS rfl rfl ?_
   refine wa_q 16 rfl (by kernel_rfl) (q_off 14 rfl rfl rfl rfl) hS rfl rfl ?_
   refine wa_q 18 rfl (by kernel_rfl) (q_off 14 rfl rfl rfl rfl) hS rfl rfl ?_
   refine wa_q 21 rfl (by kernel_rfl) (q_off 14 rfl rfl rfl rfl) hS rfl rfl ?_
   refine wa_q 17 rfl (by kernel_rfl) (q_off 14 rfl rfl rfl rfl) hS rfl rfl ?_
   refine wa_q 19 rfl (by kernel_rfl) (q_off 14 rfl rfl rfl rfl) hS rfl rfl ?_
   refine wa_q 20 rfl (by kernel_rfl) (q_off 14 rfl rfl rfl rfl) hS rfl rfl ?_
   refine wa_q 22 rfl (by kernel_rfl) (q_off 14 rfl rfl rfl rfl) hS rfl rfl ?_
   refine wa_q 23 rfl (by kernel_rfl) (q_pickF rfl rfl rfl) hS rfl rfl ?_
   refine wa_q 24 rfl (by kernel_rfl) (q_assign rfl) hS rfl rfl ?_
   refine wa_done (by kernel_rfl) ?_
   exact ⟨(), M, ⟨(show some (Value.bool false) = some (Value.bool ((((decide (e48 = 0)) && (decide (e53 = 0))) && ((relS t48 y x) == (relS a x y))) && ((relS t53 (revS x) (revS y)) == (relS a x y)))) from by first | (simp only [hg58, hg62, Bool.true_or, Bool.false_or, Bool.true_and, Bool.false_and, Bool.or_true, Bool.or_false, Bool.and_true, Bool.and_false]; done) | simp_all), trivial⟩, unw_take 25 rfl rfl⟩
  refine wa_q 3 rfl (by kernel_rfl) (q_off 2 rfl rfl rfl hg58) hS rfl rfl ?_
  refine wa_q 4 rfl (by kernel_rfl) (q_off 2 rfl rfl rfl hg58) hS rfl rfl ?_
  refine wa_q 5 rfl (by kernel_rfl) (q_pickF rfl hg58 rfl) hS rfl rfl ?_
  refine wa_q 6 rfl (by kernel_rfl) (q_move rfl) hS rfl rfl ?_
  refine wa_q 7 rfl (by kernel_rfl) (q_off 6 rfl rfl rfl rfl) hS rfl rfl ?_
  refine wa_q 8 rfl (by kernel_rfl) (q_off 6 rfl rfl rfl rfl) hS rfl rfl ?_
  refine wa_q 9 rfl (by kernel_rfl) (q_off 6 rfl rfl rfl rfl) hS rfl rfl ?_
  refine wa_q 11 rfl (by kernel_rfl) (q_off 6 rfl rfl rfl rfl) hS rfl rfl ?_
  refine wa_q 10 rfl (by kernel_rfl) (q_off 6 rfl rfl rfl rfl) hS rfl rfl ?_
  refine wa_q 12 rfl (by kernel_rfl) (q_off 6 rfl rfl rfl rfl) hS rfl rfl ?_
  refine wa_q 13 rfl (by kernel_rfl) (q_pickF rfl rfl rfl) hS rfl rfl ?_
  refine wa_q 14 rfl (by kernel_rfl) (q_move rfl) hS rfl rfl ?_
  refine wa_q 15 rfl (by kernel_rfl) (q_off 14 rfl rfl rfl rfl) hS rfl rfl ?_
  refine wa_q 16 rfl (by kernel_rfl) (q_off 14 rfl rfl rfl rfl) hS rfl rfl ?_
  refine wa_q 18 rfl (by kernel_rfl) (q_off 14 rfl rfl rfl rfl) hS rfl rfl ?_
  refine wa_q 21 rfl (by kernel_rfl) (q_off 14 rfl rfl rfl rfl) hS rfl rfl ?_
  refine wa_q 17 rfl (by kernel_rfl) (q_off 14 rfl rfl rfl rfl) hS rfl rfl ?_
  refine wa_q 19 rfl (by kernel_rfl) (q_off 14 rfl rfl rfl rfl) hS rfl rfl ?_
  refine wa_q 20 rfl (by kernel_rfl) (q_off 14 rfl rfl rfl rfl) hS rfl rfl ?_
  refine wa_q 22 rfl (by kernel_rfl) (q_off 14 rfl rfl rfl rfl) hS rfl rfl ?_
  refine wa_q 23 rfl (by kernel_rfl) (q_pickF rfl rfl rfl) hS rfl rfl ?_
  refine wa_q 24 rfl (by kernel_rfl) (q_assign rfl) hS rfl rfl ?_
  refine wa_done (by kernel_rfl) ?_
  exact ⟨(), M, ⟨(show some (Value.bool false) = some (Value.bool ((((decide (e48 = 0)) && (decide (e53 = 0))) && ((relS t48 y x) == (relS a x y))) && ((relS t53 (revS x) (revS y)) == (relS a x y)))) from by first | (simp only [hg58, Bool.true_or, Bool.false_or, Bool.true_and, Bool.false_and, Bool.or_true, Bool.or_false, Bool.and_true, Bool.and_false]; done) | simp_all), trivial⟩, unw_take 25 rfl rfl⟩
 rintro _ jr8 w19 M
 refine wc_ret ?_
 exact out1 rfl rfl ⟨_, _, rfl, M.grow, by obtain ⟨⟨he, hf⟩, hr1, hr2⟩ := inverts4_law (x := x) (y := y) hva (by omega) (by omega) hex hey hc48 hc53; rw [hr1, hr2, he, hf]; simp⟩
end Go.Proofs.YtoilmeiikgegcaaDoor.G
