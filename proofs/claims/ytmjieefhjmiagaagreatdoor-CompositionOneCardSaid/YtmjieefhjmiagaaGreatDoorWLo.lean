/- Walks of the program's functions. -/
import Derived.Test.YtmjieefhjmiagaaGreatDoorWOf
import Derived.Test.YtmjieefhjmiagaaGreatDoorWFd
import Derived.Test.YtmjieefhjmiagaaGreatDoorWL0
import Derived.Test.YtmjieefhjmiagaaGreatDoorWX
import Derived.Test.YtmjieefhjmiagaaGreatDoorGOne
import Derived.Test.YtmjieefhjmiagaaGreatDoorGOpn
set_option linter.all false
namespace Go.Proofs.YtmjieefhjmiagaaGreatDoor.G
open Go Go.RowKit
set_option maxRecDepth 4000 in
set_option maxHeartbeats 1000000 in
theorem lawOne_c (a : Tra) (x : ByteArray) (nI : Int) {v1 : Value} {I : Heap} {w : World} (hI : hle I (hp w)) (hT : Tabs I) (R1 : a.rd I v1) : Calls A 7 #[v1, .string x, .int .i64 nI] w (Ret w I fun r _ => r = .bool true) := by
 obtain ⟨fu1, au1, rfl, Rf1, Ra1⟩ := R1
 have M := Mem.start hI
 refine enter Tryz.func7 rfl 71 Tryz.ntmps7 [_, _, _] rfl ?_
 refine wc_seq ?_
 refine wc_region ?_
 refine wl_e (e_box M rfl) rfl rfl ?_
 rintro _ w1 ⟨b3, rfl, M⟩
 refine wl_as M rfl rfl ?_
 refine wl_nil ?_
 refine wc_seq ?_
 refine wc_seq ?_
 refine wc_join (α := Unit) [11, 12, 13, 14, 15, 16, 17, 18, 19, 20, 21, 22, 23, 24, 25, 26, 27, 28, 29, 30, 31, 32] (fun _ => [(32, .bool (((((!true) || (!([a].all fewB))) || (!([x].all (fun s => !decide (20 < (s.size : Int))) && decide ((([x] : List ByteArray).length : Int) ≤ 6)))) || (decide (nI < 0))) || (decide (6 < nI))))]) (fun _ w' => Mem w I I (box b3 25 [.int .i64 a.states, .int .i64 a.start, sv fu1, sv au1] :: []) w') ?_ ?_
 ·refine wc_region ?_
  refine wl_e (e_callC M (awake_c M.imm hT) Tryz.func8 rfl rfl) rfl rfl ?_
  rintro _ w2 ⟨J11, hJ11, rfl, M⟩
  replace M := M.less hJ11 (fun _ _ => rfl)
  refine wl_m M (q_not rfl) rfl rfl ?_
  refine wl_mv M rfl rfl ?_
  rcases Bool.eq_false_or_eq_true (!true) with hg13 | hg13
  ·refine wl_m M (q_off 2 rfl rfl rfl hg13) rfl rfl ?_
   refine wl_m M (q_off 2 rfl rfl rfl hg13) rfl rfl ?_
   refine wl_m M (q_off 2 rfl rfl rfl hg13) rfl rfl ?_
   refine wl_m M (q_off 2 rfl rfl rfl hg13) rfl rfl ?_
   refine wl_m M (q_pickT rfl hg13 rfl) rfl rfl ?_
   refine wl_mv M rfl rfl ?_
   refine wl_m M (q_off 8 rfl rfl rfl rfl) rfl rfl ?_
   refine wl_m M (q_off 8 rfl rfl rfl rfl) rfl rfl ?_
   refine wl_m M (q_off 8 rfl rfl rfl rfl) rfl rfl ?_
   refine wl_m M (q_off 8 rfl rfl rfl rfl) rfl rfl ?_
   refine wl_m M (q_pickT rfl rfl rfl) rfl rfl ?_
   refine wl_mv M rfl rfl ?_
   refine wl_m M (q_off 14 rfl rfl rfl rfl) rfl rfl ?_
   refine wl_m M (q_off 14 rfl rfl rfl rfl) rfl rfl ?_
   refine wl_m M (q_pickT rfl rfl rfl) rfl rfl ?_
   refine wl_mv M rfl rfl ?_
   refine wl_m M (q_off 18 rfl rfl rfl rfl) rfl rfl ?_
   refine wl_m M (q_off 18 rfl rfl rfl rfl) rfl rfl ?_
   refine wl_m M (q_pickT rfl rfl rfl) rfl rfl ?_
   refine wl_nil ?_
   exact ⟨(), M, ⟨(show some (Value.bool true) = some (Value.bool (((((!true) || (!([a].all fewB))) || (!([x].all (fun s => !decide (20 < (s.size : Int))) && decide ((([x] : List ByteArray).length : Int) ≤ 6)))) || (decide (nI < 0))) || (decide (6 < nI)))) from by first | (simp only [hg13, Bool.true_or, Bool.false_or, Bool.true_and, Bool.false_and, Bool.or_true, Bool.or_false, Bool.and_true, Bool.and_false]; done) | (simp_all; done) | (simp_all; omega)), trivial⟩, unw_take 22 rfl rfl⟩
  refine wl_m M (q_guard 2 rfl rfl rfl hg13 (q_ldbA 0 Tryz.underlying25 rfl sz25 rfl rfl rfl rfl)) rfl rfl ?_
  refine wl_e (e_guard 2 rfl rfl rfl hg13 (e_bsI (E := ETra) (xs := [(RTra.mk a.states a.start fu1 au1)]) M (bs_54_1 _ _ _ _) ⟨⟨rfl, rfl⟩, trivial⟩ rfl rfl (by decide))) rfl rfl ?_
  rintro _ w3 ⟨u15, J15, rfl, hJ15, R15, M⟩
  have hoJ15 := M.old
  refine wl_e (e_guard 2 rfl rfl rfl hg13 (e_callC M (few_c M.imm (rdTrasF R15 (Rf1.mono hJ15) (Ra1.mono hJ15))) Tryz.func9 rfl rfl)) rfl rfl ?_
  rintro _ w4 ⟨J16, hJ16, rfl, M⟩
  replace M := M.less hJ16 hoJ15
  refine wl_m M (q_guard 2 rfl rfl rfl hg13 (q_not rfl)) rfl rfl ?_
  refine wl_m M (q_pickF rfl hg13 rfl) rfl rfl ?_
  refine wl_mv M rfl rfl ?_
  rcases Bool.eq_false_or_eq_true (!([a].all fewB)) with hg19 | hg19
  ·refine wl_m M (q_off 8 rfl rfl rfl hg19) rfl rfl ?_
   refine wl_m M (q_off 8 rfl rfl rfl hg19) rfl rfl ?_
   refine wl_m M (q_off 8 rfl rfl rfl hg19) rfl rfl ?_
   refine wl_m M (q_off 8 rfl rfl rfl hg19) rfl rfl ?_
   refine wl_m M (q_pickT rfl hg19 rfl) rfl rfl ?_
   refine wl_mv M rfl rfl ?_
   refine wl_m M (q_off 14 rfl rfl rfl rfl) rfl rfl ?_
   refine wl_m M (q_off 14 rfl rfl rfl rfl) rfl rfl ?_
   refine wl_m M (q_pickT rfl rfl rfl) rfl rfl ?_
   refine wl_mv M rfl rfl ?_
   refine wl_m M (q_off 18 rfl rfl rfl rfl) rfl rfl ?_
   refine wl_m M (q_off 18 rfl rfl rfl rfl) rfl rfl ?_
   refine wl_m M (q_pickT rfl rfl rfl) rfl rfl ?_
   refine wl_nil ?_
   replace M := M.less hJ15 (fun _ _ => rfl)
   exact ⟨(), M, ⟨(show some (Value.bool true) = some (Value.bool (((((!true) || (!([a].all fewB))) || (!([x].all (fun s => !decide (20 < (s.size : Int))) && decide ((([x] : List ByteArray).length : Int) ≤ 6)))) || (decide (nI < 0))) || (decide (6 < nI)))) from by first | (simp only [hg13, hg19, Bool.true_or, Bool.false_or, Bool.true_and, Bool.false_and, Bool.or_true, Bool.or_false, Bool.and_true, Bool.and_false]; done) | (simp_all; done) | (simp_all; omega)), trivial⟩, unw_take 22 rfl rfl⟩
  refine wl_m M (q_guard 8 rfl rfl rfl hg19 (q_move rfl)) rfl rfl ?_
  refine wl_e (e_guard 8 rfl rfl rfl hg19 (e_bsI (E := EStr) (xs := [x]) M (bs_31_1 _) ⟨⟨rfl, rfl⟩, trivial⟩ rfl rfl (by decide))) rfl rfl ?_
  rintro _ w5 ⟨u21, J21, rfl, hJ21, R21, M⟩
  have hoJ21 := M.old
  refine wl_e (e_guard 8 rfl rfl rfl hg19 (e_callC M (brief_c M.imm R21) Tryz.func10 rfl rfl)) rfl rfl ?_
  rintro _ w6 ⟨J22, hJ22, rfl, M⟩
  replace M := M.less hJ22 hoJ21
  refine wl_m M (q_guard 8 rfl rfl rfl hg19 (q_not rfl)) rfl rfl ?_
  refine wl_m M (q_pickF rfl hg19 rfl) rfl rfl ?_
  refine wl_mv M rfl rfl ?_
  rcases Bool.eq_false_or_eq_true (!([x].all (fun s => !decide (20 < (s.size : Int))) && decide ((([x] : List ByteArray).length : Int) ≤ 6))) with hg25 | hg25
  ·refine wl_m M (q_off 14 rfl rfl rfl hg25) rfl rfl ?_
   refine wl_m M (q_off 14 rfl rfl rfl hg25) rfl rfl ?_
   refine wl_m M (q_pickT rfl hg25 rfl) rfl rfl ?_
   refine wl_mv M rfl rfl ?_
   refine wl_m M (q_off 18 rfl rfl rfl rfl) rfl rfl ?_
   refine wl_m M (q_off 18 rfl rfl rfl rfl) rfl rfl ?_
   refine wl_m M (q_pickT rfl rfl rfl) rfl rfl ?_
   refine wl_nil ?_
   replace M := M.less (hle.trans hJ15 hJ21) (fun _ _ => rfl)
   exact ⟨(), M, ⟨(show some (Value.bool true) = some (Value.bool (((((!true) || (!([a].all fewB))) || (!([x].all (fun s => !decide (20 < (s.size : Int))) && decide ((([x] : List ByteArray).length : Int) ≤ 6)))) || (decide (nI < 0))) || (decide (6 < nI)))) from by first | (simp only [hg13, hg19, hg25, Bool.true_or, Bool.false_or, Bool.true_and, Bool.false_and, Bool.or_true, Bool.or_false, Bool.and_true, Bool.and_false]; done) | (simp_all; done) | (simp_all; omega)), trivial⟩, unw_take 22 rfl rfl⟩
  refine wl_m M (q_guard 14 rfl rfl rfl hg25 (q_move rfl)) rfl rfl ?_
  refine wl_m M (q_guard 14 rfl rfl rfl hg25 (q_lss rfl rfl)) rfl rfl ?_
  refine wl_m M (q_pickF rfl hg25 rfl) rfl rfl ?_
  refine wl_mv M rfl rfl ?_
  rcases Bool.eq_false_or_eq_true (decide (nI < 0)) with hg29 | hg29
  ·refine wl_m M (q_off 18 rfl rfl rfl hg29) rfl rfl ?_
   refine wl_m M (q_off 18 rfl rfl rfl hg29) rfl rfl ?_
   refine wl_m M (q_pickT rfl hg29 rfl) rfl rfl ?_
   refine wl_nil ?_
   replace M := M.less (hle.trans hJ15 hJ21) (fun _ _ => rfl)
   exact ⟨(), M, ⟨(show some (Value.bool true) = some (Value.bool (((((!true) || (!([a].all fewB))) || (!([x].all (fun s => !decide (20 < (s.size : Int))) && decide ((([x] : List ByteArray).length : Int) ≤ 6)))) || (decide (nI < 0))) || (decide (6 < nI)))) from by first | (simp only [hg13, hg19, hg25, hg29, Bool.true_or, Bool.false_or, Bool.true_and, Bool.false_and, Bool.or_true, Bool.or_false, Bool.and_true, Bool.and_false]; done) | (simp_all; done) | (simp_all; omega)), trivial⟩, unw_take 22 rfl rfl⟩
  refine wl_m M (q_guard 18 rfl rfl rfl hg29 (q_move rfl)) rfl rfl ?_
  refine wl_m M (q_guard 18 rfl rfl rfl hg29 (q_gtr rfl rfl)) rfl rfl ?_
  refine wl_m M (q_pickF rfl hg29 rfl) rfl rfl ?_
  refine wl_nil ?_
  replace M := M.less (hle.trans hJ15 hJ21) (fun _ _ => rfl)
  exact ⟨(), M, ⟨(show some (Value.bool (decide (6 < nI))) = some (Value.bool (((((!true) || (!([a].all fewB))) || (!([x].all (fun s => !decide (20 < (s.size : Int))) && decide ((([x] : List ByteArray).length : Int) ≤ 6)))) || (decide (nI < 0))) || (decide (6 < nI)))) from by first | (simp only [hg13, hg19, hg25, hg29, Bool.true_or, Bool.false_or, Bool.true_and, Bool.false_and, Bool.or_true, Bool.or_false, Bool.and_true, Bool.and_false]; done) | (simp_all; done) | (simp_all; omega)), trivial⟩, unw_take 22 rfl rfl⟩
 rintro _ jr1 w7 M
 refine wc_cond rfl (fun ht32 => ?_) (fun ht32 => ?_)
 ·refine wc_seq ?_
  refine wc_region ?_
  refine wl_e (e_callC M (awake_c M.imm hT) Tryz.func8 rfl rfl) rfl rfl ?_
  rintro _ w8 ⟨J33, hJ33, rfl, M⟩
  replace M := M.less hJ33 (fun _ _ => rfl)
  refine wl_as M rfl rfl ?_
  refine wl_nil ?_
  refine wc_ret ?_
  exact out1 rfl rfl ⟨_, _, rfl, M.grow, rfl⟩
 have hbw : ([x].all (fun s => !decide (20 < (s.size : Int)))) = true := by revert ht32; generalize ([x].all (fun s => !decide (20 < (s.size : Int)))) = q; cases q <;> simp
 have hff : ([a].all fewB) = true := by revert ht32; generalize ([a].all fewB) = q; cases q <;> simp
 have hn0 : (decide (nI < 0)) = false := by revert ht32; generalize (decide (nI < 0)) = q; cases q <;> simp
 have hn6 : (decide (6 < nI)) = false := by revert ht32; generalize (decide (6 < nI)) = q; cases q <;> simp
 have hn0 := of_decide_eq_false hn0
 have hn6 := of_decide_eq_false hn6
 have hfa : a.arcs.length ≤ 12 := (few_lens (by simpa using hff)).2.1
 have hsx : x.size ≤ 20 := by simp at hbw; omega
 refine wc_skip ?_
 refine wc_seq ?_
 refine wc_region ?_
 refine wl_m M (q_ldbA 0 Tryz.underlying25 rfl sz25 rfl rfl rfl rfl) rfl rfl ?_
 refine wl_mv M rfl rfl ?_
 refine wl_e (e_bsI (E := EStr) (xs := [x]) M (bs_31_1 _) ⟨⟨rfl, rfl⟩, trivial⟩ rfl rfl (by decide)) rfl rfl ?_
 rintro _ w9 ⟨u37, J37, rfl, hJ37, R37, M⟩
 have hoJ37 := M.old
 refine wl_e (e_callC M (functional_c (t := a) (ws := [x]) (brief_szF hbw) M.imm (hT.mono hJ37) ⟨_, _, rfl, (Rf1.mono hJ37), (Ra1.mono hJ37)⟩ R37) Tryz.func21 rfl rfl) rfl rfl ?_
 rintro _ w10 ⟨J38, hJ38, rfl, M⟩
 replace M := M.less hJ38 hoJ37
 refine wl_mv M rfl rfl ?_
 refine wl_m M (q_ext rfl rfl) rfl rfl ?_
 refine wl_m M (q_ext rfl rfl) rfl rfl ?_
 refine wl_as M rfl rfl ?_
 refine wl_as M rfl rfl ?_
 refine wl_nil ?_
 refine wc_seq ?_
 refine wc_region ?_
 refine wl_m M (q_ldbA 0 Tryz.underlying25 rfl sz25 rfl rfl rfl rfl) rfl rfl ?_
 refine wl_mv M rfl rfl ?_
 refine wl_mv M rfl rfl ?_
 refine wl_e (e_callC M (outputs_c a x nI (by omega) (fun _ => Nat.le_trans (Nat.mul_le_mul (Nat.mul_le_mul (Nat.le_refl 512) (show x.size + 1 ≤ 21 by omega)) hfa) (by decide)) (alph_fewO hfa) M.imm ⟨_, _, rfl, (Rf1.mono hJ37), (Ra1.mono hJ37)⟩) Tryz.func22 rfl rfl) rfl rfl ?_
 rintro _ w11 ⟨J45, hJ45, ⟨u45, o45, e45, rfl, R45, hk45⟩, M⟩
 have hoJ45 := M.old
 refine wl_mv M rfl rfl ?_
 refine wl_m M (q_ext rfl rfl) rfl rfl ?_
 refine wl_m M (q_ext rfl rfl) rfl rfl ?_
 refine wl_as M rfl rfl ?_
 refine wl_as M rfl rfl ?_
 refine wl_nil ?_
 refine wc_seq ?_
 refine wc_seq ?_
 refine wc_join (α := Unit) [48, 49, 50, 51, 52, 53] (fun _ => [(53, .bool ((!decide (((FncS a [x]).2) = 0)) || (decide (e45 = 1))))]) (fun _ w' => Mem w I J45 (box b3 25 [.int .i64 a.states, .int .i64 a.start, sv fu1, sv au1] :: []) w') ?_ ?_
 ·refine wc_region ?_
  refine wl_mv M rfl rfl ?_
  refine wl_m M (q_neq rfl rfl) rfl rfl ?_
  refine wl_mv M rfl rfl ?_
  rcases Bool.eq_false_or_eq_true (!decide (((FncS a [x]).2) = 0)) with hg50 | hg50
  ·refine wl_m M (q_off 2 rfl rfl rfl hg50) rfl rfl ?_
   refine wl_m M (q_off 2 rfl rfl rfl hg50) rfl rfl ?_
   refine wl_m M (q_pickT rfl hg50 rfl) rfl rfl ?_
   refine wl_nil ?_
   exact ⟨(), M, ⟨(show some (Value.bool true) = some (Value.bool ((!decide (((FncS a [x]).2) = 0)) || (decide (e45 = 1)))) from by first | (simp only [hg50, Bool.true_or, Bool.false_or, Bool.true_and, Bool.false_and, Bool.or_true, Bool.or_false, Bool.and_true, Bool.and_false]; done) | (simp_all; done) | (simp_all; omega)), trivial⟩, unw_take 6 rfl rfl⟩
  refine wl_m M (q_guard 2 rfl rfl rfl hg50 (q_move rfl)) rfl rfl ?_
  refine wl_m M (q_guard 2 rfl rfl rfl hg50 (q_eql rfl rfl)) rfl rfl ?_
  refine wl_m M (q_pickF rfl hg50 rfl) rfl rfl ?_
  refine wl_nil ?_
  exact ⟨(), M, ⟨(show some (Value.bool (decide (e45 = 1))) = some (Value.bool ((!decide (((FncS a [x]).2) = 0)) || (decide (e45 = 1)))) from by first | (simp only [hg50, Bool.true_or, Bool.false_or, Bool.true_and, Bool.false_and, Bool.or_true, Bool.or_false, Bool.and_true, Bool.and_false]; done) | (simp_all; done) | (simp_all; omega)), trivial⟩, unw_take 6 rfl rfl⟩
 rintro _ jr5 w12 M
 refine wc_cond rfl (fun ht53 => ?_) (fun ht53 => ?_)
 ·refine wc_seq ?_
  refine wc_join (α := Unit) [6, 54, 55, 56, 57, 58, 59] (fun _ => [(6, .bool ((decide (((FncS a [x]).2) = 1)) && (decide (e45 = 1))))]) (fun _ w' => Mem w I J45 (box b3 25 [.int .i64 a.states, .int .i64 a.start, sv fu1, sv au1] :: []) w') ?_ ?_
  ·refine wc_region ?_
   refine wl_mv M rfl rfl ?_
   refine wl_m M (q_eql rfl rfl) rfl rfl ?_
   refine wl_mv M rfl rfl ?_
   rcases Bool.eq_false_or_eq_true (decide (((FncS a [x]).2) = 1)) with hg56 | hg56
   ·refine wl_m M (q_guard 2 rfl rfl rfl hg56 (q_move rfl)) rfl rfl ?_
    refine wl_m M (q_guard 2 rfl rfl rfl hg56 (q_eql rfl rfl)) rfl rfl ?_
    refine wl_m M (q_pickT rfl hg56 rfl) rfl rfl ?_
    refine wl_as M rfl rfl ?_
    refine wl_nil ?_
    exact ⟨(), M, ⟨(show some (Value.bool (decide (e45 = 1))) = some (Value.bool ((decide (((FncS a [x]).2) = 1)) && (decide (e45 = 1)))) from by first | (simp only [hg56, Bool.true_or, Bool.false_or, Bool.true_and, Bool.false_and, Bool.or_true, Bool.or_false, Bool.and_true, Bool.and_false]; done) | (simp_all; done) | (simp_all; omega)), trivial⟩, unw_take 7 rfl rfl⟩
   refine wl_m M (q_off 2 rfl rfl rfl hg56) rfl rfl ?_
   refine wl_m M (q_off 2 rfl rfl rfl hg56) rfl rfl ?_
   refine wl_m M (q_pickF rfl hg56 rfl) rfl rfl ?_
   refine wl_as M rfl rfl ?_
   refine wl_nil ?_
   exact ⟨(), M, ⟨(show some (Value.bool false) = some (Value.bool ((decide (((FncS a [x]).2) = 1)) && (decide (e45 = 1)))) from by first | (simp only [hg56, Bool.true_or, Bool.false_or, Bool.true_and, Bool.false_and, Bool.or_true, Bool.or_false, Bool.and_true, Bool.and_false]; done) | (simp_all; done) | (simp_all; omega)), trivial⟩, unw_take 7 rfl rfl⟩
  rintro _ jr6 w13 M
  refine wc_ret ?_
  exact out1 rfl rfl ⟨_, _, rfl, M.grow, by rw [one_err hk45 hsx hn0 hn6 ht53]⟩
 refine wc_skip ?_
 refine wc_seq ?_
 refine wc_join (α := Unit) [6, 60, 61, 62, 63, 64, 65, 66, 67, 68, 69, 70] (fun _ => [(6, .bool ((!((FncS a [x]).1)) || ((decide (e45 = 0)) && (decide ((o45.length : Int) ≤ 1)))))]) (fun _ w' => Mem w I J45 (box b3 25 [.int .i64 a.states, .int .i64 a.start, sv fu1, sv au1] :: []) w') ?_ ?_
 ·refine wc_region ?_
  refine wl_mv M rfl rfl ?_
  refine wl_m M (q_not rfl) rfl rfl ?_
  refine wl_mv M rfl rfl ?_
  rcases Bool.eq_false_or_eq_true (!((FncS a [x]).1)) with hg62 | hg62
  ·refine wl_m M (q_off 2 rfl rfl rfl hg62) rfl rfl ?_
   refine wl_m M (q_off 2 rfl rfl rfl hg62) rfl rfl ?_
   refine wl_m M (q_off 2 rfl rfl rfl hg62) rfl rfl ?_
   refine wl_m M (q_offu 5 rfl rfl rfl) rfl rfl ?_
   refine wl_m M (q_offu 5 rfl rfl rfl) rfl rfl ?_
   refine wl_m M (q_offu 5 rfl rfl rfl) rfl rfl ?_
   refine wl_m M (q_off 2 rfl rfl rfl hg62) rfl rfl ?_
   refine wl_m M (q_pickT rfl hg62 rfl) rfl rfl ?_
   refine wl_as M rfl rfl ?_
   refine wl_nil ?_
   exact ⟨(), M, ⟨(show some (Value.bool true) = some (Value.bool ((!((FncS a [x]).1)) || ((decide (e45 = 0)) && (decide ((o45.length : Int) ≤ 1))))) from by first | (simp only [hg62, Bool.true_or, Bool.false_or, Bool.true_and, Bool.false_and, Bool.or_true, Bool.or_false, Bool.and_true, Bool.and_false]; done) | (simp_all; done) | (simp_all; omega)), trivial⟩, unw_take 12 rfl rfl⟩
  refine wl_m M (q_guard 2 rfl rfl rfl hg62 (q_move rfl)) rfl rfl ?_
  refine wl_m M (q_guard 2 rfl rfl rfl hg62 (q_eql rfl rfl)) rfl rfl ?_
  refine wl_m M (q_guard 2 rfl rfl rfl hg62 (q_move rfl)) rfl rfl ?_
  rcases Bool.eq_false_or_eq_true (decide (e45 = 0)) with hg65 | hg65
  ·refine wl_m M (q_guard 5 rfl rfl rfl hg65 (q_move rfl)) rfl rfl ?_
   refine wl_m M (q_guard 5 rfl rfl rfl hg65 (q_lenR R45 Tryz.underlying31 rfl)) rfl rfl ?_
   refine wl_m M (q_guard 5 rfl rfl rfl hg65 (q_leq rfl rfl)) rfl rfl ?_
   refine wl_m M (q_guard 2 rfl rfl rfl hg62 (q_pickT rfl hg65 rfl)) rfl rfl ?_
   refine wl_m M (q_pickF rfl hg62 rfl) rfl rfl ?_
   refine wl_as M rfl rfl ?_
   refine wl_nil ?_
   exact ⟨(), M, ⟨(show some (Value.bool (decide ((o45.length : Int) ≤ 1))) = some (Value.bool ((!((FncS a [x]).1)) || ((decide (e45 = 0)) && (decide ((o45.length : Int) ≤ 1))))) from by first | (simp only [hg62, hg65, Bool.true_or, Bool.false_or, Bool.true_and, Bool.false_and, Bool.or_true, Bool.or_false, Bool.and_true, Bool.and_false]; done) | (simp_all; done) | (simp_all; omega)), trivial⟩, unw_take 12 rfl rfl⟩
  refine wl_m M (q_off 5 rfl rfl rfl hg65) rfl rfl ?_
  refine wl_m M (q_off 5 rfl rfl rfl hg65) rfl rfl ?_
  refine wl_m M (q_off 5 rfl rfl rfl hg65) rfl rfl ?_
  refine wl_m M (q_guard 2 rfl rfl rfl hg62 (q_pickF rfl hg65 rfl)) rfl rfl ?_
  refine wl_m M (q_pickF rfl hg62 rfl) rfl rfl ?_
  refine wl_as M rfl rfl ?_
  refine wl_nil ?_
  exact ⟨(), M, ⟨(show some (Value.bool false) = some (Value.bool ((!((FncS a [x]).1)) || ((decide (e45 = 0)) && (decide ((o45.length : Int) ≤ 1))))) from by first | (simp only [hg62, hg65, Bool.true_or, Bool.false_or, Bool.true_and, Bool.false_and, Bool.or_true, Bool.or_false, Bool.and_true, Bool.and_false]; done) | (simp_all; done) | (simp_all; omega)), trivial⟩, unw_take 12 rfl rfl⟩
 rintro _ jr7 w14 M
 refine wc_ret ?_
 exact out1 rfl rfl ⟨_, _, rfl, M.grow, by rw [one_ok hk45 hsx hn0 hn6 ht53]⟩
end Go.Proofs.YtmjieefhjmiagaaGreatDoor.G
