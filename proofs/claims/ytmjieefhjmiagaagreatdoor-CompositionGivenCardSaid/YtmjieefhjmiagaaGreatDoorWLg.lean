/- Walks of the program's functions. -/
import Derived.Test.YtmjieefhjmiagaaGreatDoorWMe
import Derived.Test.YtmjieefhjmiagaaGreatDoorWL0
import Derived.Test.YtmjieefhjmiagaaGreatDoorWRb
import Derived.Test.YtmjieefhjmiagaaGreatDoorGMif
import Derived.Test.YtmjieefhjmiagaaGreatDoorWX
import Derived.Test.YtmjieefhjmiagaaGreatDoorGOpn
set_option linter.all false
namespace Go.Proofs.YtmjieefhjmiagaaGreatDoor.G
open Go Go.RowKit
set_option maxRecDepth 4000 in
set_option maxHeartbeats 2000000 in
theorem lawGiven_c (a b : Tra) (x y z : ByteArray) (nI : Int) {v1 v2 : Value} {I : Heap} {w : World} (hI : hle I (hp w)) (hT : Tabs I) (R1 : a.rd I v1) (R2 : b.rd I v2) : Calls A 4 #[v1, v2, .string x, .string y, .string z, .int .i64 nI] w (Ret w I fun r _ => r = .bool true) := by
 obtain ⟨fu1, au1, rfl, Rf1, Ra1⟩ := R1
 obtain ⟨fu2, au2, rfl, Rf2, Ra2⟩ := R2
 have M := Mem.start hI
 refine enter Tryz.func4 rfl 117 Tryz.ntmps4 [_, _, _, _, _, _] rfl ?_
 refine wc_seq ?_
 refine wc_region ?_
 refine wl_e (e_box M rfl) rfl rfl ?_
 rintro _ w1 ⟨b6, rfl, M⟩
 refine wl_e (e_box M rfl) rfl rfl ?_
 rintro _ w2 ⟨b7, rfl, M⟩
 refine wl_as M rfl rfl ?_
 refine wl_nil ?_
 refine wc_seq ?_
 refine wc_seq ?_
 refine wc_join (α := Unit) [19, 20, 21, 22, 23, 24, 25, 26, 27, 28, 29, 30, 31, 32, 33, 34, 35, 36, 37, 38, 39, 40, 41, 42, 43, 44, 45, 46, 47, 48, 49] (fun _ => [(49, .bool (((((!true) || (!([a, b].all fewB))) || (!([x, y, z].all (fun s => !decide (20 < (s.size : Int))) && decide ((([x, y, z] : List ByteArray).length : Int) ≤ 6)))) || (!(relS a x y))) || (!(relS b y z))))]) (fun _ w' => Mem w I I (box b7 25 [.int .i64 b.states, .int .i64 b.start, sv fu2, sv au2] :: box b6 25 [.int .i64 a.states, .int .i64 a.start, sv fu1, sv au1] :: []) w') ?_ ?_
 ·refine wc_region ?_
  refine wl_e (e_callC M (awake_c M.imm hT) Tryz.func8 rfl rfl) rfl rfl ?_
  rintro _ w3 ⟨J19, hJ19, rfl, M⟩
  replace M := M.less hJ19 (fun _ _ => rfl)
  refine wl_m M (q_not rfl) rfl rfl ?_
  refine wl_mv M rfl rfl ?_
  rcases Bool.eq_false_or_eq_true (!true) with hg21 | hg21
  ·refine wl_m M (q_off 2 rfl rfl rfl hg21) rfl rfl ?_
   refine wl_m M (q_off 2 rfl rfl rfl hg21) rfl rfl ?_
   refine wl_m M (q_off 2 rfl rfl rfl hg21) rfl rfl ?_
   refine wl_m M (q_off 2 rfl rfl rfl hg21) rfl rfl ?_
   refine wl_m M (q_off 2 rfl rfl rfl hg21) rfl rfl ?_
   refine wl_m M (q_pickT rfl hg21 rfl) rfl rfl ?_
   refine wl_mv M rfl rfl ?_
   refine wl_m M (q_off 9 rfl rfl rfl rfl) rfl rfl ?_
   refine wl_m M (q_off 9 rfl rfl rfl rfl) rfl rfl ?_
   refine wl_m M (q_off 9 rfl rfl rfl rfl) rfl rfl ?_
   refine wl_m M (q_off 9 rfl rfl rfl rfl) rfl rfl ?_
   refine wl_m M (q_off 9 rfl rfl rfl rfl) rfl rfl ?_
   refine wl_m M (q_off 9 rfl rfl rfl rfl) rfl rfl ?_
   refine wl_m M (q_pickT rfl rfl rfl) rfl rfl ?_
   refine wl_mv M rfl rfl ?_
   refine wl_m M (q_off 17 rfl rfl rfl rfl) rfl rfl ?_
   refine wl_m M (q_off 17 rfl rfl rfl rfl) rfl rfl ?_
   refine wl_m M (q_off 17 rfl rfl rfl rfl) rfl rfl ?_
   refine wl_m M (q_off 17 rfl rfl rfl rfl) rfl rfl ?_
   refine wl_m M (q_off 17 rfl rfl rfl rfl) rfl rfl ?_
   refine wl_m M (q_pickT rfl rfl rfl) rfl rfl ?_
   refine wl_mv M rfl rfl ?_
   refine wl_m M (q_off 24 rfl rfl rfl rfl) rfl rfl ?_
   refine wl_m M (q_off 24 rfl rfl rfl rfl) rfl rfl ?_
   refine wl_m M (q_off 24 rfl rfl rfl rfl) rfl rfl ?_
   refine wl_m M (q_off 24 rfl rfl rfl rfl) rfl rfl ?_
   refine wl_m M (q_off 24 rfl rfl rfl rfl) rfl rfl ?_
   refine wl_m M (q_pickT rfl rfl rfl) rfl rfl ?_
   refine wl_nil ?_
   exact ⟨(), M, ⟨(show some (Value.bool true) = some (Value.bool (((((!true) || (!([a, b].all fewB))) || (!([x, y, z].all (fun s => !decide (20 < (s.size : Int))) && decide ((([x, y, z] : List ByteArray).length : Int) ≤ 6)))) || (!(relS a x y))) || (!(relS b y z)))) from by first | (simp only [hg21, Bool.true_or, Bool.false_or, Bool.true_and, Bool.false_and, Bool.or_true, Bool.or_false, Bool.and_true, Bool.and_false]; done) | (simp_all; done) | (simp_all; omega)), trivial⟩, unw_take 31 rfl rfl⟩
  refine wl_m M (q_guard 2 rfl rfl rfl hg21 (q_ldbA 1 Tryz.underlying25 rfl sz25 rfl rfl rfl rfl)) rfl rfl ?_
  refine wl_m M (q_guard 2 rfl rfl rfl hg21 (q_ldbA 0 Tryz.underlying25 rfl sz25 rfl rfl rfl rfl)) rfl rfl ?_
  refine wl_e (e_guard 2 rfl rfl rfl hg21 (e_bsI (E := ETra) (xs := [(RTra.mk a.states a.start fu1 au1), (RTra.mk b.states b.start fu2 au2)]) M (bs_54_2 _ _ _ _ _ _ _ _) ⟨⟨rfl, rfl⟩, ⟨rfl, rfl⟩, trivial⟩ rfl rfl (by decide))) rfl rfl ?_
  rintro _ w4 ⟨u24, J24, rfl, hJ24, R24, M⟩
  have hoJ24 := M.old
  refine wl_e (e_guard 2 rfl rfl rfl hg21 (e_callC M (few_c M.imm (rdTras2 R24 (Rf1.mono hJ24) (Ra1.mono hJ24) (Rf2.mono hJ24) (Ra2.mono hJ24))) Tryz.func9 rfl rfl)) rfl rfl ?_
  rintro _ w5 ⟨J25, hJ25, rfl, M⟩
  replace M := M.less hJ25 hoJ24
  refine wl_m M (q_guard 2 rfl rfl rfl hg21 (q_not rfl)) rfl rfl ?_
  refine wl_m M (q_pickF rfl hg21 rfl) rfl rfl ?_
  refine wl_mv M rfl rfl ?_
  rcases Bool.eq_false_or_eq_true (!([a, b].all fewB)) with hg28 | hg28
  ·refine wl_m M (q_off 9 rfl rfl rfl hg28) rfl rfl ?_
   refine wl_m M (q_off 9 rfl rfl rfl hg28) rfl rfl ?_
   refine wl_m M (q_off 9 rfl rfl rfl hg28) rfl rfl ?_
   refine wl_m M (q_off 9 rfl rfl rfl hg28) rfl rfl ?_
   refine wl_m M (q_off 9 rfl rfl rfl hg28) rfl rfl ?_
   refine wl_m M (q_off 9 rfl rfl rfl hg28) rfl rfl ?_
   refine wl_m M (q_pickT rfl hg28 rfl) rfl rfl ?_
   refine wl_mv M rfl rfl ?_
   refine wl_m M (q_off 17 rfl rfl rfl rfl) rfl rfl ?_
   refine wl_m M (q_off 17 rfl rfl rfl rfl) rfl rfl ?_
   refine wl_m M (q_off 17 rfl rfl rfl rfl) rfl rfl ?_
   refine wl_m M (q_off 17 rfl rfl rfl rfl) rfl rfl ?_
   refine wl_m M (q_off 17 rfl rfl rfl rfl) rfl rfl ?_
   refine wl_m M (q_pickT rfl rfl rfl) rfl rfl ?_
   refine wl_mv M rfl rfl ?_
   refine wl_m M (q_off 24 rfl rfl rfl rfl) rfl rfl ?_
   refine wl_m M (q_off 24 rfl rfl rfl rfl) rfl rfl ?_
   refine wl_m M (q_off 24 rfl rfl rfl rfl) rfl rfl ?_
   refine wl_m M (q_off 24 rfl rfl rfl rfl) rfl rfl ?_
   refine wl_m M (q_off 24 rfl rfl rfl rfl) rfl rfl ?_
   refine wl_m M (q_pickT rfl rfl rfl) rfl rfl ?_
   refine wl_nil ?_
   replace M := M.less hJ24 (fun _ _ => rfl)
   exact ⟨(), M, ⟨(show some (Value.bool true) = some (Value.bool (((((!true) || (!([a, b].all fewB))) || (!([x, y, z].all (fun s => !decide (20 < (s.size : Int))) && decide ((([x, y, z] : List ByteArray).length : Int) ≤ 6)))) || (!(relS a x y))) || (!(relS b y z)))) from by first | (simp only [hg21, hg28, Bool.true_or, Bool.false_or, Bool.true_and, Bool.false_and, Bool.or_true, Bool.or_false, Bool.and_true, Bool.and_false]; done) | (simp_all; done) | (simp_all; omega)), trivial⟩, unw_take 31 rfl rfl⟩
  refine wl_m M (q_guard 9 rfl rfl rfl hg28 (q_move rfl)) rfl rfl ?_
  refine wl_m M (q_guard 9 rfl rfl rfl hg28 (q_move rfl)) rfl rfl ?_
  refine wl_m M (q_guard 9 rfl rfl rfl hg28 (q_move rfl)) rfl rfl ?_
  refine wl_e (e_guard 9 rfl rfl rfl hg28 (e_bsI (E := EStr) (xs := [x, y, z]) M (bs_31_3 _ _ _) ⟨⟨rfl, rfl⟩, ⟨rfl, rfl⟩, ⟨rfl, rfl⟩, trivial⟩ rfl rfl (by decide))) rfl rfl ?_
  rintro _ w6 ⟨u32, J32, rfl, hJ32, R32, M⟩
  have hoJ32 := M.old
  refine wl_e (e_guard 9 rfl rfl rfl hg28 (e_callC M (brief_c M.imm R32) Tryz.func10 rfl rfl)) rfl rfl ?_
  rintro _ w7 ⟨J33, hJ33, rfl, M⟩
  replace M := M.less hJ33 hoJ32
  refine wl_m M (q_guard 9 rfl rfl rfl hg28 (q_not rfl)) rfl rfl ?_
  refine wl_m M (q_pickF rfl hg28 rfl) rfl rfl ?_
  refine wl_mv M rfl rfl ?_
  rcases Bool.eq_false_or_eq_true (!([x, y, z].all (fun s => !decide (20 < (s.size : Int))) && decide ((([x, y, z] : List ByteArray).length : Int) ≤ 6))) with hg36 | hg36
  ·refine wl_m M (q_off 17 rfl rfl rfl hg36) rfl rfl ?_
   refine wl_m M (q_off 17 rfl rfl rfl hg36) rfl rfl ?_
   refine wl_m M (q_off 17 rfl rfl rfl hg36) rfl rfl ?_
   refine wl_m M (q_off 17 rfl rfl rfl hg36) rfl rfl ?_
   refine wl_m M (q_off 17 rfl rfl rfl hg36) rfl rfl ?_
   refine wl_m M (q_pickT rfl hg36 rfl) rfl rfl ?_
   refine wl_mv M rfl rfl ?_
   refine wl_m M (q_off 24 rfl rfl rfl rfl) rfl rfl ?_
   refine wl_m M (q_off 24 rfl rfl rfl rfl) rfl rfl ?_
   refine wl_m M (q_off 24 rfl rfl rfl rfl) rfl rfl ?_
   refine wl_m M (q_off 24 rfl rfl rfl rfl) rfl rfl ?_
   refine wl_m M (q_off 24 rfl rfl rfl rfl) rfl rfl ?_
   refine wl_m M (q_pickT rfl rfl rfl) rfl rfl ?_
   refine wl_nil ?_
   replace M := M.less (hle.trans hJ24 hJ32) (fun _ _ => rfl)
   exact ⟨(), M, ⟨(show some (Value.bool true) = some (Value.bool (((((!true) || (!([a, b].all fewB))) || (!([x, y, z].all (fun s => !decide (20 < (s.size : Int))) && decide ((([x, y, z] : List ByteArray).length : Int) ≤ 6)))) || (!(relS a x y))) || (!(relS b y z)))) from by first | (simp only [hg21, hg28, hg36, Bool.true_or, Bool.false_or, Bool.true_and, Bool.false_and, Bool.or_true, Bool.or_false, Bool.and_true, Bool.and_false]; done) | (simp_all; done) | (simp_all; omega)), trivial⟩, unw_take 31 rfl rfl⟩
  refine wl_m M (q_guard 17 rfl rfl rfl hg36 (q_ldbA 1 Tryz.underlying25 rfl sz25 rfl rfl rfl rfl)) rfl rfl ?_
  refine wl_m M (q_guard 17 rfl rfl rfl hg36 (q_move rfl)) rfl rfl ?_
  refine wl_m M (q_guard 17 rfl rfl rfl hg36 (q_move rfl)) rfl rfl ?_
  have hbr0 : ([x, y, z].all (fun s => !decide (20 < (s.size : Int)))) = true := by revert hg36; generalize ([x, y, z].all (fun s => !decide (20 < (s.size : Int)))) = q; cases q <;> simp
  obtain ⟨hsx, hsy, hsz⟩ := brief3 hbr0
  refine wl_e (e_guard 17 rfl rfl rfl hg36 (e_callC M (relates_c a x y (by omega) (by omega) (Nat.le_trans (Nat.mul_le_mul (show x.size + 1 ≤ 21 by omega) (show y.size + 1 ≤ 21 by omega)) (by decide)) M.imm ⟨_, _, rfl, ((Rf1.mono hJ24).mono hJ32), ((Ra1.mono hJ24).mono hJ32)⟩) Tryz.func15 rfl rfl)) rfl rfl ?_
  rintro _ w8 ⟨J40, hJ40, rfl, M⟩
  replace M := M.less hJ40 hoJ32
  refine wl_m M (q_guard 17 rfl rfl rfl hg36 (q_not rfl)) rfl rfl ?_
  refine wl_m M (q_pickF rfl hg36 rfl) rfl rfl ?_
  refine wl_mv M rfl rfl ?_
  rcases Bool.eq_false_or_eq_true (!(relS a x y)) with hg43 | hg43
  ·refine wl_m M (q_off 24 rfl rfl rfl hg43) rfl rfl ?_
   refine wl_m M (q_off 24 rfl rfl rfl hg43) rfl rfl ?_
   refine wl_m M (q_off 24 rfl rfl rfl hg43) rfl rfl ?_
   refine wl_m M (q_off 24 rfl rfl rfl hg43) rfl rfl ?_
   refine wl_m M (q_off 24 rfl rfl rfl hg43) rfl rfl ?_
   refine wl_m M (q_pickT rfl hg43 rfl) rfl rfl ?_
   refine wl_nil ?_
   replace M := M.less (hle.trans hJ24 hJ32) (fun _ _ => rfl)
   exact ⟨(), M, ⟨(show some (Value.bool true) = some (Value.bool (((((!true) || (!([a, b].all fewB))) || (!([x, y, z].all (fun s => !decide (20 < (s.size : Int))) && decide ((([x, y, z] : List ByteArray).length : Int) ≤ 6)))) || (!(relS a x y))) || (!(relS b y z)))) from by first | (simp only [hg21, hg28, hg36, hg43, Bool.true_or, Bool.false_or, Bool.true_and, Bool.false_and, Bool.or_true, Bool.or_false, Bool.and_true, Bool.and_false]; done) | (simp_all; done) | (simp_all; omega)), trivial⟩, unw_take 31 rfl rfl⟩
  refine wl_m M (q_guard 24 rfl rfl rfl hg43 (q_ldbA 0 Tryz.underlying25 rfl sz25 rfl rfl rfl rfl)) rfl rfl ?_
  refine wl_m M (q_guard 24 rfl rfl rfl hg43 (q_move rfl)) rfl rfl ?_
  refine wl_m M (q_guard 24 rfl rfl rfl hg43 (q_move rfl)) rfl rfl ?_
  refine wl_e (e_guard 24 rfl rfl rfl hg43 (e_callC M (relates_c b y z (by omega) (by omega) (Nat.le_trans (Nat.mul_le_mul (show y.size + 1 ≤ 21 by omega) (show z.size + 1 ≤ 21 by omega)) (by decide)) M.imm ⟨_, _, rfl, ((Rf2.mono hJ24).mono hJ32), ((Ra2.mono hJ24).mono hJ32)⟩) Tryz.func15 rfl rfl)) rfl rfl ?_
  rintro _ w9 ⟨J47, hJ47, rfl, M⟩
  replace M := M.less hJ47 hoJ32
  refine wl_m M (q_guard 24 rfl rfl rfl hg43 (q_not rfl)) rfl rfl ?_
  refine wl_m M (q_pickF rfl hg43 rfl) rfl rfl ?_
  refine wl_nil ?_
  replace M := M.less (hle.trans hJ24 hJ32) (fun _ _ => rfl)
  exact ⟨(), M, ⟨(show some (Value.bool (!(relS b y z))) = some (Value.bool (((((!true) || (!([a, b].all fewB))) || (!([x, y, z].all (fun s => !decide (20 < (s.size : Int))) && decide ((([x, y, z] : List ByteArray).length : Int) ≤ 6)))) || (!(relS a x y))) || (!(relS b y z)))) from by first | (simp only [hg21, hg28, hg36, hg43, Bool.true_or, Bool.false_or, Bool.true_and, Bool.false_and, Bool.or_true, Bool.or_false, Bool.and_true, Bool.and_false]; done) | (simp_all; done) | (simp_all; omega)), trivial⟩, unw_take 31 rfl rfl⟩
 rintro _ jr1 w10 M
 refine wc_cond rfl (fun ht49 => ?_) (fun ht49 => ?_)
 ·refine wc_seq ?_
  refine wc_region ?_
  refine wl_e (e_callC M (awake_c M.imm hT) Tryz.func8 rfl rfl) rfl rfl ?_
  rintro _ w11 ⟨J50, hJ50, rfl, M⟩
  replace M := M.less hJ50 (fun _ _ => rfl)
  refine wl_as M rfl rfl ?_
  refine wl_nil ?_
  refine wc_ret ?_
  exact out1 rfl rfl ⟨_, _, rfl, M.grow, rfl⟩
 have hff : ([a, b].all fewB) = true := by revert ht49; generalize ([a, b].all fewB) = q; cases q <;> simp
 obtain ⟨hfa, hfb⟩ := few2_all hff
 have hbr : ([x, y, z].all (fun s => !decide (20 < (s.size : Int)))) = true := by revert ht49; generalize ([x, y, z].all (fun s => !decide (20 < (s.size : Int)))) = q; cases q <;> simp
 obtain ⟨hsx, hsy, hsz⟩ := brief3 hbr
 have hrab : (relS a x y) = true := by revert ht49; generalize (relS a x y) = q; cases q <;> simp
 have hrbz : (relS b y z) = true := by revert ht49; generalize (relS b y z) = q; cases q <;> simp
 obtain ⟨hthr, h0⟩ := given_thr hrab hrbz hsx hsz
 refine wc_skip ?_
 refine wc_seq ?_
 refine wc_region ?_
 refine wl_m M (q_ldbA 1 Tryz.underlying25 rfl sz25 rfl rfl rfl rfl) rfl rfl ?_
 refine wl_m M (q_ldbA 0 Tryz.underlying25 rfl sz25 rfl rfl rfl rfl) rfl rfl ?_
 refine wl_mv M rfl rfl ?_
 refine wl_mv M rfl rfl ?_
 refine wl_e (e_callC M (through_c a b x z (by omega) (by omega) M.imm hT ⟨_, _, rfl, Rf1, Ra1⟩ ⟨_, _, rfl, Rf2, Ra2⟩) Tryz.func16 rfl rfl) rfl rfl ?_
 rintro _ w12 ⟨J56, hJ56, rfl, M⟩
 rw [hthr]
 have hoJ56 := M.old
 refine wl_mv M rfl rfl ?_
 refine wl_m M (q_ext rfl rfl) rfl rfl ?_
 refine wl_m M (q_ext rfl rfl) rfl rfl ?_
 refine wl_as M rfl rfl ?_
 refine wl_as M rfl rfl ?_
 refine wl_nil ?_
 refine wc_seq ?_
 refine wc_region ?_
 refine wl_m M (q_ldbA 1 Tryz.underlying25 rfl sz25 rfl rfl rfl rfl) rfl rfl ?_
 refine wl_m M (q_ldbA 0 Tryz.underlying25 rfl sz25 rfl rfl rfl rfl) rfl rfl ?_
 refine wl_mv M rfl rfl ?_
 refine wl_mv M rfl rfl ?_
 refine wl_mv M rfl rfl ?_
 refine wl_e (e_callC M (middleC_c a b x z nI (by omega) (by omega) (few_mid hfa hfb) M.imm (hT.mono hJ56) ⟨_, _, rfl, (Rf1.mono hJ56), (Ra1.mono hJ56)⟩ ⟨_, _, rfl, (Rf2.mono hJ56), (Ra2.mono hJ56)⟩) Tryz.func12 rfl rfl) rfl rfl ?_
 rintro _ w13 ⟨J65, hJ65, ⟨u65, o65, e65, rfl, R65, hk65⟩, M⟩
 have hoJ65 := M.old
 refine wl_mv M rfl rfl ?_
 refine wl_m M (q_ext rfl rfl) rfl rfl ?_
 refine wl_m M (q_ext rfl rfl) rfl rfl ?_
 refine wl_as M rfl rfl ?_
 refine wl_as M rfl rfl ?_
 refine wl_nil ?_
 refine wc_seq ?_
 refine wc_seq ?_
 refine wc_join (α := Unit) [68, 69, 70, 71, 72, 73, 74, 75, 76, 77] (fun _ => [(77, .bool (((!true) || (!decide (0 = 0))) || (decide (e65 = 1))))]) (fun _ w' => Mem w I J65 (box b7 25 [.int .i64 b.states, .int .i64 b.start, sv fu2, sv au2] :: box b6 25 [.int .i64 a.states, .int .i64 a.start, sv fu1, sv au1] :: []) w') ?_ ?_
 ·refine wc_region ?_
  refine wl_mv M rfl rfl ?_
  refine wl_m M (q_not rfl) rfl rfl ?_
  refine wl_mv M rfl rfl ?_
  rcases Bool.eq_false_or_eq_true (!true) with hg70 | hg70
  ·refine wl_m M (q_off 2 rfl rfl rfl hg70) rfl rfl ?_
   refine wl_m M (q_off 2 rfl rfl rfl hg70) rfl rfl ?_
   refine wl_m M (q_pickT rfl hg70 rfl) rfl rfl ?_
   refine wl_mv M rfl rfl ?_
   refine wl_m M (q_off 6 rfl rfl rfl rfl) rfl rfl ?_
   refine wl_m M (q_off 6 rfl rfl rfl rfl) rfl rfl ?_
   refine wl_m M (q_pickT rfl rfl rfl) rfl rfl ?_
   refine wl_nil ?_
   exact ⟨(), M, ⟨(show some (Value.bool true) = some (Value.bool (((!true) || (!decide (0 = 0))) || (decide (e65 = 1)))) from by first | (simp only [hg70, Bool.true_or, Bool.false_or, Bool.true_and, Bool.false_and, Bool.or_true, Bool.or_false, Bool.and_true, Bool.and_false]; done) | (simp_all; done) | (simp_all; omega)), trivial⟩, unw_take 10 rfl rfl⟩
  refine wl_m M (q_guard 2 rfl rfl rfl hg70 (q_move rfl)) rfl rfl ?_
  refine wl_m M (q_guard 2 rfl rfl rfl hg70 (q_neq rfl rfl)) rfl rfl ?_
  refine wl_m M (q_pickF rfl hg70 rfl) rfl rfl ?_
  refine wl_mv M rfl rfl ?_
  rcases Bool.eq_false_or_eq_true (!decide (0 = 0)) with hg74 | hg74
  ·refine wl_m M (q_off 6 rfl rfl rfl hg74) rfl rfl ?_
   refine wl_m M (q_off 6 rfl rfl rfl hg74) rfl rfl ?_
   refine wl_m M (q_pickT rfl hg74 rfl) rfl rfl ?_
   refine wl_nil ?_
   exact ⟨(), M, ⟨(show some (Value.bool true) = some (Value.bool (((!true) || (!decide (0 = 0))) || (decide (e65 = 1)))) from by first | (simp only [hg70, hg74, Bool.true_or, Bool.false_or, Bool.true_and, Bool.false_and, Bool.or_true, Bool.or_false, Bool.and_true, Bool.and_false]; done) | (simp_all; done) | (simp_all; omega)), trivial⟩, unw_take 10 rfl rfl⟩
  refine wl_m M (q_guard 6 rfl rfl rfl hg74 (q_move rfl)) rfl rfl ?_
  refine wl_m M (q_guard 6 rfl rfl rfl hg74 (q_eql rfl rfl)) rfl rfl ?_
  refine wl_m M (q_pickF rfl hg74 rfl) rfl rfl ?_
  refine wl_nil ?_
  exact ⟨(), M, ⟨(show some (Value.bool (decide (e65 = 1))) = some (Value.bool (((!true) || (!decide (0 = 0))) || (decide (e65 = 1)))) from by first | (simp only [hg70, hg74, Bool.true_or, Bool.false_or, Bool.true_and, Bool.false_and, Bool.or_true, Bool.or_false, Bool.and_true, Bool.and_false]; done) | (simp_all; done) | (simp_all; omega)), trivial⟩, unw_take 10 rfl rfl⟩
 rintro _ jr5 w14 M
 refine wc_cond rfl (fun ht77 => ?_) (fun ht77 => ?_)
 ·have he1 : e65 = 1 := by simpa using ht77
  refine wc_seq ?_
  refine wc_join (α := Unit) [12, 78, 79, 80, 81, 82, 83, 84, 85, 86, 87, 88, 89, 90] (fun _ => [(12, .bool ((true && (decide (0 = 0))) && ((decide (nI < 0)) || (decide (40 < nI)))))]) (fun _ w' => Mem w I J65 (box b7 25 [.int .i64 b.states, .int .i64 b.start, sv fu2, sv au2] :: box b6 25 [.int .i64 a.states, .int .i64 a.start, sv fu1, sv au1] :: []) w') ?_ ?_
  ·refine wc_region ?_
   refine wl_mv M rfl rfl ?_
   refine wl_mv M rfl rfl ?_
   refine wl_m M (q_guard 1 rfl rfl rfl rfl (q_move rfl)) rfl rfl ?_
   refine wl_m M (q_guard 1 rfl rfl rfl rfl (q_eql rfl rfl)) rfl rfl ?_
   refine wl_m M (q_pickT rfl rfl rfl) rfl rfl ?_
   refine wl_mv M rfl rfl ?_
   rcases Bool.eq_false_or_eq_true (decide (0 = 0)) with hg83 | hg83
   ·refine wl_m M (q_guard 5 rfl rfl rfl hg83 (q_move rfl)) rfl rfl ?_
    refine wl_m M (q_guard 5 rfl rfl rfl hg83 (q_lss rfl rfl)) rfl rfl ?_
    refine wl_m M (q_guard 5 rfl rfl rfl hg83 (q_move rfl)) rfl rfl ?_
    rcases Bool.eq_false_or_eq_true (decide (nI < 0)) with hg86 | hg86
    ·refine wl_m M (q_off 8 rfl rfl rfl hg86) rfl rfl ?_
     refine wl_m M (q_off 8 rfl rfl rfl hg86) rfl rfl ?_
     refine wl_m M (q_guard 5 rfl rfl rfl hg83 (q_pickT rfl hg86 rfl)) rfl rfl ?_
     refine wl_m M (q_pickT rfl hg83 rfl) rfl rfl ?_
     refine wl_as M rfl rfl ?_
     refine wl_nil ?_
     exact ⟨(), M, ⟨(show some (Value.bool true) = some (Value.bool ((true && (decide (0 = 0))) && ((decide (nI < 0)) || (decide (40 < nI))))) from by first | (simp only [hg83, hg86, Bool.true_or, Bool.false_or, Bool.true_and, Bool.false_and, Bool.or_true, Bool.or_false, Bool.and_true, Bool.and_false]; done) | (simp_all; done) | (simp_all; omega)), trivial⟩, unw_take 14 rfl rfl⟩
    refine wl_m M (q_guard 8 rfl rfl rfl hg86 (q_move rfl)) rfl rfl ?_
    refine wl_m M (q_guard 8 rfl rfl rfl hg86 (q_gtr rfl rfl)) rfl rfl ?_
    refine wl_m M (q_guard 5 rfl rfl rfl hg83 (q_pickF rfl hg86 rfl)) rfl rfl ?_
    refine wl_m M (q_pickT rfl hg83 rfl) rfl rfl ?_
    refine wl_as M rfl rfl ?_
    refine wl_nil ?_
    exact ⟨(), M, ⟨(show some (Value.bool (decide (40 < nI))) = some (Value.bool ((true && (decide (0 = 0))) && ((decide (nI < 0)) || (decide (40 < nI))))) from by first | (simp only [hg83, hg86, Bool.true_or, Bool.false_or, Bool.true_and, Bool.false_and, Bool.or_true, Bool.or_false, Bool.and_true, Bool.and_false]; done) | (simp_all; done) | (simp_all; omega)), trivial⟩, unw_take 14 rfl rfl⟩
   refine wl_m M (q_off 5 rfl rfl rfl hg83) rfl rfl ?_
   refine wl_m M (q_off 5 rfl rfl rfl hg83) rfl rfl ?_
   refine wl_m M (q_off 5 rfl rfl rfl hg83) rfl rfl ?_
   refine wl_m M (q_offu 8 rfl rfl rfl) rfl rfl ?_
   refine wl_m M (q_offu 8 rfl rfl rfl) rfl rfl ?_
   refine wl_m M (q_off 5 rfl rfl rfl hg83) rfl rfl ?_
   refine wl_m M (q_pickF rfl hg83 rfl) rfl rfl ?_
   refine wl_as M rfl rfl ?_
   refine wl_nil ?_
   exact ⟨(), M, ⟨(show some (Value.bool false) = some (Value.bool ((true && (decide (0 = 0))) && ((decide (nI < 0)) || (decide (40 < nI))))) from by first | (simp only [hg83, Bool.true_or, Bool.false_or, Bool.true_and, Bool.false_and, Bool.or_true, Bool.or_false, Bool.and_true, Bool.and_false]; done) | (simp_all; done) | (simp_all; omega)), trivial⟩, unw_take 14 rfl rfl⟩
  rintro _ jr6 w15 M
  refine wc_ret ?_
  exact out1 rfl rfl ⟨_, _, rfl, M.grow, (by have hgb := given_bad hk65 h0 he1; simp only [Bool.or_eq_true, decide_eq_true_eq] at hgb; simp; try omega)⟩
 have he1 : ¬ e65 = 1 := by simpa using ht77
 refine wc_skip ?_
 refine wc_seq ?_
 refine wc_region ?_
 refine wl_as M rfl rfl ?_
 refine wl_nil ?_
 refine wc_seq ?_
 refine wc_seq ?_
 refine wc_region ?_
 refine wl_as M rfl rfl ?_
 refine wl_nil ?_
 refine wc_block ?_
 refine wc_loop (α := Nat × Bool) [17, 18, 91, 92, 93, 94, 95, 96, 97, 98, 99, 100, 101, 102, 103, 104, 105] (fun ((k0, is0) : Nat × Bool) => [(17, .bool is0), (18, .int .i64 (k0 : Int))])
   (fun ((k0, is0) : Nat × Bool) w' => (k0 ≤ o65.length) ∧ (is0 = (o65.take k0).any fun s => decide (s = y)) ∧ Mem w I J65 (box b7 25 [.int .i64 b.states, .int .i64 b.start, sv fu2, sv au2] :: box b6 25 [.int .i64 a.states, .int .i64 a.start, sv fu1, sv au1] :: []) w')
   (fun ((k0, is0) : Nat × Bool) => o65.length - k0) (0, false) ⟨rfl, rfl, trivial⟩ ?_ ?_
 ·refine ⟨Nat.zero_le _, rfl, ?_⟩
  exact M
 rintro ⟨k0, is0⟩ jj0 w16 ⟨hk0, his, M⟩
 have hoJ65 := M.old
 refine wc_seq ?_
 refine wc_seq ?_
 refine wc_region ?_
 refine wl_mv M rfl rfl ?_
 refine wl_mv M rfl rfl ?_
 refine wl_m M (q_lenR R65 Tryz.underlying31 rfl) rfl rfl ?_
 refine wl_m M (q_lss rfl rfl) rfl rfl ?_
 refine wl_nil ?_
 refine wc_dec rfl (fun ht94 => ?_) (fun ht94 => ?_)
 ·obtain ⟨x0, hx0⟩ : ∃ x_, o65[k0]? = some x_ := ⟨_, List.getElem?_eq_getElem (by omega)⟩
  have hll0 := (R65).len_le
  refine wc_skip ?_
  refine wc_seq ?_
  refine wc_block ?_
  refine wc_join (α := Unit) [17, 97, 98, 99, 100, 101, 102, 103, 104, 105] (fun _ => [(17, .bool (is0 || (decide (x0 = y))))]) (fun _ w' => Mem w I J65 (box b7 25 [.int .i64 b.states, .int .i64 b.start, sv fu2, sv au2] :: box b6 25 [.int .i64 a.states, .int .i64 a.start, sv fu1, sv au1] :: []) w') ?_ ?_
  ·refine wc_region ?_
   refine wl_mv M rfl rfl ?_
   refine wl_mv M rfl rfl ?_
   rcases Bool.eq_false_or_eq_true (is0) with hg98 | hg98
   ·refine wl_m M (q_off 1 rfl rfl rfl hg98) rfl rfl ?_
    refine wl_m M (q_off 1 rfl rfl rfl hg98) rfl rfl ?_
    refine wl_m M (q_off 1 rfl rfl rfl hg98) rfl rfl ?_
    refine wl_m M (q_off 1 rfl rfl rfl hg98) rfl rfl ?_
    refine wl_m M (q_off 1 rfl rfl rfl hg98) rfl rfl ?_
    refine wl_m M (q_off 1 rfl rfl rfl hg98) rfl rfl ?_
    refine wl_m M (q_pickT rfl hg98 rfl) rfl rfl ?_
    refine wl_as M rfl rfl ?_
    refine wl_nil ?_
    exact ⟨(), M, ⟨(show some (Value.bool true) = some (Value.bool (is0 || (decide (x0 = y)))) from by first | (simp only [hg98, Bool.true_or, Bool.false_or, Bool.true_and, Bool.false_and, Bool.or_true, Bool.or_false, Bool.and_true, Bool.and_false]; done) | (simp_all; done) | (simp_all; omega)), trivial⟩, unw_take 10 rfl rfl⟩
   refine wl_m M (q_guard 1 rfl rfl rfl hg98 (q_move rfl)) rfl rfl ?_
   refine wl_m M (q_guard 1 rfl rfl rfl hg98 (q_move rfl)) rfl rfl ?_
   refine wl_ixG (j := k0) 1 rfl rfl rfl hg98 M R65 Tryz.underlying31 rfl rfl hx0 rfl (fun b101 o101 p101 => ?_)
   refine wl_m M (q_guard 1 rfl rfl rfl hg98 (q_ldp p101 rfl rfl)) rfl rfl ?_
   refine wl_m M (q_guard 1 rfl rfl rfl hg98 (q_move rfl)) rfl rfl ?_
   refine wl_m M (q_guard 1 rfl rfl rfl hg98 (q_eqlS rfl rfl)) rfl rfl ?_
   refine wl_m M (q_pickF rfl hg98 rfl) rfl rfl ?_
   refine wl_as M rfl rfl ?_
   refine wl_nil ?_
   exact ⟨(), M, ⟨(show some (Value.bool (decide (x0 = y))) = some (Value.bool (is0 || (decide (x0 = y)))) from by first | (simp only [hg98, Bool.true_or, Bool.false_or, Bool.true_and, Bool.false_and, Bool.or_true, Bool.or_false, Bool.and_true, Bool.and_false]; done) | (simp_all; done) | (simp_all; omega)), trivial⟩, unw_take 10 rfl rfl⟩
  rintro _ jr11 w17 M
  refine wc_region ?_
  refine wl_mv M rfl rfl ?_
  refine wl_m M (q_add rfl rfl (IntWalk.i64_in _ (by omega))) rfl rfl ?_
  refine wl_as M rfl rfl ?_
  refine wl_nil ?_
  refine ⟨(k0 + 1, (is0 || decide (x0 = y))), ?_, ⟨(by omega), (by rw [take_snoc hx0, List.any_append, ← his]; simp), M⟩, ⟨rfl, rfl, trivial⟩, unw_look rfl (unw_hav rfl (unw_look rfl unw_base))⟩
  show o65.length - (k0 + 1) < o65.length - k0
  omega
 have hke0 : k0 = o65.length := by omega
 rw [hke0, List.take_length] at his
 refine wc_exit rfl ?_
 refine wc_seq ?_
 refine wc_join (α := Unit) [12, 106, 107, 108, 109, 110, 111, 112, 113, 114, 115, 116] (fun _ => [(12, .bool ((decide (e65 = 2)) || (is0 == decide (((runesL y).length : Int) ≤ nI))))]) (fun _ w' => Mem w I J65 (box b7 25 [.int .i64 b.states, .int .i64 b.start, sv fu2, sv au2] :: box b6 25 [.int .i64 a.states, .int .i64 a.start, sv fu1, sv au1] :: []) w') ?_ ?_
 ·refine wc_region ?_
  refine wl_mv M rfl rfl ?_
  refine wl_m M (q_eql rfl rfl) rfl rfl ?_
  refine wl_mv M rfl rfl ?_
  rcases Bool.eq_false_or_eq_true (decide (e65 = 2)) with hg108 | hg108
  ·refine wl_m M (q_off 2 rfl rfl rfl hg108) rfl rfl ?_
   refine wl_m M (q_off 2 rfl rfl rfl hg108) rfl rfl ?_
   refine wl_m M (q_off 2 rfl rfl rfl hg108) rfl rfl ?_
   refine wl_m M (q_off 2 rfl rfl rfl hg108) rfl rfl ?_
   refine wl_m M (q_off 2 rfl rfl rfl hg108) rfl rfl ?_
   refine wl_m M (q_off 2 rfl rfl rfl hg108) rfl rfl ?_
   refine wl_m M (q_off 2 rfl rfl rfl hg108) rfl rfl ?_
   refine wl_m M (q_pickT rfl hg108 rfl) rfl rfl ?_
   refine wl_as M rfl rfl ?_
   refine wl_nil ?_
   exact ⟨(), M, ⟨(show some (Value.bool true) = some (Value.bool ((decide (e65 = 2)) || (is0 == decide (((runesL y).length : Int) ≤ nI)))) from by first | (simp only [hg108, Bool.true_or, Bool.false_or, Bool.true_and, Bool.false_and, Bool.or_true, Bool.or_false, Bool.and_true, Bool.and_false]; done) | (simp_all; done) | (simp_all; omega)), trivial⟩, unw_take 12 rfl rfl⟩
  refine wl_m M (q_guard 2 rfl rfl rfl hg108 (q_move rfl)) rfl rfl ?_
  refine wl_m M (q_guard 2 rfl rfl rfl hg108 (q_move rfl)) rfl rfl ?_
  refine wl_e (e_guard 2 rfl rfl rfl hg108 (e_cvRI (E := ERune) (s := y) M (fun _ => rfl) Tryz.underlying9 Tryz.underlying29 Tryz.underlying21 (by omega) rfl)) rfl rfl ?_
  rintro v111 w18 ⟨J111, hJ111, R111, M⟩
  obtain ⟨u111, rfl⟩ := rdSl_slice R111
  have hoJ111 := M.old
  replace R111 : rdSl ERune J111 (sv u111) (runesL y) := R111
  refine wl_m M (q_guard 2 rfl rfl rfl hg108 (q_lenR R111 Tryz.underlying29 rfl)) rfl rfl ?_
  refine wl_m M (q_guard 2 rfl rfl rfl hg108 (q_move rfl)) rfl rfl ?_
  refine wl_m M (q_guard 2 rfl rfl rfl hg108 (q_leq rfl rfl)) rfl rfl ?_
  refine wl_m M (q_guard 2 rfl rfl rfl hg108 (q_eqlB Tryz.underlying4 rfl rfl)) rfl rfl ?_
  refine wl_m M (q_pickF rfl hg108 rfl) rfl rfl ?_
  refine wl_as M rfl rfl ?_
  refine wl_nil ?_
  replace M := M.less hJ111 hoJ65
  exact ⟨(), M, ⟨(show some (Value.bool (is0 == decide (((runesL y).length : Int) ≤ nI))) = some (Value.bool ((decide (e65 = 2)) || (is0 == decide (((runesL y).length : Int) ≤ nI)))) from by first | (simp only [hg108, Bool.true_or, Bool.false_or, Bool.true_and, Bool.false_and, Bool.or_true, Bool.or_false, Bool.and_true, Bool.and_false]; done) | (simp_all; done) | (simp_all; omega)), trivial⟩, unw_take 12 rfl rfl⟩
 rintro _ jr12 w19 M
 refine wc_ret ?_
 exact out1 rfl rfl ⟨_, _, rfl, M.grow, by rw [his]; exact congrArg Value.bool (given_fin hrab hrbz hsx hsz hk65 he1)⟩
end Go.Proofs.YtmjieefhjmiagaaGreatDoor.G
