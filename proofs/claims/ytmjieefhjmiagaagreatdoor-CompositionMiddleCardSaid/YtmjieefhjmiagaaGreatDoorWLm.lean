/- Walks of the program's functions. -/
import Derived.Test.YtmjieefhjmiagaaGreatDoorWRm
import Derived.Test.YtmjieefhjmiagaaGreatDoorWMe
import Derived.Test.YtmjieefhjmiagaaGreatDoorWL0
import Derived.Test.YtmjieefhjmiagaaGreatDoorWRb
import Derived.Test.YtmjieefhjmiagaaGreatDoorWX
import Derived.Test.YtmjieefhjmiagaaGreatDoorGOpn
set_option linter.all false
namespace Go.Proofs.YtmjieefhjmiagaaGreatDoor.G
open Go Go.RowKit
set_option maxRecDepth 4000 in
set_option maxHeartbeats 2000000 in
theorem lawMiddle_c (a b : Tra) (x z : ByteArray) (nI : Int) {v1 v2 : Value} {I : Heap} {w : World} (hI : hle I (hp w)) (hT : Tabs I) (R1 : a.rd I v1) (R2 : b.rd I v2) : Calls A 3 #[v1, v2, .string x, .string z, .int .i64 nI] w (Ret w I fun r _ => r = .bool true) := by
 obtain ⟨fu1, au1, rfl, Rf1, Ra1⟩ := R1
 obtain ⟨fu2, au2, rfl, Rf2, Ra2⟩ := R2
 have M := Mem.start hI
 refine enter Tryz.func3 rfl 72 Tryz.ntmps3 [_, _, _, _, _] rfl ?_
 refine wc_seq ?_
 refine wc_region ?_
 refine wl_e (e_box M rfl) rfl rfl ?_
 rintro _ w1 ⟨b5, rfl, M⟩
 refine wl_e (e_box M rfl) rfl rfl ?_
 rintro _ w2 ⟨b6, rfl, M⟩
 refine wl_as M rfl rfl ?_
 refine wl_nil ?_
 refine wc_seq ?_
 refine wc_seq ?_
 refine wc_join (α := Unit) [15, 16, 17, 18, 19, 20, 21, 22, 23, 24, 25, 26, 27, 28, 29, 30, 31, 32, 33, 34, 35, 36, 37, 38, 39, 40, 41, 42, 43, 44] (fun _ => [(44, .bool (((((!true) || (!([a, b].all fewB))) || (!([x, z].all (fun s => !decide (20 < (s.size : Int))) && decide ((([x, z] : List ByteArray).length : Int) ≤ 6)))) || ((decide (4 < nI)) && (decide (nI ≤ 40)))) || (decide (3 < ((alphL a true).length : Int)))))]) (fun _ w' => Mem w I I (box b6 25 [.int .i64 b.states, .int .i64 b.start, sv fu2, sv au2] :: box b5 25 [.int .i64 a.states, .int .i64 a.start, sv fu1, sv au1] :: []) w') ?_ ?_
 ·refine wc_region ?_
  refine wl_e (e_callC M (awake_c M.imm hT) Tryz.func8 rfl rfl) rfl rfl ?_
  rintro _ w3 ⟨J15, hJ15, rfl, M⟩
  replace M := M.less hJ15 (fun _ _ => rfl)
  refine wl_m M (q_not rfl) rfl rfl ?_
  refine wl_mv M rfl rfl ?_
  rcases Bool.eq_false_or_eq_true (!true) with hg17 | hg17
  ·refine wl_m M (q_off 2 rfl rfl rfl hg17) rfl rfl ?_
   refine wl_m M (q_off 2 rfl rfl rfl hg17) rfl rfl ?_
   refine wl_m M (q_off 2 rfl rfl rfl hg17) rfl rfl ?_
   refine wl_m M (q_off 2 rfl rfl rfl hg17) rfl rfl ?_
   refine wl_m M (q_off 2 rfl rfl rfl hg17) rfl rfl ?_
   refine wl_m M (q_pickT rfl hg17 rfl) rfl rfl ?_
   refine wl_mv M rfl rfl ?_
   refine wl_m M (q_off 9 rfl rfl rfl rfl) rfl rfl ?_
   refine wl_m M (q_off 9 rfl rfl rfl rfl) rfl rfl ?_
   refine wl_m M (q_off 9 rfl rfl rfl rfl) rfl rfl ?_
   refine wl_m M (q_off 9 rfl rfl rfl rfl) rfl rfl ?_
   refine wl_m M (q_off 9 rfl rfl rfl rfl) rfl rfl ?_
   refine wl_m M (q_pickT rfl rfl rfl) rfl rfl ?_
   refine wl_mv M rfl rfl ?_
   refine wl_m M (q_off 16 rfl rfl rfl rfl) rfl rfl ?_
   refine wl_m M (q_off 16 rfl rfl rfl rfl) rfl rfl ?_
   refine wl_m M (q_off 16 rfl rfl rfl rfl) rfl rfl ?_
   refine wl_m M (q_offu 19 rfl rfl rfl) rfl rfl ?_
   refine wl_m M (q_offu 19 rfl rfl rfl) rfl rfl ?_
   refine wl_m M (q_off 16 rfl rfl rfl rfl) rfl rfl ?_
   refine wl_m M (q_pickT rfl rfl rfl) rfl rfl ?_
   refine wl_mv M rfl rfl ?_
   refine wl_m M (q_off 24 rfl rfl rfl rfl) rfl rfl ?_
   refine wl_m M (q_off 24 rfl rfl rfl rfl) rfl rfl ?_
   refine wl_m M (q_off 24 rfl rfl rfl rfl) rfl rfl ?_
   refine wl_m M (q_off 24 rfl rfl rfl rfl) rfl rfl ?_
   refine wl_m M (q_pickT rfl rfl rfl) rfl rfl ?_
   refine wl_nil ?_
   exact ⟨(), M, ⟨(show some (Value.bool true) = some (Value.bool (((((!true) || (!([a, b].all fewB))) || (!([x, z].all (fun s => !decide (20 < (s.size : Int))) && decide ((([x, z] : List ByteArray).length : Int) ≤ 6)))) || ((decide (4 < nI)) && (decide (nI ≤ 40)))) || (decide (3 < ((alphL a true).length : Int))))) from by first | (simp only [hg17, Bool.true_or, Bool.false_or, Bool.true_and, Bool.false_and, Bool.or_true, Bool.or_false, Bool.and_true, Bool.and_false]; done) | (simp_all; done) | (simp_all; omega)), trivial⟩, unw_take 30 rfl rfl⟩
  refine wl_m M (q_guard 2 rfl rfl rfl hg17 (q_ldbA 1 Tryz.underlying25 rfl sz25 rfl rfl rfl rfl)) rfl rfl ?_
  refine wl_m M (q_guard 2 rfl rfl rfl hg17 (q_ldbA 0 Tryz.underlying25 rfl sz25 rfl rfl rfl rfl)) rfl rfl ?_
  refine wl_e (e_guard 2 rfl rfl rfl hg17 (e_bsI (E := ETra) (xs := [(RTra.mk a.states a.start fu1 au1), (RTra.mk b.states b.start fu2 au2)]) M (bs_54_2 _ _ _ _ _ _ _ _) ⟨⟨rfl, rfl⟩, ⟨rfl, rfl⟩, trivial⟩ rfl rfl (by decide))) rfl rfl ?_
  rintro _ w4 ⟨u20, J20, rfl, hJ20, R20, M⟩
  have hoJ20 := M.old
  refine wl_e (e_guard 2 rfl rfl rfl hg17 (e_callC M (few_c M.imm (rdTras2 R20 (Rf1.mono hJ20) (Ra1.mono hJ20) (Rf2.mono hJ20) (Ra2.mono hJ20))) Tryz.func9 rfl rfl)) rfl rfl ?_
  rintro _ w5 ⟨J21, hJ21, rfl, M⟩
  replace M := M.less hJ21 hoJ20
  refine wl_m M (q_guard 2 rfl rfl rfl hg17 (q_not rfl)) rfl rfl ?_
  refine wl_m M (q_pickF rfl hg17 rfl) rfl rfl ?_
  refine wl_mv M rfl rfl ?_
  rcases Bool.eq_false_or_eq_true (!([a, b].all fewB)) with hg24 | hg24
  ·refine wl_m M (q_off 9 rfl rfl rfl hg24) rfl rfl ?_
   refine wl_m M (q_off 9 rfl rfl rfl hg24) rfl rfl ?_
   refine wl_m M (q_off 9 rfl rfl rfl hg24) rfl rfl ?_
   refine wl_m M (q_off 9 rfl rfl rfl hg24) rfl rfl ?_
   refine wl_m M (q_off 9 rfl rfl rfl hg24) rfl rfl ?_
   refine wl_m M (q_pickT rfl hg24 rfl) rfl rfl ?_
   refine wl_mv M rfl rfl ?_
   refine wl_m M (q_off 16 rfl rfl rfl rfl) rfl rfl ?_
   refine wl_m M (q_off 16 rfl rfl rfl rfl) rfl rfl ?_
   refine wl_m M (q_off 16 rfl rfl rfl rfl) rfl rfl ?_
   refine wl_m M (q_offu 19 rfl rfl rfl) rfl rfl ?_
   refine wl_m M (q_offu 19 rfl rfl rfl) rfl rfl ?_
   refine wl_m M (q_off 16 rfl rfl rfl rfl) rfl rfl ?_
   refine wl_m M (q_pickT rfl rfl rfl) rfl rfl ?_
   refine wl_mv M rfl rfl ?_
   refine wl_m M (q_off 24 rfl rfl rfl rfl) rfl rfl ?_
   refine wl_m M (q_off 24 rfl rfl rfl rfl) rfl rfl ?_
   refine wl_m M (q_off 24 rfl rfl rfl rfl) rfl rfl ?_
   refine wl_m M (q_off 24 rfl rfl rfl rfl) rfl rfl ?_
   refine wl_m M (q_pickT rfl rfl rfl) rfl rfl ?_
   refine wl_nil ?_
   replace M := M.less hJ20 (fun _ _ => rfl)
   exact ⟨(), M, ⟨(show some (Value.bool true) = some (Value.bool (((((!true) || (!([a, b].all fewB))) || (!([x, z].all (fun s => !decide (20 < (s.size : Int))) && decide ((([x, z] : List ByteArray).length : Int) ≤ 6)))) || ((decide (4 < nI)) && (decide (nI ≤ 40)))) || (decide (3 < ((alphL a true).length : Int))))) from by first | (simp only [hg17, hg24, Bool.true_or, Bool.false_or, Bool.true_and, Bool.false_and, Bool.or_true, Bool.or_false, Bool.and_true, Bool.and_false]; done) | (simp_all; done) | (simp_all; omega)), trivial⟩, unw_take 30 rfl rfl⟩
  refine wl_m M (q_guard 9 rfl rfl rfl hg24 (q_move rfl)) rfl rfl ?_
  refine wl_m M (q_guard 9 rfl rfl rfl hg24 (q_move rfl)) rfl rfl ?_
  refine wl_e (e_guard 9 rfl rfl rfl hg24 (e_bsI (E := EStr) (xs := [x, z]) M (bs_31_2 _ _) ⟨⟨rfl, rfl⟩, ⟨rfl, rfl⟩, trivial⟩ rfl rfl (by decide))) rfl rfl ?_
  rintro _ w6 ⟨u27, J27, rfl, hJ27, R27, M⟩
  have hoJ27 := M.old
  refine wl_e (e_guard 9 rfl rfl rfl hg24 (e_callC M (brief_c M.imm R27) Tryz.func10 rfl rfl)) rfl rfl ?_
  rintro _ w7 ⟨J28, hJ28, rfl, M⟩
  replace M := M.less hJ28 hoJ27
  refine wl_m M (q_guard 9 rfl rfl rfl hg24 (q_not rfl)) rfl rfl ?_
  refine wl_m M (q_pickF rfl hg24 rfl) rfl rfl ?_
  refine wl_mv M rfl rfl ?_
  rcases Bool.eq_false_or_eq_true (!([x, z].all (fun s => !decide (20 < (s.size : Int))) && decide ((([x, z] : List ByteArray).length : Int) ≤ 6))) with hg31 | hg31
  ·refine wl_m M (q_off 16 rfl rfl rfl hg31) rfl rfl ?_
   refine wl_m M (q_off 16 rfl rfl rfl hg31) rfl rfl ?_
   refine wl_m M (q_off 16 rfl rfl rfl hg31) rfl rfl ?_
   refine wl_m M (q_offu 19 rfl rfl rfl) rfl rfl ?_
   refine wl_m M (q_offu 19 rfl rfl rfl) rfl rfl ?_
   refine wl_m M (q_off 16 rfl rfl rfl hg31) rfl rfl ?_
   refine wl_m M (q_pickT rfl hg31 rfl) rfl rfl ?_
   refine wl_mv M rfl rfl ?_
   refine wl_m M (q_off 24 rfl rfl rfl rfl) rfl rfl ?_
   refine wl_m M (q_off 24 rfl rfl rfl rfl) rfl rfl ?_
   refine wl_m M (q_off 24 rfl rfl rfl rfl) rfl rfl ?_
   refine wl_m M (q_off 24 rfl rfl rfl rfl) rfl rfl ?_
   refine wl_m M (q_pickT rfl rfl rfl) rfl rfl ?_
   refine wl_nil ?_
   replace M := M.less (hle.trans hJ20 hJ27) (fun _ _ => rfl)
   exact ⟨(), M, ⟨(show some (Value.bool true) = some (Value.bool (((((!true) || (!([a, b].all fewB))) || (!([x, z].all (fun s => !decide (20 < (s.size : Int))) && decide ((([x, z] : List ByteArray).length : Int) ≤ 6)))) || ((decide (4 < nI)) && (decide (nI ≤ 40)))) || (decide (3 < ((alphL a true).length : Int))))) from by first | (simp only [hg17, hg24, hg31, Bool.true_or, Bool.false_or, Bool.true_and, Bool.false_and, Bool.or_true, Bool.or_false, Bool.and_true, Bool.and_false]; done) | (simp_all; done) | (simp_all; omega)), trivial⟩, unw_take 30 rfl rfl⟩
  refine wl_m M (q_guard 16 rfl rfl rfl hg31 (q_move rfl)) rfl rfl ?_
  refine wl_m M (q_guard 16 rfl rfl rfl hg31 (q_gtr rfl rfl)) rfl rfl ?_
  refine wl_m M (q_guard 16 rfl rfl rfl hg31 (q_move rfl)) rfl rfl ?_
  rcases Bool.eq_false_or_eq_true (decide (4 < nI)) with hg34 | hg34
  ·refine wl_m M (q_guard 19 rfl rfl rfl hg34 (q_move rfl)) rfl rfl ?_
   refine wl_m M (q_guard 19 rfl rfl rfl hg34 (q_leq rfl rfl)) rfl rfl ?_
   refine wl_m M (q_guard 16 rfl rfl rfl hg31 (q_pickT rfl hg34 rfl)) rfl rfl ?_
   refine wl_m M (q_pickF rfl hg31 rfl) rfl rfl ?_
   refine wl_mv M rfl rfl ?_
   rcases Bool.eq_false_or_eq_true (decide (nI ≤ 40)) with hg39 | hg39
   ·refine wl_m M (q_off 24 rfl rfl rfl hg39) rfl rfl ?_
    refine wl_m M (q_off 24 rfl rfl rfl hg39) rfl rfl ?_
    refine wl_m M (q_off 24 rfl rfl rfl hg39) rfl rfl ?_
    refine wl_m M (q_off 24 rfl rfl rfl hg39) rfl rfl ?_
    refine wl_m M (q_pickT rfl hg39 rfl) rfl rfl ?_
    refine wl_nil ?_
    replace M := M.less (hle.trans hJ20 hJ27) (fun _ _ => rfl)
    exact ⟨(), M, ⟨(show some (Value.bool true) = some (Value.bool (((((!true) || (!([a, b].all fewB))) || (!([x, z].all (fun s => !decide (20 < (s.size : Int))) && decide ((([x, z] : List ByteArray).length : Int) ≤ 6)))) || ((decide (4 < nI)) && (decide (nI ≤ 40)))) || (decide (3 < ((alphL a true).length : Int))))) from by first | (simp only [hg17, hg24, hg31, hg34, hg39, Bool.true_or, Bool.false_or, Bool.true_and, Bool.false_and, Bool.or_true, Bool.or_false, Bool.and_true, Bool.and_false]; done) | (simp_all; done) | (simp_all; omega)), trivial⟩, unw_take 30 rfl rfl⟩
   refine wl_m M (q_guard 24 rfl rfl rfl hg39 (q_ldbA 1 Tryz.underlying25 rfl sz25 rfl rfl rfl rfl)) rfl rfl ?_
   have hff0 : ([a, b].all fewB) = true := by revert hg24; generalize ([a, b].all fewB) = q; cases q <;> simp
   obtain ⟨hfa0, hfb0⟩ := few2_all hff0
   have hal := (few_mid hfa0 hfb0).2.1
   refine wl_e (e_guard 24 rfl rfl rfl hg39 (e_callC M (alphabet_c a (by omega) true M.imm ⟨_, _, rfl, ((Rf1.mono hJ20).mono hJ27), ((Ra1.mono hJ20).mono hJ27)⟩) Tryz.func11 rfl rfl)) rfl rfl ?_
   rintro v41 w8 ⟨J41, hJ41, R41, M⟩
   obtain ⟨u41, rfl⟩ := rdSl_slice R41
   have hoJ41 := M.old
   replace R41 : rdSl ERune J41 (sv u41) ((alphL a true)) := R41
   refine wl_m M (q_guard 24 rfl rfl rfl hg39 (q_lenR R41 Tryz.underlying29 rfl)) rfl rfl ?_
   refine wl_m M (q_guard 24 rfl rfl rfl hg39 (q_gtr rfl rfl)) rfl rfl ?_
   refine wl_m M (q_pickF rfl hg39 rfl) rfl rfl ?_
   refine wl_nil ?_
   replace M := M.less (hle.trans (hle.trans hJ20 hJ27) hJ41) (fun _ _ => rfl)
   exact ⟨(), M, ⟨(show some (Value.bool (decide (3 < ((alphL a true).length : Int)))) = some (Value.bool (((((!true) || (!([a, b].all fewB))) || (!([x, z].all (fun s => !decide (20 < (s.size : Int))) && decide ((([x, z] : List ByteArray).length : Int) ≤ 6)))) || ((decide (4 < nI)) && (decide (nI ≤ 40)))) || (decide (3 < ((alphL a true).length : Int))))) from by first | (simp only [hg17, hg24, hg31, hg34, hg39, Bool.true_or, Bool.false_or, Bool.true_and, Bool.false_and, Bool.or_true, Bool.or_false, Bool.and_true, Bool.and_false]; done) | (simp_all; done) | (simp_all; omega)), trivial⟩, unw_take 30 rfl rfl⟩
  refine wl_m M (q_off 19 rfl rfl rfl hg34) rfl rfl ?_
  refine wl_m M (q_off 19 rfl rfl rfl hg34) rfl rfl ?_
  refine wl_m M (q_guard 16 rfl rfl rfl hg31 (q_pickF rfl hg34 rfl)) rfl rfl ?_
  refine wl_m M (q_pickF rfl hg31 rfl) rfl rfl ?_
  refine wl_mv M rfl rfl ?_
  refine wl_m M (q_guard 24 rfl rfl rfl rfl (q_ldbA 1 Tryz.underlying25 rfl sz25 rfl rfl rfl rfl)) rfl rfl ?_
  have hff0 : ([a, b].all fewB) = true := by revert hg24; generalize ([a, b].all fewB) = q; cases q <;> simp
  obtain ⟨hfa0, hfb0⟩ := few2_all hff0
  have hal := (few_mid hfa0 hfb0).2.1
  refine wl_e (e_guard 24 rfl rfl rfl rfl (e_callC M (alphabet_c a (by omega) true M.imm ⟨_, _, rfl, ((Rf1.mono hJ20).mono hJ27), ((Ra1.mono hJ20).mono hJ27)⟩) Tryz.func11 rfl rfl)) rfl rfl ?_
  rintro v41 w9 ⟨J41, hJ41, R41, M⟩
  obtain ⟨u41, rfl⟩ := rdSl_slice R41
  have hoJ41 := M.old
  replace R41 : rdSl ERune J41 (sv u41) ((alphL a true)) := R41
  refine wl_m M (q_guard 24 rfl rfl rfl rfl (q_lenR R41 Tryz.underlying29 rfl)) rfl rfl ?_
  refine wl_m M (q_guard 24 rfl rfl rfl rfl (q_gtr rfl rfl)) rfl rfl ?_
  refine wl_m M (q_pickF rfl rfl rfl) rfl rfl ?_
  refine wl_nil ?_
  replace M := M.less (hle.trans (hle.trans hJ20 hJ27) hJ41) (fun _ _ => rfl)
  exact ⟨(), M, ⟨(show some (Value.bool (decide (3 < ((alphL a true).length : Int)))) = some (Value.bool (((((!true) || (!([a, b].all fewB))) || (!([x, z].all (fun s => !decide (20 < (s.size : Int))) && decide ((([x, z] : List ByteArray).length : Int) ≤ 6)))) || ((decide (4 < nI)) && (decide (nI ≤ 40)))) || (decide (3 < ((alphL a true).length : Int))))) from by first | (simp only [hg17, hg24, hg31, hg34, Bool.true_or, Bool.false_or, Bool.true_and, Bool.false_and, Bool.or_true, Bool.or_false, Bool.and_true, Bool.and_false]; done) | (simp_all; done) | (simp_all; omega)), trivial⟩, unw_take 30 rfl rfl⟩
 rintro _ jr1 w10 M
 refine wc_cond rfl (fun ht44 => ?_) (fun ht44 => ?_)
 ·refine wc_seq ?_
  refine wc_region ?_
  refine wl_e (e_callC M (awake_c M.imm hT) Tryz.func8 rfl rfl) rfl rfl ?_
  rintro _ w11 ⟨J45, hJ45, rfl, M⟩
  replace M := M.less hJ45 (fun _ _ => rfl)
  refine wl_as M rfl rfl ?_
  refine wl_nil ?_
  refine wc_ret ?_
  exact out1 rfl rfl ⟨_, _, rfl, M.grow, rfl⟩
 have hff : ([a, b].all fewB) = true := by revert ht44; generalize ([a, b].all fewB) = q; cases q <;> simp
 obtain ⟨hfa, hfb⟩ := few2_all hff
 have hbr : ([x, z].all (fun s => !decide (20 < (s.size : Int)))) = true := by revert ht44; generalize ([x, z].all (fun s => !decide (20 < (s.size : Int)))) = q; cases q <;> simp
 obtain ⟨hsx, hsz⟩ := brief2 hbr
 have hnn4 : (decide (4 < nI) && decide (nI ≤ 40)) = false := by revert ht44; generalize (decide (4 < nI) && decide (nI ≤ 40)) = q; cases q <;> simp
 have hal3 : (decide (3 < ((alphL a true).length : Int))) = false := by revert ht44; generalize (decide (3 < ((alphL a true).length : Int))) = q; cases q <;> simp
 have hn4 : nI ≤ 4 ∨ 40 < nI := by simp at hnn4; omega
 have hal4 : (alphL a true).length ≤ 3 := by simp at hal3; omega
 refine wc_skip ?_
 refine wc_seq ?_
 refine wc_region ?_
 refine wl_m M (q_ldbA 1 Tryz.underlying25 rfl sz25 rfl rfl rfl rfl) rfl rfl ?_
 refine wl_m M (q_ldbA 0 Tryz.underlying25 rfl sz25 rfl rfl rfl rfl) rfl rfl ?_
 refine wl_mv M rfl rfl ?_
 refine wl_mv M rfl rfl ?_
 refine wl_mv M rfl rfl ?_
 refine wl_e (e_callC M (middleC_c a b x z nI (by omega) (by omega) (few_mid hfa hfb) M.imm hT ⟨_, _, rfl, Rf1, Ra1⟩ ⟨_, _, rfl, Rf2, Ra2⟩) Tryz.func12 rfl rfl) rfl rfl ?_
 rintro _ w12 ⟨J52, hJ52, ⟨u52, o52, e52, rfl, R52, hk52⟩, M⟩
 have hoJ52 := M.old
 refine wl_mv M rfl rfl ?_
 refine wl_m M (q_ext rfl rfl) rfl rfl ?_
 refine wl_m M (q_ext rfl rfl) rfl rfl ?_
 refine wl_as M rfl rfl ?_
 refine wl_as M rfl rfl ?_
 refine wl_nil ?_
 refine wc_seq ?_
 refine wc_region ?_
 refine wl_m M (q_ldbA 1 Tryz.underlying25 rfl sz25 rfl rfl rfl rfl) rfl rfl ?_
 refine wl_m M (q_ldbA 0 Tryz.underlying25 rfl sz25 rfl rfl rfl rfl) rfl rfl ?_
 refine wl_mv M rfl rfl ?_
 refine wl_mv M rfl rfl ?_
 refine wl_mv M rfl rfl ?_
 refine wl_e (e_callC M (middle5_c a b x z nI hsx hsz (by omega) (by omega) M.imm (hT.mono hJ52) ⟨_, _, rfl, (Rf1.mono hJ52), (Ra1.mono hJ52)⟩ ⟨_, _, rfl, (Rf2.mono hJ52), (Ra2.mono hJ52)⟩) Tryz.func13 rfl rfl) rfl rfl ?_
 rintro _ w13 ⟨J61, hJ61, ⟨u61, o61, e61, rfl, R61, hk61⟩, M⟩
 obtain ⟨rfl, rfl⟩ := mid_law hk52 hk61
 have hoJ61 := M.old
 refine wl_mv M rfl rfl ?_
 refine wl_m M (q_ext rfl rfl) rfl rfl ?_
 refine wl_m M (q_ext rfl rfl) rfl rfl ?_
 refine wl_as M rfl rfl ?_
 refine wl_as M rfl rfl ?_
 refine wl_nil ?_
 refine wc_seq ?_
 refine wc_join (α := Unit) [10, 64, 65, 66, 67, 68, 69, 70, 71] (fun _ => [(10, .bool ((decide (e52 = e52)) && (decide (o52 = o52))))]) (fun _ w' => Mem w I J61 (box b6 25 [.int .i64 b.states, .int .i64 b.start, sv fu2, sv au2] :: box b5 25 [.int .i64 a.states, .int .i64 a.start, sv fu1, sv au1] :: []) w') ?_ ?_
 ·refine wc_region ?_
  refine wl_mv M rfl rfl ?_
  refine wl_mv M rfl rfl ?_
  refine wl_m M (q_eql rfl rfl) rfl rfl ?_
  refine wl_mv M rfl rfl ?_
  rcases Bool.eq_false_or_eq_true (decide (e52 = e52)) with hg67 | hg67
  ·refine wl_m M (q_guard 3 rfl rfl rfl hg67 (q_move rfl)) rfl rfl ?_
   refine wl_m M (q_guard 3 rfl rfl rfl hg67 (q_move rfl)) rfl rfl ?_
   refine wl_e (e_guard 3 rfl rfl rfl hg67 (e_callC M (texts3_c M.imm (R52.mono hJ61) R61) Tryz.func14 rfl rfl)) rfl rfl ?_
   rintro _ w14 ⟨J70, hJ70, rfl, M⟩
   replace M := M.less hJ70 hoJ61
   refine wl_m M (q_pickT rfl hg67 rfl) rfl rfl ?_
   refine wl_as M rfl rfl ?_
   refine wl_nil ?_
   exact ⟨(), M, ⟨(show some (Value.bool (decide (o52 = o52))) = some (Value.bool ((decide (e52 = e52)) && (decide (o52 = o52)))) from by first | (simp only [hg67, Bool.true_or, Bool.false_or, Bool.true_and, Bool.false_and, Bool.or_true, Bool.or_false, Bool.and_true, Bool.and_false]; done) | (simp_all; done) | (simp_all; omega)), trivial⟩, unw_take 9 rfl rfl⟩
  refine wl_m M (q_off 3 rfl rfl rfl hg67) rfl rfl ?_
  refine wl_m M (q_off 3 rfl rfl rfl hg67) rfl rfl ?_
  refine wl_m M (q_off 3 rfl rfl rfl hg67) rfl rfl ?_
  refine wl_m M (q_pickF rfl hg67 rfl) rfl rfl ?_
  refine wl_as M rfl rfl ?_
  refine wl_nil ?_
  exact ⟨(), M, ⟨(show some (Value.bool false) = some (Value.bool ((decide (e52 = e52)) && (decide (o52 = o52)))) from by first | (simp only [hg67, Bool.true_or, Bool.false_or, Bool.true_and, Bool.false_and, Bool.or_true, Bool.or_false, Bool.and_true, Bool.and_false]; done) | (simp_all; done) | (simp_all; omega)), trivial⟩, unw_take 9 rfl rfl⟩
 rintro _ jr5 w15 M
 refine wc_ret ?_
 exact out1 rfl rfl ⟨_, _, rfl, M.grow, by simp⟩
end Go.Proofs.YtmjieefhjmiagaaGreatDoor.G
