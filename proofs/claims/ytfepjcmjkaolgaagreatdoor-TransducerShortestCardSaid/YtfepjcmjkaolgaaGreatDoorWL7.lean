/- Walks of the program's functions. -/
import Derived.Test.YtfepjcmjkaolgaaGreatDoorWL6
import Derived.Test.YtfepjcmjkaolgaaGreatDoorWRk
set_option linter.all false
namespace Go.Proofs.YtfepjcmjkaolgaaGreatDoor.G
open Go Go.RowKit
set_option maxRecDepth 4000 in
set_option maxHeartbeats 1000000 in
theorem lawShortest_c (t : Tra) {v1 : Value} {I : Heap} {w : World} (hI : hle I (hp w)) (hT : Tabs I) (R1 : t.rd I v1) : Calls A 4 #[v1] w (Ret w I fun r _ => r = .bool true) := by
 obtain ⟨fu1, au1, rfl, Rf1, Ra1⟩ := R1
 have M := Mem.start hI
 refine enter Tryz.func4 rfl 57 Tryz.ntmps4 [_] rfl ?_
 refine wc_seq ?_
 refine wc_region ?_
 refine wl_e (e_box M rfl) rfl rfl ?_
 rintro _ w1 ⟨b1, rfl, M⟩
 refine wl_as M rfl rfl ?_
 refine wl_nil ?_
 refine wc_seq ?_
 refine wc_seq ?_
 refine wc_join (α := Unit) [9, 10, 11, 12, 13, 14, 15, 16, 17, 18, 19, 20] (fun _ => [(20, .bool (((decide (3 < t.states)) && (validT t)) || (!(smallB3 t))))]) (fun _ w' => Mem w I I (box b1 25 [.int .i64 t.states, .int .i64 t.start, sv fu1, sv au1] :: []) w') ?_ ?_
 ·refine wc_region ?_
  refine wl_m M (q_fa fo_25_0 rfl) rfl rfl ?_
  refine wl_m M (q_ldb 0 Tryz.underlying3 rfl rfl rfl rfl) rfl rfl ?_
  refine wl_m M (q_gtr rfl rfl) rfl rfl ?_
  refine wl_mv M rfl rfl ?_
  rcases Bool.eq_false_or_eq_true (decide (3 < t.states)) with hg12 | hg12
  ·refine wl_m M (q_guard 3 rfl rfl rfl hg12 (q_ldbA 0 Tryz.underlying25 rfl sz25 rfl rfl rfl rfl)) rfl rfl ?_
   refine wl_e (e_guard 3 rfl rfl rfl hg12 (e_callC M (valid3_c t M.imm ⟨_, _, rfl, Rf1, Ra1⟩) Tryz.func11 rfl rfl)) rfl rfl ?_
   rintro _ w2 ⟨J14, hJ14, rfl, M⟩
   replace M := M.less hJ14 (fun _ _ => rfl)
   refine wl_m M (q_pickT rfl hg12 rfl) rfl rfl ?_
   refine wl_mv M rfl rfl ?_
   rcases Bool.eq_false_or_eq_true (validT t) with hg16 | hg16
   ·refine wl_m M (q_off 7 rfl rfl rfl hg16) rfl rfl ?_
    refine wl_m M (q_off 7 rfl rfl rfl hg16) rfl rfl ?_
    refine wl_m M (q_off 7 rfl rfl rfl hg16) rfl rfl ?_
    refine wl_m M (q_pickT rfl hg16 rfl) rfl rfl ?_
    refine wl_nil ?_
    exact ⟨(), M, ⟨(show some (Value.bool true) = some (Value.bool (((decide (3 < t.states)) && (validT t)) || (!(smallB3 t)))) from by first | (simp only [hg12, hg16, Bool.true_or, Bool.false_or, Bool.true_and, Bool.false_and, Bool.or_true, Bool.or_false, Bool.and_true, Bool.and_false]; done) | simp_all), trivial⟩, unw_take 12 rfl rfl⟩
   refine wl_m M (q_guard 7 rfl rfl rfl hg16 (q_ldbA 0 Tryz.underlying25 rfl sz25 rfl rfl rfl rfl)) rfl rfl ?_
   refine wl_e (e_guard 7 rfl rfl rfl hg16 (e_callC M (small3_c t M.imm ⟨_, _, rfl, Rf1, Ra1⟩) Tryz.func6 rfl rfl)) rfl rfl ?_
   rintro _ w3 ⟨J18, hJ18, rfl, M⟩
   replace M := M.less hJ18 (fun _ _ => rfl)
   refine wl_m M (q_guard 7 rfl rfl rfl hg16 (q_not rfl)) rfl rfl ?_
   refine wl_m M (q_pickF rfl hg16 rfl) rfl rfl ?_
   refine wl_nil ?_
   exact ⟨(), M, ⟨(show some (Value.bool (!(smallB3 t))) = some (Value.bool (((decide (3 < t.states)) && (validT t)) || (!(smallB3 t)))) from by first | (simp only [hg12, hg16, Bool.true_or, Bool.false_or, Bool.true_and, Bool.false_and, Bool.or_true, Bool.or_false, Bool.and_true, Bool.and_false]; done) | simp_all), trivial⟩, unw_take 12 rfl rfl⟩
  refine wl_m M (q_off 3 rfl rfl rfl hg12) rfl rfl ?_
  refine wl_m M (q_off 3 rfl rfl rfl hg12) rfl rfl ?_
  refine wl_m M (q_pickF rfl hg12 rfl) rfl rfl ?_
  refine wl_mv M rfl rfl ?_
  refine wl_m M (q_guard 7 rfl rfl rfl rfl (q_ldbA 0 Tryz.underlying25 rfl sz25 rfl rfl rfl rfl)) rfl rfl ?_
  refine wl_e (e_guard 7 rfl rfl rfl rfl (e_callC M (small3_c t M.imm ⟨_, _, rfl, Rf1, Ra1⟩) Tryz.func6 rfl rfl)) rfl rfl ?_
  rintro _ w4 ⟨J18, hJ18, rfl, M⟩
  replace M := M.less hJ18 (fun _ _ => rfl)
  refine wl_m M (q_guard 7 rfl rfl rfl rfl (q_not rfl)) rfl rfl ?_
  refine wl_m M (q_pickF rfl rfl rfl) rfl rfl ?_
  refine wl_nil ?_
  exact ⟨(), M, ⟨(show some (Value.bool (!(smallB3 t))) = some (Value.bool (((decide (3 < t.states)) && (validT t)) || (!(smallB3 t)))) from by first | (simp only [hg12, Bool.true_or, Bool.false_or, Bool.true_and, Bool.false_and, Bool.or_true, Bool.or_false, Bool.and_true, Bool.and_false]; done) | simp_all), trivial⟩, unw_take 12 rfl rfl⟩
 rintro _ jr1 w5 M
 refine wc_cond rfl (fun ht20 => ?_) (fun ht20 => ?_)
 ·refine wc_seq ?_
  refine wc_region ?_
  refine wl_e (e_callC M (awake3_c M.imm) Tryz.func7 rfl rfl) rfl rfl ?_
  rintro _ w6 ⟨J21, hJ21, rfl, M⟩
  replace M := M.less hJ21 (fun _ _ => rfl)
  refine wl_as M rfl rfl ?_
  refine wl_nil ?_
  refine wc_ret ?_
  exact out1 rfl rfl ⟨_, _, rfl, M.grow, rfl⟩
 rw [Bool.or_eq_false_iff] at ht20
 obtain ⟨h1, h2⟩ := ht20
 obtain ⟨hs1, hs2, hv, hs4, hs5⟩ := small3 (t := t) (by simpa using h2)
 have h3 : t.states ≤ 3 := by rw [hv, Bool.and_true, decide_eq_false_iff_not] at h1; omega
 refine wc_skip ?_
 refine wc_seq ?_
 refine wc_region ?_
 refine wl_m M (q_ldbA 0 Tryz.underlying25 rfl sz25 rfl rfl rfl rfl) rfl rfl ?_
 refine wl_e (e_callC M (shortest_c t (fun _ => Nat.le_trans (Nat.mul_le_mul (Nat.mul_le_mul (show t.states.toNat ≤ 3 by omega) (show 2 * t.states.toNat + 1 ≤ 7 by omega)) hs2) (by decide)) (fun _ => alph_hal hs5) sht_h M.imm ⟨_, _, rfl, Rf1, Ra1⟩) Tryz.func12 rfl rfl) rfl rfl ?_
 rintro _ w7 ⟨J24, hJ24, ⟨xA, yA, bA, rfl, hsP⟩, M⟩
 have hoJ24 := M.old
 refine wl_mv M rfl rfl ?_
 refine wl_m M (q_ext rfl rfl) rfl rfl ?_
 refine wl_m M (q_ext rfl rfl) rfl rfl ?_
 refine wl_m M (q_ext rfl rfl) rfl rfl ?_
 refine wl_as M rfl rfl ?_
 refine wl_as M rfl rfl ?_
 refine wl_as M rfl rfl ?_
 refine wl_nil ?_
 refine wc_seq ?_
 refine wc_region ?_
 refine wl_m M (q_ldbA 0 Tryz.underlying25 rfl sz25 rfl rfl rfl rfl) rfl rfl ?_
 refine wl_e (e_callC M (shortest3_c t h3 hv hs4 hs5 (sht_ex hsP) M.imm (hT.mono hJ24) ⟨_, _, rfl, (Rf1.mono hJ24), (Ra1.mono hJ24)⟩) Tryz.func13 rfl rfl) rfl rfl ?_
 rintro _ w8 ⟨J30, hJ30, ⟨xB, yB, bB, rfl, hsR⟩, M⟩
 obtain ⟨rfl, rfl, rfl⟩ := sht_law hsP hsR
 have hoJ30 := M.old
 refine wl_mv M rfl rfl ?_
 refine wl_m M (q_ext rfl rfl) rfl rfl ?_
 refine wl_m M (q_ext rfl rfl) rfl rfl ?_
 refine wl_m M (q_ext rfl rfl) rfl rfl ?_
 refine wl_as M rfl rfl ?_
 refine wl_as M rfl rfl ?_
 refine wl_as M rfl rfl ?_
 refine wl_nil ?_
 refine wc_seq ?_
 refine wc_join (α := Heap) [2, 34, 35, 36, 37, 38, 39, 40, 41, 42, 43, 44, 45, 46, 47, 48, 49, 50, 51, 52, 53, 54, 55, 56] (fun ((I6) : Heap) => [(2, .bool true)]) (fun ((I6) : Heap) w' => hle J30 I6 ∧ Mem w I I6 (box b1 25 [.int .i64 t.states, .int .i64 t.start, sv fu1, sv au1] :: []) w') ?_ ?_
 ·refine wc_draws (fun w' => Mem w I J30 (box b1 25 [.int .i64 t.states, .int .i64 t.start, sv fu1, sv au1] :: []) w' ∧ True) [] fol ?_
  replace M := M.drew
  have hS := (⟨M, trivial⟩ : _ ∧ _)
  refine wa_e 0 rfl (by kernel_rfl) (e_callC M (awake3_c M.imm) Tryz.func7 rfl rfl) rfl rfl ?_
  rintro _ w9 ⟨J34, hJ34, rfl, M⟩
  have hS := (⟨(M.less hJ34 hoJ30), trivial⟩ : _ ∧ _)
  refine ⟨fun _ => hS, ?_⟩
  replace M := M.less hJ34 hoJ30
  refine wa_q 1 rfl (by kernel_rfl) (q_move rfl) hS rfl rfl ?_
  refine wa_q 2 rfl (by kernel_rfl) (q_guard 1 rfl rfl rfl rfl (q_move rfl)) hS rfl rfl ?_
  refine wa_q 3 rfl (by kernel_rfl) (q_guard 1 rfl rfl rfl rfl (q_move rfl)) hS rfl rfl ?_
  refine wa_q 4 rfl (by kernel_rfl) (q_guard 1 rfl rfl rfl rfl (q_to (congrArg Value.bool (decide_eq_true rfl)) (q_eqlS rfl rfl))) hS rfl rfl ?_
  refine wa_q 5 rfl (by kernel_rfl) (q_pickT rfl rfl rfl) hS rfl rfl ?_
  refine wa_q 6 rfl (by kernel_rfl) (q_move rfl) hS rfl rfl ?_
  refine wa_q 7 rfl (by kernel_rfl) (q_guard 6 rfl rfl rfl rfl (q_move rfl)) hS rfl rfl ?_
  refine wa_q 8 rfl (by kernel_rfl) (q_guard 6 rfl rfl rfl rfl (q_move rfl)) hS rfl rfl ?_
  refine wa_q 9 rfl (by kernel_rfl) (q_guard 6 rfl rfl rfl rfl (q_to (congrArg Value.bool (decide_eq_true rfl)) (q_eqlS rfl rfl))) hS rfl rfl ?_
  refine wa_q 10 rfl (by kernel_rfl) (q_pickT rfl rfl rfl) hS rfl rfl ?_
  refine wa_q 11 rfl (by kernel_rfl) (q_move rfl) hS rfl rfl ?_
  refine wa_q 12 rfl (by kernel_rfl) (q_guard 11 rfl rfl rfl rfl (q_move rfl)) hS rfl rfl ?_
  refine wa_q 13 rfl (by kernel_rfl) (q_guard 11 rfl rfl rfl rfl (q_move rfl)) hS rfl rfl ?_
  refine wa_q 14 rfl (by kernel_rfl) (q_guard 11 rfl rfl rfl rfl (q_to (congrArg Value.bool (beq_self_eq_true _)) (q_eqlB Tryz.underlying4 rfl rfl))) hS rfl rfl ?_
  refine wa_q 15 rfl (by kernel_rfl) (q_pickT rfl rfl rfl) hS rfl rfl ?_
  refine wa_q 16 rfl (by kernel_rfl) (q_move rfl) hS rfl rfl ?_
  refine wa_q 17 rfl (by kernel_rfl) ((q_guard 16 rfl rfl rfl rfl (q_ldbA 0 Tryz.underlying25 rfl sz25 rfl rfl rfl rfl)).mono fun _ h => h.1) hS rfl rfl ?_
  refine wa_q 19 rfl (by kernel_rfl) ((q_guard 16 rfl rfl rfl rfl (q_ldbA 0 Tryz.underlying25 rfl sz25 rfl rfl rfl rfl)).mono fun _ h => h.1) hS rfl rfl ?_
  refine wa_e 18 rfl (by kernel_rfl) (e_guard 16 rfl rfl rfl rfl (e_callC M (emptyT_c t M.imm ⟨_, _, rfl, ((Rf1.mono hJ24).mono hJ30), ((Ra1.mono hJ24).mono hJ30)⟩) Tryz.func14 rfl rfl)) rfl rfl ?_
  rintro _ w10 ⟨J52, hJ52, rfl, M⟩
  have hS := (⟨(M.less hJ52 hoJ30), trivial⟩ : _ ∧ _)
  refine ⟨fun _ => hS, ?_⟩
  replace M := M.less hJ52 hoJ30
  refine wa_e 20 rfl (by kernel_rfl) (e_guard 16 rfl rfl rfl rfl (e_callC M (empty3_c t M.imm ⟨_, _, rfl, ((Rf1.mono hJ24).mono hJ30), ((Ra1.mono hJ24).mono hJ30)⟩) Tryz.func15 rfl rfl)) rfl rfl ?_
  rintro _ w11 ⟨J54, hJ54, rfl, M⟩
  have hS := (⟨(M.less hJ54 hoJ30), trivial⟩ : _ ∧ _)
  refine ⟨fun _ => hS, ?_⟩
  replace M := M.less hJ54 hoJ30
  refine wa_q 21 rfl (by kernel_rfl) (q_guard 16 rfl rfl rfl rfl (q_to (congrArg Value.bool (beq_self_eq_true _)) (q_eqlB Tryz.underlying4 rfl rfl))) hS rfl rfl ?_
  refine wa_q 22 rfl (by kernel_rfl) (q_pickT rfl rfl rfl) hS rfl rfl ?_
  refine wa_q 23 rfl (by kernel_rfl) (q_assign rfl) hS rfl rfl ?_
  refine wa_done (by kernel_rfl) ?_
  exact ⟨(J30), ⟨hle.refl _, M⟩, ⟨rfl, trivial⟩, unw_take 24 rfl rfl⟩
 rintro I6 jr5 w12 ⟨hI6, M⟩
 have hoI6 := M.old
 refine wc_ret ?_
 exact out1 rfl rfl ⟨_, _, rfl, M.grow, rfl⟩
end Go.Proofs.YtfepjcmjkaolgaaGreatDoor.G
