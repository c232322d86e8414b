/- Walks of the program's functions. -/
import Derived.Test.YtfepjcmjkaolgaaWQ0
set_option linter.all false
namespace Go.Proofs.Ytfepjcmjkaolgaa.G
open Go Go.RowKit
set_option maxRecDepth 4000 in
set_option maxHeartbeats 1000000 in
theorem partialQ_c {u : SV} {xs : List Int} {w0 w : World} {I0 I : Heap} {Lt : List Res} {a b : Nat} {aI bI : Int} (ea : aI = (a : Int)) (eb : bI = (b : Int)) (hb : b ≤ xs.length) (hl : xs.length ≤ 1099511627776) (hab : a < b) (hlow : PQ.Low xs a b) (M : Mem w0 I0 I (row ERune (sv u) xs :: Lt) w) :
    Calls A 102 #[sv u, .int .i64 aI, .int .i64 bI] w (fun e w' => ∃ v, e = .returned v ∧ ∃ (r : Bool) (ys : List Int), v = .bool r ∧ (PQ.PO xs ys a b ∧ (r = true → PQ.Srt ys a b)) ∧ Mem w0 I0 I (row ERune (sv u) ys :: Lt) w') := by
 have hoI := M.old
 refine enter Try.func102 rfl 133 Try.ntmps102 [_, _, _] rfl ?_
 refine wc_seq <| wc_region <| wl_as M rfl rfl <| wl_nil ?_
 refine wc_seq <| wc_region <| wl_mv M rfl rfl <| wl_m M (q_add rfl rfl (IntWalk.i64_in _ (by omega))) rfl rfl ?_
 refine wl_as M rfl rfl <| wl_nil ?_
 refine wc_seq ?_
 refine wc_seq <| wc_region <| wl_as M rfl rfl <| wl_nil <| wc_block ?_
 refine wc_loop (α := Nat × Nat × Int × (List Int)) [6, 7, 8, 9, 10, 13, 14, 15, 16, 17, 18, 19, 20, 21, 22, 23, 24, 25, 26, 27, 28, 29, 30, 31, 32, 33, 34, 35, 36, 37, 38, 39, 40, 41, 42, 43, 44, 45, 46, 47, 48, 49, 50, 51, 52, 53, 54, 55, 56, 57, 58, 59, 60, 61, 62, 63, 64, 65, 66, 67, 68, 69, 70, 71, 72, 73, 74, 75, 76, 77, 78, 79, 80, 81, 82, 83, 84, 85, 86, 87, 88, 89, 90, 91, 92, 93, 94, 95, 96, 97, 98, 99, 100, 101, 102, 103, 104, 105, 106, 107, 108, 109, 110, 111, 112, 113, 114, 115, 116, 117, 118, 119, 120, 121, 122, 123, 124, 125, 126, 127, 128, 129, 130, 131, 132] (fun ((k0, i, iI, l_0_0) : Nat × Nat × Int × (List Int)) => [(7, .int .i64 iI), (8, .int .i64 (k0 : Int))])
   (fun ((k0, i, iI, l_0_0) : Nat × Nat × Int × (List Int)) w' => (k0 ≤ 5) ∧ (iI = (i : Int)) ∧ (PQ.PO xs l_0_0 a b) ∧ (PQ.Srt l_0_0 a i) ∧ (a < i ∧ i ≤ b) ∧ Mem w0 I0 I (row ERune (sv u) l_0_0 :: Lt) w')
   (fun ((k0, i, iI, l_0_0) : Nat × Nat × Int × (List Int)) => 5 - k0) (0, a + 1, aI + 1, xs) ⟨rfl, rfl, trivial⟩ ?_ ?_
 ·refine ⟨Nat.zero_le _, (by omega), (PQ.PO.refl _ _ _), (PQ.Srt.one (by omega)), (by omega), ?_⟩
  exact M
 rintro ⟨k0, i, iI, l_0_0⟩ jj0 w1 ⟨hk0, hiI, hP, hS, hib, M⟩
 have hPl := hP.len
 refine wc_seq ?_
 refine wc_seq <| wc_region <| wl_mv M rfl rfl <| wl_m M (q_lss rfl rfl) rfl rfl <| wl_nil ?_
 refine wc_dec rfl (fun ht14 => ?_) (fun ht14 => ?_)
 ·refine wc_skip ?_
  refine wc_seq <| wc_block ?_
  refine wc_seq <| wc_block ?_
  refine wc_loop (α := Nat × Int) [7, 17, 18, 19, 20, 21, 22, 23, 24, 25, 26, 27, 28, 29, 30, 31, 32, 33, 34] (fun ((i2, i2I) : Nat × Int) => [(7, .int .i64 i2I)])
    (fun ((i2, i2I) : Nat × Int) w' => (i2I = (i2 : Int)) ∧ (PQ.Srt l_0_0 a i2) ∧ (a < i2 ∧ i2 ≤ b) ∧ Mem w0 I0 I (row ERune (sv u) l_0_0 :: Lt) w')
    (fun ((i2, i2I) : Nat × Int) => b - i2) (i, iI) ⟨rfl, trivial⟩ ?_ ?_
  ·refine ⟨hiI, hS, hib, ?_⟩
   exact M
  rintro ⟨i2, i2I⟩ jj2 w2 ⟨hi2, hS2, hib2, M⟩
  refine wc_seq ?_
  refine wc_seq ?_
  refine wc_join (α := Unit) [17, 18, 19, 20, 21, 22, 23, 24, 25, 26, 27, 28, 29, 30, 31, 32] (fun _ => [(32, .bool ((decide (i2I < bI)) && (!(decide (l_0_0.getD i2 0 < l_0_0.getD (i2 - 1) 0)))))]) (fun _ w' => Mem w0 I0 I (row ERune (sv u) l_0_0 :: Lt) w') ?_ ?_
  ·refine wc_draws (fun w' => Mem w0 I0 I (row ERune (sv u) l_0_0 :: Lt) w' ∧ True) [] fol ?_
   replace M := M.drew
   have hS := (⟨M, trivial⟩ : _ ∧ _)
   refine wa_q 0 rfl (by kernel_rfl) (q_move rfl) hS rfl rfl ?_
   refine wa_q 1 rfl (by kernel_rfl) (q_move rfl) hS rfl rfl ?_
   refine wa_q 2 rfl (by kernel_rfl) (q_lss rfl rfl) hS rfl rfl ?_
   refine wa_q 3 rfl (by kernel_rfl) (q_move rfl) hS rfl rfl ?_
   rcases Bool.eq_false_or_eq_true (decide (i2I < bI)) with hg20 | hg20
   ·refine wa_q 4 rfl (by kernel_rfl) (q_guard 3 rfl rfl rfl hg20 (q_move rfl)) hS rfl rfl ?_
    refine wa_q 5 rfl (by kernel_rfl) (q_guard 3 rfl rfl rfl hg20 (q_move rfl)) hS rfl rfl ?_
    have hib9 : i2 < b := by have := of_decide_eq_true hg20; omega
    refine wa_ixSG (j := i2) 3 rfl rfl rfl hg20 6 hS (fun _ h => h.1.rd (i := 0) rfl) rfl (by kernel_rfl) Try.underlying40 rfl (ixe (by omega)) (PQ.at_some (by omega)) rfl (fun b23 o23 p23 => ?_)
    refine wa_q 7 rfl (by kernel_rfl) (q_guard 3 rfl rfl rfl hg20 (q_ldp p23 rfl rfl)) hS rfl rfl ?_
    refine wa_q 8 rfl (by kernel_rfl) (q_guard 3 rfl rfl rfl hg20 (q_move rfl)) hS rfl rfl ?_
    refine wa_q 9 rfl (by kernel_rfl) (q_guard 3 rfl rfl rfl hg20 (q_move rfl)) hS rfl rfl ?_
    refine wa_q 10 rfl (by kernel_rfl) (q_guard 3 rfl rfl rfl hg20 (q_sub rfl rfl (IntWalk.i64_in _ (by omega)))) hS rfl rfl ?_
    refine wa_ixSG (j := (i2 - 1)) 3 rfl rfl rfl hg20 11 hS (fun _ h => h.1.rd (i := 0) rfl) rfl (by kernel_rfl) Try.underlying40 rfl (ixe (by omega)) (PQ.at_some (by omega)) rfl (fun b28 o28 p28 => ?_)
    refine wa_q 12 rfl (by kernel_rfl) (q_guard 3 rfl rfl rfl hg20 (q_ldp p28 rfl rfl)) hS rfl rfl ?_
    refine wa_e 13 rfl (by kernel_rfl) (e_guard 3 rfl rfl rfl hg20 (e_callC M (lessR_c (l_0_0.getD i2 0) (l_0_0.getD (i2 - 1) 0) M.imm) Try.func103 rfl rfl)) rfl rfl ?_
    rintro _ w3 ⟨J30, hJ30, rfl, M⟩
    have hS := (⟨(M.less hJ30 hoI), trivial⟩ : _ ∧ _)
    refine ⟨fun _ => hS, ?_⟩
    replace M := M.less hJ30 hoI
    refine wa_q 14 rfl (by kernel_rfl) (q_guard 3 rfl rfl rfl hg20 (q_not rfl)) hS rfl rfl ?_
    refine wa_q 15 rfl (by kernel_rfl) (q_pickT rfl hg20 rfl) hS rfl rfl ?_
    refine wa_done (by kernel_rfl) ?_
    exact ⟨(), M, ⟨(show some (Value.bool (!(decide (l_0_0.getD i2 0 < l_0_0.getD (i2 - 1) 0)))) = some (Value.bool ((decide (i2I < bI)) && (!(decide (l_0_0.getD i2 0 < l_0_0.getD (i2 - 1) 0))))) from by first | (simp only [hg20, bL8]; done) | (simp_all; done) | (simp_all; omega)), trivial⟩, unw_take 16 rfl rfl⟩
   refine wa_q 4 rfl (by kernel_rfl) (q_off 3 rfl rfl rfl hg20) hS rfl rfl ?_
   refine wa_q 5 rfl (by kernel_rfl) (q_off 3 rfl rfl rfl hg20) hS rfl rfl ?_
   refine wa_q 6 rfl (by kernel_rfl) (q_off 3 rfl rfl rfl hg20) hS rfl rfl ?_
   refine wa_q 7 rfl (by kernel_rfl) (q_off 3 rfl rfl rfl hg20) hS rfl rfl ?_
   refine wa_q 8 rfl (by kernel_rfl) (q_off 3 rfl rfl rfl hg20) hS rfl rfl ?_
   refine wa_q 9 rfl (by kernel_rfl) (q_off 3 rfl rfl rfl hg20) hS rfl rfl ?_
   refine wa_q 10 rfl (by kernel_rfl) (q_off 3 rfl rfl rfl hg20) hS rfl rfl ?_
   refine wa_q 11 rfl (by kernel_rfl) (q_off 3 rfl rfl rfl hg20) hS rfl rfl ?_
   refine wa_q 12 rfl (by kernel_rfl) (q_off 3 rfl rfl rfl hg20) hS rfl rfl ?_
   refine wa_q 13 rfl (by kernel_rfl) (q_off 3 rfl rfl rfl hg20) hS rfl rfl ?_
   refine wa_q 14 rfl (by kernel_rfl) (q_off 3 rfl rfl rfl hg20) hS rfl rfl ?_
   refine wa_q 15 rfl (by kernel_rfl) (q_pickF rfl hg20 rfl) hS rfl rfl ?_
   refine wa_done (by kernel_rfl) ?_
   exact ⟨(), M, ⟨(show some (Value.bool false) = some (Value.bool ((decide (i2I < bI)) && (!(decide (l_0_0.getD i2 0 < l_0_0.getD (i2 - 1) 0))))) from by first | (simp only [hg20, bL8]; done) | (simp_all; done) | (simp_all; omega)), trivial⟩, unw_take 16 rfl rfl⟩
  rintro _ jr5 w4 M
  refine wc_cond rfl (fun ht32 => ?_) (fun ht32 => ?_)
  ·have h32 : i2I < bI ∧ l_0_0.getD (i2 - 1) 0 ≤ l_0_0.getD i2 0 := by simpa using ht32
   have hge := h32.2
   have hi29 := h32.1
   refine wc_skip <| wc_block <| wc_region <| wl_mv M rfl rfl <| wl_m M (q_add rfl rfl (IntWalk.i64_in _ (by omega))) rfl rfl ?_
   refine wl_as M rfl rfl <| wl_nil ?_
   refine ⟨(i2 + 1, i2I + 1), ?_, ⟨(by omega), (hS2.snoc (.inr hge)), (by omega), M⟩, ⟨rfl, trivial⟩, unw_look rfl (unw_hav rfl (unw_look rfl unw_base))⟩
   show b - (i2 + 1) < b - i2
   omega
  refine wc_exit rfl ?_
  refine wc_seq ?_
  refine wc_seq <| wc_region <| wl_mv M rfl rfl <| wl_mv M rfl rfl <| wl_m M (q_eql rfl rfl) rfl rfl <| wl_nil ?_
  refine wc_dec rfl (fun ht37 => ?_) (fun ht37 => ?_)
  ·refine wc_seq <| wc_region <| wl_as M rfl rfl <| wl_nil <| wc_ret ?_
   exact out1 rfl rfl ⟨_, rfl, true, _, rfl, ⟨hP, fun _ => by rw [show i2 = b by omega] at hS2; exact hS2⟩, M⟩
  refine wc_skip ?_
  refine wc_seq ?_
  refine wc_seq <| wc_region <| wl_mv M rfl rfl <| wl_mv M rfl rfl <| wl_m M (q_sub rfl rfl (IntWalk.i64_in _ (by omega))) rfl rfl ?_
  refine wl_m M (q_lss rfl rfl) rfl rfl <| wl_nil ?_
  refine wc_dec rfl (fun ht41 => ?_) (fun ht41 => ?_)
  ·refine wc_seq <| wc_region <| wl_as M rfl rfl <| wl_nil <| wc_ret ?_
   exact out1 rfl rfl ⟨_, rfl, false, _, rfl, ⟨hP, nofun⟩, M⟩
  refine wc_skip ?_
  refine wc_seq ?_
  refine wc_draws (fun w' => Mem w0 I0 I (row ERune (sv u) l_0_0 :: Lt) w' ∧ True) [15, 17] fol ?_
  replace M := M.drew
  have hS := (⟨M, trivial⟩ : _ ∧ _)
  refine wa_q 0 rfl (by kernel_rfl) (q_move rfl) hS rfl rfl ?_
  refine wa_q 1 rfl (by kernel_rfl) (q_move rfl) hS rfl rfl ?_
  refine wa_w 2 rfl (by kernel_rfl) (q_move rfl) (fun _ => hS) rfl rfl ?_
  refine wa_w 3 rfl (by kernel_rfl) (q_move rfl) (fun _ => hS) rfl rfl ?_
  refine wa_w 4 rfl (by kernel_rfl) (q_sub rfl rfl (IntWalk.i64_in _ (by omega))) (fun _ => hS) rfl rfl ?_
  refine wa_q 5 rfl (by kernel_rfl) (q_move rfl) hS rfl rfl ?_
  refine wa_q 6 rfl (by kernel_rfl) (q_move rfl) hS rfl rfl ?_
  refine wa_q 7 rfl (by kernel_rfl) (q_sub rfl rfl (IntWalk.i64_in _ (by omega))) hS rfl rfl ?_
  refine wa_ixS (j := (i2 - 1)) 8 hS (fun _ h => h.1.rd (i := 0) rfl) rfl (by kernel_rfl) Try.underlying40 rfl (ixe (by omega)) (PQ.at_some (by omega)) rfl (fun b50 o50 p50 => ?_)
  refine wa_q 9 rfl (by kernel_rfl) (q_ldp p50 rfl rfl) hS rfl rfl ?_
  refine wa_w 10 rfl (by kernel_rfl) (q_move rfl) (fun _ => hS) rfl rfl ?_
  refine wa_w 11 rfl (by kernel_rfl) (q_move rfl) (fun _ => hS) rfl rfl ?_
  refine wa_ixSw (j := i2) 12 hS (fun _ h => h.1.rd (i := 0) rfl) rfl (by kernel_rfl) Try.underlying40 rfl (ixe (by omega)) (PQ.at_some (by omega)) rfl (fun b54 o54 p54 => ?_)
  refine wa_q 13 rfl (by kernel_rfl) (q_ldp p54 rfl rfl) hS rfl rfl ?_
  refine wa_ixw (j := i2) 14 0 M hS rfl rfl (by kernel_rfl) Try.underlying40 rfl (ixe (by omega)) (by first | omega | (simp only [List.length_set]; omega)) rfl (fun b56 o56 p56 => ?_)
  refine wa_e0 15 rfl (by kernel_rfl) (e_str (u := (l_0_0.getD (i2 - 1) 0)) 0 M rfl rfl rfl p56 (by first | omega | (simp only [List.length_set]; omega)) rfl) rfl ?_
  intro _ w5 M
  simp only [sC0, sCS] at M
  refine ⟨nofun, ?_⟩
  refine wa_ixw1 (j := (i2 - 1)) 16 0 M rfl rfl (by kernel_rfl) Try.underlying40 rfl (ixe (by omega)) (by first | omega | (simp only [List.length_set]; omega)) rfl nofun (fun b57 o57 p57 => ?_)
  refine wa_e0 17 rfl (by kernel_rfl) (e_str (u := (l_0_0.getD i2 0)) 0 M rfl rfl rfl p57 (by first | omega | (simp only [List.length_set]; omega)) rfl) rfl ?_
  intro _ w6 M
  simp only [sC0, sCS] at M
  refine ⟨nofun, ?_⟩
  refine wa_done (by kernel_rfl) ?_
  refine wc_seq ?_
  refine wc_seq ?_
  obtain ⟨l1, hl1⟩ : ∃ l_ : List Int, l_ = PQ.sw l_0_0 i2 (i2 - 1) := ⟨_, rfl⟩
  replace M : Mem w0 I0 I (row ERune (sv u) l1 :: Lt) w6 := by rw [hl1]; exact M
  have hPO1 : PQ.PO xs l1 a b := by rw [hl1]; exact hP.sw (by omega) (by omega) (by omega) (by omega) (by omega) (by omega)
  have hS1 : PQ.Srt l1 a (i2 - 1) := by rw [hl1]; exact (hS2.mono (by omega)).sw (by omega) (by omega) (by omega) (by omega)
  have hPl1 := hPO1.len
  refine wc_region <| wl_mv M rfl rfl <| wl_mv M rfl rfl <| wl_m M (q_sub rfl rfl (IntWalk.i64_in _ (by omega))) rfl rfl ?_
  refine wl_m M (q_geq rfl rfl) rfl rfl <| wl_nil ?_
  refine wc_dec rfl (fun ht61 => ?_) (fun ht61 => ?_)
  ·refine wc_seq <| wc_region <| wl_mv M rfl rfl <| wl_m M (q_sub rfl rfl (IntWalk.i64_in _ (by omega))) rfl rfl ?_
   refine wl_as M rfl rfl <| wl_nil <| wc_block ?_
   refine wc_loop (α := Nat × Int × (List Int)) [9, 64, 65, 66, 67, 68, 69, 70, 71, 72, 73, 74, 75, 76, 77, 78, 79, 80, 81, 82, 83, 84, 85, 86, 87, 88, 89, 90, 91, 92, 93, 94] (fun ((j4, j4I, l_0_4) : Nat × Int × (List Int)) => [(9, .int .i64 j4I)])
     (fun ((j4, j4I, l_0_4) : Nat × Int × (List Int)) w' => (j4I = (j4 : Int)) ∧ (PQ.InB xs l_0_4 a b (i2 - 1) j4) ∧ Mem w0 I0 I (row ERune (sv u) l_0_4 :: Lt) w')
     (fun ((j4, j4I, l_0_4) : Nat × Int × (List Int)) => j4) (i2 - 1, i2I - 1, l1) ⟨rfl, trivial⟩ ?_ ?_
   ·refine ⟨(by omega), (PQ.InB.opn hPO1 hS1 (by omega) (by omega) hb), ?_⟩
    exact M
   rintro ⟨j4, j4I, l_0_4⟩ jj4 w7 ⟨hj4, hB, M⟩
   have hBl := hB.po.len
   have hBj := hB.ji
   have hBi := hB.ib
   have hBb := hB.bl
   have hBa := hB.aj
   refine wc_seq ?_
   refine wc_seq <| wc_region <| wl_mv M rfl rfl <| wl_m M (q_geq rfl rfl) rfl rfl <| wl_nil ?_
   refine wc_dec rfl (fun ht65 => ?_) (fun ht65 => ?_)
   ·have hj41 : 0 < j4 := by omega
    refine wc_skip ?_
    refine wc_seq <| wc_block ?_
    refine wc_seq ?_
    refine wc_seq ?_
    refine wc_draws (fun w' => Mem w0 I0 I (row ERune (sv u) l_0_4 :: Lt) w' ∧ True) [] fol ?_
    replace M := M.drew
    have hS := (⟨M, trivial⟩ : _ ∧ _)
    refine wa_q 0 rfl (by kernel_rfl) (q_move rfl) hS rfl rfl ?_
    refine wa_q 1 rfl (by kernel_rfl) (q_move rfl) hS rfl rfl ?_
    refine wa_ixS (j := j4) 2 hS (fun _ h => h.1.rd (i := 0) rfl) rfl (by kernel_rfl) Try.underlying40 rfl (ixe (by omega)) (PQ.at_some (by omega)) rfl (fun b70 o70 p70 => ?_)
    refine wa_q 3 rfl (by kernel_rfl) (q_ldp p70 rfl rfl) hS rfl rfl ?_
    refine wa_q 4 rfl (by kernel_rfl) (q_move rfl) hS rfl rfl ?_
    refine wa_q 5 rfl (by kernel_rfl) (q_move rfl) hS rfl rfl ?_
    refine wa_q 6 rfl (by kernel_rfl) (q_sub rfl rfl (IntWalk.i64_in _ (by omega))) hS rfl rfl ?_
    refine wa_ixS (j := (j4 - 1)) 7 hS (fun _ h => h.1.rd (i := 0) rfl) rfl (by kernel_rfl) Try.underlying40 rfl (ixe (by omega)) (PQ.at_some (by omega)) rfl (fun b75 o75 p75 => ?_)
    refine wa_q 8 rfl (by kernel_rfl) (q_ldp p75 rfl rfl) hS rfl rfl ?_
    refine wa_e 9 rfl (by kernel_rfl) (e_callC M (lessR_c (l_0_4.getD j4 0) (l_0_4.getD (j4 - 1) 0) M.imm) Try.func103 rfl rfl) rfl rfl ?_
    rintro _ w8 ⟨J77, hJ77, rfl, M⟩
    have hS := (⟨(M.less hJ77 hoI), trivial⟩ : _ ∧ _)
    refine ⟨fun _ => hS, ?_⟩
    replace M := M.less hJ77 hoI
    refine wa_q 10 rfl (by kernel_rfl) (q_not rfl) hS rfl rfl ?_
    refine wa_done (by kernel_rfl) ?_
    refine wc_cond rfl (fun ht78 => ?_) (fun ht78 => ?_)
    ·have hge4 : l_0_4.getD (j4 - 1) 0 ≤ l_0_4.getD j4 0 := by simpa using ht78
     have hQ := hB.done (.inr hge4)
     rw [show i2 - 1 + 1 = i2 by omega] at hQ
     refine wc_exit rfl ?_
     refine wc_seq <| wc_region <| wl_mv M rfl rfl <| wl_mv M rfl rfl <| wl_m M (q_sub rfl rfl (IntWalk.i64_in _ (by omega))) rfl rfl ?_
     refine wl_m M (q_geq rfl rfl) rfl rfl <| wl_nil ?_
     refine wc_dec rfl (fun ht98 => ?_) (fun ht98 => ?_)
     ·refine wc_seq <| wc_region <| wl_mv M rfl rfl <| wl_m M (q_add rfl rfl (IntWalk.i64_in _ (by omega))) rfl rfl ?_
      refine wl_as M rfl rfl <| wl_nil <| wc_block ?_
      refine wc_loop (α := Nat × Int × (List Int)) [10, 101, 102, 103, 104, 105, 106, 107, 108, 109, 110, 111, 112, 113, 114, 115, 116, 117, 118, 119, 120, 121, 122, 123, 124, 125, 126, 127, 128, 129, 130, 131, 132] (fun ((j6, j6I, l_0_6) : Nat × Int × (List Int)) => [(10, .int .i64 j6I)])
        (fun ((j6, j6I, l_0_6) : Nat × Int × (List Int)) w' => (j6I = (j6 : Int)) ∧ (PQ.PO xs l_0_6 a b ∧ PQ.Srt l_0_6 a i2) ∧ (i2 < j6) ∧ Mem w0 I0 I (row ERune (sv u) l_0_6 :: Lt) w')
        (fun ((j6, j6I, l_0_6) : Nat × Int × (List Int)) => b - j6) (i2 + 1, i2I + 1, l_0_4) ⟨rfl, trivial⟩ ?_ ?_
      ·refine ⟨(by omega), hQ, (by omega), ?_⟩
       exact M
      rintro ⟨j6, j6I, l_0_6⟩ jj6 w9 ⟨hj6, hQ, hij6, M⟩
      have hQl := hQ.1.len
      refine wc_seq ?_
      refine wc_seq <| wc_region <| wl_mv M rfl rfl <| wl_mv M rfl rfl <| wl_m M (q_lss rfl rfl) rfl rfl <| wl_nil ?_
      refine wc_dec rfl (fun ht103 => ?_) (fun ht103 => ?_)
      ·have h103 : j6 < b := by omega
       refine wc_skip ?_
       refine wc_seq <| wc_block ?_
       refine wc_seq ?_
       refine wc_seq ?_
       refine wc_draws (fun w' => Mem w0 I0 I (row ERune (sv u) l_0_6 :: Lt) w' ∧ True) [] fol ?_
       replace M := M.drew
       have hS := (⟨M, trivial⟩ : _ ∧ _)
       refine wa_q 0 rfl (by kernel_rfl) (q_move rfl) hS rfl rfl ?_
       refine wa_q 1 rfl (by kernel_rfl) (q_move rfl) hS rfl rfl ?_
       refine wa_ixS (j := j6) 2 hS (fun _ h => h.1.rd (i := 0) rfl) rfl (by kernel_rfl) Try.underlying40 rfl (ixe (by omega)) (PQ.at_some (by omega)) rfl (fun b108 o108 p108 => ?_)
       refine wa_q 3 rfl (by kernel_rfl) (q_ldp p108 rfl rfl) hS rfl rfl ?_
       refine wa_q 4 rfl (by kernel_rfl) (q_move rfl) hS rfl rfl ?_
       refine wa_q 5 rfl (by kernel_rfl) (q_move rfl) hS rfl rfl ?_
       refine wa_q 6 rfl (by kernel_rfl) (q_sub rfl rfl (IntWalk.i64_in _ (by omega))) hS rfl rfl ?_
       refine wa_ixS (j := (j6 - 1)) 7 hS (fun _ h => h.1.rd (i := 0) rfl) rfl (by kernel_rfl) Try.underlying40 rfl (ixe (by omega)) (PQ.at_some (by omega)) rfl (fun b113 o113 p113 => ?_)
       refine wa_q 8 rfl (by kernel_rfl) (q_ldp p113 rfl rfl) hS rfl rfl ?_
       refine wa_e 9 rfl (by kernel_rfl) (e_callC M (lessR_c (l_0_6.getD j6 0) (l_0_6.getD (j6 - 1) 0) M.imm) Try.func103 rfl rfl) rfl rfl ?_
       rintro _ w10 ⟨J115, hJ115, rfl, M⟩
       have hS := (⟨(M.less hJ115 hoI), trivial⟩ : _ ∧ _)
       refine ⟨fun _ => hS, ?_⟩
       replace M := M.less hJ115 hoI
       refine wa_q 10 rfl (by kernel_rfl) (q_not rfl) hS rfl rfl ?_
       refine wa_done (by kernel_rfl) ?_
       refine wc_cond rfl (fun ht116 => ?_) (fun ht116 => ?_)
       ·refine wc_exit rfl <| wc_region <| wl_mv M rfl rfl <| wl_m M (q_add rfl rfl (IntWalk.i64_in _ (by omega))) rfl rfl ?_
        refine wl_as M rfl rfl <| wl_nil ?_
        refine ⟨(k0 + 1, i2, i2I, l_0_6), ?_, ⟨(by omega), hi2, hQ.1, hQ.2, (by omega), M⟩, ⟨rfl, rfl, trivial⟩, unw_look rfl (unw_hav rfl (unw_look rfl (unw_hav rfl (unw_look rfl (unw_hav rfl (unw_look rfl (unw_hav rfl (unw_look rfl unw_base))))))))⟩
        show 5 - (k0 + 1) < 5 - k0
        omega
       refine wc_skip ?_
       refine wc_draws (fun w' => Mem w0 I0 I (row ERune (sv u) l_0_6 :: Lt) w' ∧ True) [15, 17] fol ?_
       replace M := M.drew
       have hS := (⟨M, trivial⟩ : _ ∧ _)
       refine wa_q 0 rfl (by kernel_rfl) (q_move rfl) hS rfl rfl ?_
       refine wa_q 1 rfl (by kernel_rfl) (q_move rfl) hS rfl rfl ?_
       refine wa_w 2 rfl (by kernel_rfl) (q_move rfl) (fun _ => hS) rfl rfl ?_
       refine wa_w 3 rfl (by kernel_rfl) (q_move rfl) (fun _ => hS) rfl rfl ?_
       refine wa_w 4 rfl (by kernel_rfl) (q_sub rfl rfl (IntWalk.i64_in _ (by omega))) (fun _ => hS) rfl rfl ?_
       refine wa_q 5 rfl (by kernel_rfl) (q_move rfl) hS rfl rfl ?_
       refine wa_q 6 rfl (by kernel_rfl) (q_move rfl) hS rfl rfl ?_
       refine wa_q 7 rfl (by kernel_rfl) (q_sub rfl rfl (IntWalk.i64_in _ (by omega))) hS rfl rfl ?_
       refine wa_ixS (j := (j6 - 1)) 8 hS (fun _ h => h.1.rd (i := 0) rfl) rfl (by kernel_rfl) Try.underlying40 rfl (ixe (by omega)) (PQ.at_some (by omega)) rfl (fun b125 o125 p125 => ?_)
       refine wa_q 9 rfl (by kernel_rfl) (q_ldp p125 rfl rfl) hS rfl rfl ?_
       refine wa_w 10 rfl (by kernel_rfl) (q_move rfl) (fun _ => hS) rfl rfl ?_
       refine wa_w 11 rfl (by kernel_rfl) (q_move rfl) (fun _ => hS) rfl rfl ?_
       refine wa_ixSw (j := j6) 12 hS (fun _ h => h.1.rd (i := 0) rfl) rfl (by kernel_rfl) Try.underlying40 rfl (ixe (by omega)) (PQ.at_some (by omega)) rfl (fun b129 o129 p129 => ?_)
       refine wa_q 13 rfl (by kernel_rfl) (q_ldp p129 rfl rfl) hS rfl rfl ?_
       refine wa_ixw (j := j6) 14 0 M hS rfl rfl (by kernel_rfl) Try.underlying40 rfl (ixe (by omega)) (by first | omega | (simp only [List.length_set]; omega)) rfl (fun b131 o131 p131 => ?_)
       refine wa_e0 15 rfl (by kernel_rfl) (e_str (u := (l_0_6.getD (j6 - 1) 0)) 0 M rfl rfl rfl p131 (by first | omega | (simp only [List.length_set]; omega)) rfl) rfl ?_
       intro _ w11 M
       simp only [sC0, sCS] at M
       refine ⟨nofun, ?_⟩
       refine wa_ixw1 (j := (j6 - 1)) 16 0 M rfl rfl (by kernel_rfl) Try.underlying40 rfl (ixe (by omega)) (by first | omega | (simp only [List.length_set]; omega)) rfl nofun (fun b132 o132 p132 => ?_)
       refine wa_e0 17 rfl (by kernel_rfl) (e_str (u := (l_0_6.getD j6 0)) 0 M rfl rfl rfl p132 (by first | omega | (simp only [List.length_set]; omega)) rfl) rfl ?_
       intro _ w12 M
       simp only [sC0, sCS] at M
       refine ⟨nofun, ?_⟩
       refine wa_done (by kernel_rfl) ?_
       refine wc_region <| wl_mv M rfl rfl <| wl_m M (q_add rfl rfl (IntWalk.i64_in _ (by omega))) rfl rfl ?_
       refine wl_as M rfl rfl <| wl_nil ?_
       refine ⟨(j6 + 1, j6I + 1, (l_0_6.set j6 (l_0_6.getD (j6 - 1) 0)).set (j6 - 1) (l_0_6.getD j6 0)), ?_, ⟨(by omega), ⟨hQ.1.sw (by omega) (by omega) (by omega) (by omega) (by omega) (by omega), hQ.2.sw (by omega) (by omega) (by omega) (by omega)⟩, (by omega), M⟩, ⟨rfl, trivial⟩, unw_look rfl unw_base⟩
       show b - (j6 + 1) < b - j6
       omega
      refine wc_exit rfl <| wc_region <| wl_mv M rfl rfl <| wl_m M (q_add rfl rfl (IntWalk.i64_in _ (by omega))) rfl rfl ?_
      refine wl_as M rfl rfl <| wl_nil ?_
      refine ⟨(k0 + 1, i2, i2I, l_0_6), ?_, ⟨(by omega), hi2, hQ.1, hQ.2, (by omega), M⟩, ⟨rfl, rfl, trivial⟩, unw_look rfl (unw_hav rfl (unw_look rfl (unw_hav rfl (unw_look rfl (unw_hav rfl (unw_look rfl (unw_hav rfl (unw_look rfl unw_base))))))))⟩
      show 5 - (k0 + 1) < 5 - k0
      omega
     refine wc_skip <| wc_region <| wl_mv M rfl rfl <| wl_m M (q_add rfl rfl (IntWalk.i64_in _ (by omega))) rfl rfl ?_
     refine wl_as M rfl rfl <| wl_nil ?_
     refine ⟨(k0 + 1, i2, i2I, l_0_4), ?_, ⟨(by omega), hi2, hQ.1, hQ.2, (by omega), M⟩, ⟨rfl, rfl, trivial⟩, unw_look rfl (unw_hav rfl (unw_look rfl (unw_hav rfl (unw_look rfl (unw_hav rfl (unw_look rfl unw_base))))))⟩
     show 5 - (k0 + 1) < 5 - k0
     omega
    have hlt : l_0_4.getD j4 0 < l_0_4.getD (j4 - 1) 0 := by simpa using ht78
    have haj : a < j4 := by
      by_cases h : a < j4
      · exact h
      · have e : j4 = a := by omega
        subst e
        have := PQ.Low.stop hB.po hb hlow (p := j4) (by omega) (by omega) (by omega)
        omega
    refine wc_skip ?_
    refine wc_draws (fun w' => Mem w0 I0 I (row ERune (sv u) l_0_4 :: Lt) w' ∧ True) [15, 17] fol ?_
    replace M := M.drew
    have hS := (⟨M, trivial⟩ : _ ∧ _)
    refine wa_q 0 rfl (by kernel_rfl) (q_move rfl) hS rfl rfl ?_
    refine wa_q 1 rfl (by kernel_rfl) (q_move rfl) hS rfl rfl ?_
    refine wa_w 2 rfl (by kernel_rfl) (q_move rfl) (fun _ => hS) rfl rfl ?_
    refine wa_w 3 rfl (by kernel_rfl) (q_move rfl) (fun _ => hS) rfl rfl ?_
    refine wa_w 4 rfl (by kernel_rfl) (q_sub rfl rfl (IntWalk.i64_in _ (by omega))) (fun _ => hS) rfl rfl ?_
    refine wa_q 5 rfl (by kernel_rfl) (q_move rfl) hS rfl rfl ?_
    refine wa_q 6 rfl (by kernel_rfl) (q_move rfl) hS rfl rfl ?_
    refine wa_q 7 rfl (by kernel_rfl) (q_sub rfl rfl (IntWalk.i64_in _ (by omega))) hS rfl rfl ?_
    refine wa_ixS (j := (j4 - 1)) 8 hS (fun _ h => h.1.rd (i := 0) rfl) rfl (by kernel_rfl) Try.underlying40 rfl (ixe (by omega)) (PQ.at_some (by omega)) rfl (fun b87 o87 p87 => ?_)
    refine wa_q 9 rfl (by kernel_rfl) (q_ldp p87 rfl rfl) hS rfl rfl ?_
    refine wa_w 10 rfl (by kernel_rfl) (q_move rfl) (fun _ => hS) rfl rfl ?_
    refine wa_w 11 rfl (by kernel_rfl) (q_move rfl) (fun _ => hS) rfl rfl ?_
    refine wa_ixSw (j := j4) 12 hS (fun _ h => h.1.rd (i := 0) rfl) rfl (by kernel_rfl) Try.underlying40 rfl (ixe (by omega)) (PQ.at_some (by omega)) rfl (fun b91 o91 p91 => ?_)
    refine wa_q 13 rfl (by kernel_rfl) (q_ldp p91 rfl rfl) hS rfl rfl ?_
    refine wa_ixw (j := j4) 14 0 M hS rfl rfl (by kernel_rfl) Try.underlying40 rfl (ixe (by omega)) (by first | omega | (simp only [List.length_set]; omega)) rfl (fun b93 o93 p93 => ?_)
    refine wa_e0 15 rfl (by kernel_rfl) (e_str (u := (l_0_4.getD (j4 - 1) 0)) 0 M rfl rfl rfl p93 (by first | omega | (simp only [List.length_set]; omega)) rfl) rfl ?_
    intro _ w13 M
    simp only [sC0, sCS] at M
    refine ⟨nofun, ?_⟩
    refine wa_ixw1 (j := (j4 - 1)) 16 0 M rfl rfl (by kernel_rfl) Try.underlying40 rfl (ixe (by omega)) (by first | omega | (simp only [List.length_set]; omega)) rfl nofun (fun b94 o94 p94 => ?_)
    refine wa_e0 17 rfl (by kernel_rfl) (e_str (u := (l_0_4.getD j4 0)) 0 M rfl rfl rfl p94 (by first | omega | (simp only [List.length_set]; omega)) rfl) rfl ?_
    intro _ w14 M
    simp only [sC0, sCS] at M
    refine ⟨nofun, ?_⟩
    refine wa_done (by kernel_rfl) ?_
    refine wc_region <| wl_mv M rfl rfl <| wl_m M (q_sub rfl rfl (IntWalk.i64_in _ (by omega))) rfl rfl ?_
    refine wl_as M rfl rfl <| wl_nil ?_
    refine ⟨(j4 - 1, j4I - 1, (l_0_4.set j4 (l_0_4.getD (j4 - 1) 0)).set (j4 - 1) (l_0_4.getD j4 0)), ?_, ⟨(by omega), (hB.step haj hlt), M⟩, ⟨rfl, trivial⟩, unw_look rfl unw_base⟩
    show (j4 - 1) < j4
    omega
   have hQ := hB.done (.inl (by omega))
   rw [show i2 - 1 + 1 = i2 by omega] at hQ
   refine wc_exit rfl ?_
   refine wc_seq <| wc_region <| wl_mv M rfl rfl <| wl_mv M rfl rfl <| wl_m M (q_sub rfl rfl (IntWalk.i64_in _ (by omega))) rfl rfl ?_
   refine wl_m M (q_geq rfl rfl) rfl rfl <| wl_nil ?_
   refine wc_dec rfl (fun ht98 => ?_) (fun ht98 => ?_)
   ·refine wc_seq <| wc_region <| wl_mv M rfl rfl <| wl_m M (q_add rfl rfl (IntWalk.i64_in _ (by omega))) rfl rfl ?_
    refine wl_as M rfl rfl <| wl_nil <| wc_block ?_
    refine wc_loop (α := Nat × Int × (List Int)) [10, 101, 102, 103, 104, 105, 106, 107, 108, 109, 110, 111, 112, 113, 114, 115, 116, 117, 118, 119, 120, 121, 122, 123, 124, 125, 126, 127, 128, 129, 130, 131, 132] (fun ((j6, j6I, l_0_6) : Nat × Int × (List Int)) => [(10, .int .i64 j6I)])
      (fun ((j6, j6I, l_0_6) : Nat × Int × (List Int)) w' => (j6I = (j6 : Int)) ∧ (PQ.PO xs l_0_6 a b ∧ PQ.Srt l_0_6 a i2) ∧ (i2 < j6) ∧ Mem w0 I0 I (row ERune (sv u) l_0_6 :: Lt) w')
      (fun ((j6, j6I, l_0_6) : Nat × Int × (List Int)) => b - j6) (i2 + 1, i2I + 1, l_0_4) ⟨rfl, trivial⟩ ?_ ?_
    ·refine ⟨(by omega), hQ, (by omega), ?_⟩
     exact M
    rintro ⟨j6, j6I, l_0_6⟩ jj6 w15 ⟨hj6, hQ, hij6, M⟩
    have hQl := hQ.1.len
    refine wc_seq ?_
    refine wc_seq <| wc_region <| wl_mv M rfl rfl <| wl_mv M rfl rfl <| wl_m M (q_lss rfl rfl) rfl rfl <| wl_nil ?_
    refine wc_dec rfl (fun ht103 => ?_) (fun ht103 => ?_)
    ·have h103 : j6 < b := by omega
     refine wc_skip ?_
     refine wc_seq <| wc_block ?_
     refine wc_seq ?_
     refine wc_seq ?_
     refine wc_draws (fun w' => Mem w0 I0 I (row ERune (sv u) l_0_6 :: Lt) w' ∧ True) [] fol ?_
     replace M := M.drew
     have hS := (⟨M, trivial⟩ : _ ∧ _)
     refine wa_q 0 rfl (by kernel_rfl) (q_move rfl) hS rfl rfl ?_
     refine wa_q 1 rfl (by kernel_rfl) (q_move rfl) hS rfl rfl ?_
     refine wa_ixS (j := j6) 2 hS (fun _ h => h.1.rd (i := 0) rfl) rfl (by kernel_rfl) Try.underlying40 rfl (ixe (by omega)) (PQ.at_some (by omega)) rfl (fun b108 o108 p108 => ?_)
     refine wa_q 3 rfl (by kernel_rfl) (q_ldp p108 rfl rfl) hS rfl rfl ?_
     refine wa_q 4 rfl (by kernel_rfl) (q_move rfl) hS rfl rfl ?_
     refine wa_q 5 rfl (by kernel_rfl) (q_move rfl) hS rfl rfl ?_
     refine wa_q 6 rfl (by kernel_rfl) (q_sub rfl rfl (IntWalk.i64_in _ (by omega))) hS rfl rfl ?_
     refine wa_ixS (j := (j6 - 1)) 7 hS (fun _ h => h.1.rd (i := 0) rfl) rfl (by kernel_rfl) Try.underlying40 rfl (ixe (by omega)) (PQ.at_some (by omega)) rfl (fun b113 o113 p113 => ?_)
     refine wa_q 8 rfl (by kernel_rfl) (q_ldp p113 rfl rfl) hS rfl rfl ?_
     refine wa_e 9 rfl (by kernel_rfl) (e_callC M (lessR_c (l_0_6.getD j6 0) (l_0_6.getD (j6 - 1) 0) M.imm) Try.func103 rfl rfl) rfl rfl ?_
     rintro _ w16 ⟨J115, hJ115, rfl, M⟩
     have hS := (⟨(M.less hJ115 hoI), trivial⟩ : _ ∧ _)
     refine ⟨fun _ => hS, ?_⟩
     replace M := M.less hJ115 hoI
     refine wa_q 10 rfl (by kernel_rfl) (q_not rfl) hS rfl rfl ?_
     refine wa_done (by kernel_rfl) ?_
     refine wc_cond rfl (fun ht116 => ?_) (fun ht116 => ?_)
     ·refine wc_exit rfl <| wc_region <| wl_mv M rfl rfl <| wl_m M (q_add rfl rfl (IntWalk.i64_in _ (by omega))) rfl rfl ?_
      refine wl_as M rfl rfl <| wl_nil ?_
      refine ⟨(k0 + 1, i2, i2I, l_0_6), ?_, ⟨(by omega), hi2, hQ.1, hQ.2, (by omega), M⟩, ⟨rfl, rfl, trivial⟩, unw_look rfl (unw_hav rfl (unw_look rfl (unw_hav rfl (unw_look rfl (unw_hav rfl (unw_look rfl (unw_hav rfl (unw_look rfl unw_base))))))))⟩
      show 5 - (k0 + 1) < 5 - k0
      omega
     refine wc_skip ?_
     refine wc_draws (fun w' => Mem w0 I0 I (row ERune (sv u) l_0_6 :: Lt) w' ∧ True) [15, 17] fol ?_
     replace M := M.drew
     have hS := (⟨M, trivial⟩ : _ ∧ _)
     refine wa_q 0 rfl (by kernel_rfl) (q_move rfl) hS rfl rfl ?_
     refine wa_q 1 rfl (by kernel_rfl) (q_move rfl) hS rfl rfl ?_
     refine wa_w 2 rfl (by kernel_rfl) (q_move rfl) (fun _ => hS) rfl rfl ?_
     refine wa_w 3 rfl (by kernel_rfl) (q_move rfl) (fun _ => hS) rfl rfl ?_
     refine wa_w 4 rfl (by kernel_rfl) (q_sub rfl rfl (IntWalk.i64_in _ (by omega))) (fun _ => hS) rfl rfl ?_
     refine wa_q 5 rfl (by kernel_rfl) (q_move rfl) hS rfl rfl ?_
     refine wa_q 6 rfl (by kernel_rfl) (q_move rfl) hS rfl rfl ?_
     refine wa_q 7 rfl (by kernel_rfl) (q_sub rfl rfl (IntWalk.i64_in _ (by omega))) hS rfl rfl ?_
     refine wa_ixS (j := (j6 - 1)) 8 hS (fun _ h => h.1.rd (i := 0) rfl) rfl (by kernel_rfl) Try.underlying40 rfl (ixe (by omega)) (PQ.at_some (by omega)) rfl (fun b125 o125 p125 => ?_)
     refine wa_q 9 rfl (by kernel_rfl) (q_ldp p125 rfl rfl) hS rfl rfl ?_
     refine wa_w 10 rfl (by kernel_rfl) (q_move rfl) (fun _ => hS) rfl rfl ?_
     refine wa_w 11 rfl (by kernel_rfl) (q_move rfl) (fun _ => hS) rfl rfl ?_
     refine wa_ixSw (j := j6) 12 hS (fun _ h => h.1.rd (i := 0) rfl) rfl (by kernel_rfl) Try.underlying40 rfl (ixe (by omega)) (PQ.at_some (by omega)) rfl (fun b129 o129 p129 => ?_)
     refine wa_q 13 rfl (by kernel_rfl) (q_ldp p129 rfl rfl) hS rfl rfl ?_
     refine wa_ixw (j := j6) 14 0 M hS rfl rfl (by kernel_rfl) Try.underlying40 rfl (ixe (by omega)) (by first | omega | (simp only [List.length_set]; omega)) rfl (fun b131 o131 p131 => ?_)
     refine wa_e0 15 rfl (by kernel_rfl) (e_str (u := (l_0_6.getD (j6 - 1) 0)) 0 M rfl rfl rfl p131 (by first | omega | (simp only [List.length_set]; omega)) rfl) rfl ?_
     intro _ w17 M
     simp only [sC0, sCS] at M
     refine ⟨nofun, ?_⟩
     refine wa_ixw1 (j := (j6 - 1)) 16 0 M rfl rfl (by kernel_rfl) Try.underlying40 rfl (ixe (by omega)) (by first | omega | (simp only [List.length_set]; omega)) rfl nofun (fun b132 o132 p132 => ?_)
     refine wa_e0 17 rfl (by kernel_rfl) (e_str (u := (l_0_6.getD j6 0)) 0 M rfl rfl rfl p132 (by first | omega | (simp only [List.length_set]; omega)) rfl) rfl ?_
     intro _ w18 M
     simp only [sC0, sCS] at M
     refine ⟨nofun, ?_⟩
     refine wa_done (by kernel_rfl) ?_
     refine wc_region <| wl_mv M rfl rfl <| wl_m M (q_add rfl rfl (IntWalk.i64_in _ (by omega))) rfl rfl ?_
     refine wl_as M rfl rfl <| wl_nil ?_
     refine ⟨(j6 + 1, j6I + 1, (l_0_6.set j6 (l_0_6.getD (j6 - 1) 0)).set (j6 - 1) (l_0_6.getD j6 0)), ?_, ⟨(by omega), ⟨hQ.1.sw (by omega) (by omega) (by omega) (by omega) (by omega) (by omega), hQ.2.sw (by omega) (by omega) (by omega) (by omega)⟩, (by omega), M⟩, ⟨rfl, trivial⟩, unw_look rfl unw_base⟩
     show b - (j6 + 1) < b - j6
     omega
    refine wc_exit rfl <| wc_region <| wl_mv M rfl rfl <| wl_m M (q_add rfl rfl (IntWalk.i64_in _ (by omega))) rfl rfl ?_
    refine wl_as M rfl rfl <| wl_nil ?_
    refine ⟨(k0 + 1, i2, i2I, l_0_6), ?_, ⟨(by omega), hi2, hQ.1, hQ.2, (by omega), M⟩, ⟨rfl, rfl, trivial⟩, unw_look rfl (unw_hav rfl (unw_look rfl (unw_hav rfl (unw_look rfl (unw_hav rfl (unw_look rfl (unw_hav rfl (unw_look rfl unw_base))))))))⟩
    show 5 - (k0 + 1) < 5 - k0
    omega
   refine wc_skip <| wc_region <| wl_mv M rfl rfl <| wl_m M (q_add rfl rfl (IntWalk.i64_in _ (by omega))) rfl rfl ?_
   refine wl_as M rfl rfl <| wl_nil ?_
   refine ⟨(k0 + 1, i2, i2I, l_0_4), ?_, ⟨(by omega), hi2, hQ.1, hQ.2, (by omega), M⟩, ⟨rfl, rfl, trivial⟩, unw_look rfl (unw_hav rfl (unw_look rfl (unw_hav rfl (unw_look rfl (unw_hav rfl (unw_look rfl unw_base))))))⟩
   show 5 - (k0 + 1) < 5 - k0
   omega
  have hQ : PQ.PO xs l1 a b ∧ PQ.Srt l1 a i2 := ⟨hPO1, PQ.Srt.one (by omega)⟩
  refine wc_skip ?_
  refine wc_seq <| wc_region <| wl_mv M rfl rfl <| wl_mv M rfl rfl <| wl_m M (q_sub rfl rfl (IntWalk.i64_in _ (by omega))) rfl rfl ?_
  refine wl_m M (q_geq rfl rfl) rfl rfl <| wl_nil ?_
  refine wc_dec rfl (fun ht98 => ?_) (fun ht98 => ?_)
  ·refine wc_seq <| wc_region <| wl_mv M rfl rfl <| wl_m M (q_add rfl rfl (IntWalk.i64_in _ (by omega))) rfl rfl ?_
   refine wl_as M rfl rfl <| wl_nil <| wc_block ?_
   refine wc_loop (α := Nat × Int × (List Int)) [10, 101, 102, 103, 104, 105, 106, 107, 108, 109, 110, 111, 112, 113, 114, 115, 116, 117, 118, 119, 120, 121, 122, 123, 124, 125, 126, 127, 128, 129, 130, 131, 132] (fun ((j6, j6I, l_0_6) : Nat × Int × (List Int)) => [(10, .int .i64 j6I)])
     (fun ((j6, j6I, l_0_6) : Nat × Int × (List Int)) w' => (j6I = (j6 : Int)) ∧ (PQ.PO xs l_0_6 a b ∧ PQ.Srt l_0_6 a i2) ∧ (i2 < j6) ∧ Mem w0 I0 I (row ERune (sv u) l_0_6 :: Lt) w')
     (fun ((j6, j6I, l_0_6) : Nat × Int × (List Int)) => b - j6) (i2 + 1, i2I + 1, l1) ⟨rfl, trivial⟩ ?_ ?_
   ·refine ⟨(by omega), hQ, (by omega), ?_⟩
    exact M
   rintro ⟨j6, j6I, l_0_6⟩ jj6 w19 ⟨hj6, hQ, hij6, M⟩
   have hQl := hQ.1.len
   refine wc_seq ?_
   refine wc_seq <| wc_region <| wl_mv M rfl rfl <| wl_mv M rfl rfl <| wl_m M (q_lss rfl rfl) rfl rfl <| wl_nil ?_
   refine wc_dec rfl (fun ht103 => ?_) (fun ht103 => ?_)
   ·have h103 : j6 < b := by omega
    refine wc_skip ?_
    refine wc_seq <| wc_block ?_
    refine wc_seq ?_
    refine wc_seq ?_
    refine wc_draws (fun w' => Mem w0 I0 I (row ERune (sv u) l_0_6 :: Lt) w' ∧ True) [] fol ?_
    replace M := M.drew
    have hS := (⟨M, trivial⟩ : _ ∧ _)
    refine wa_q 0 rfl (by kernel_rfl) (q_move rfl) hS rfl rfl ?_
    refine wa_q 1 rfl (by kernel_rfl) (q_move rfl) hS rfl rfl ?_
    refine wa_ixS (j := j6) 2 hS (fun _ h => h.1.rd (i := 0) rfl) rfl (by kernel_rfl) Try.underlying40 rfl (ixe (by omega)) (PQ.at_some (by omega)) rfl (fun b108 o108 p108 => ?_)
    refine wa_q 3 rfl (by kernel_rfl) (q_ldp p108 rfl rfl) hS rfl rfl ?_
    refine wa_q 4 rfl (by kernel_rfl) (q_move rfl) hS rfl rfl ?_
    refine wa_q 5 rfl (by kernel_rfl) (q_move rfl) hS rfl rfl ?_
    refine wa_q 6 rfl (by kernel_rfl) (q_sub rfl rfl (IntWalk.i64_in _ (by omega))) hS rfl rfl ?_
    refine wa_ixS (j := (j6 - 1)) 7 hS (fun _ h => h.1.rd (i := 0) rfl) rfl (by kernel_rfl) Try.underlying40 rfl (ixe (by omega)) (PQ.at_some (by omega)) rfl (fun b113 o113 p113 => ?_)
    refine wa_q 8 rfl (by kernel_rfl) (q_ldp p113 rfl rfl) hS rfl rfl ?_
    refine wa_e 9 rfl (by kernel_rfl) (e_callC M (lessR_c (l_0_6.getD j6 0) (l_0_6.getD (j6 - 1) 0) M.imm) Try.func103 rfl rfl) rfl rfl ?_
    rintro _ w20 ⟨J115, hJ115, rfl, M⟩
    have hS := (⟨(M.less hJ115 hoI), trivial⟩ : _ ∧ _)
    refine ⟨fun _ => hS, ?_⟩
    replace M := M.less hJ115 hoI
    refine wa_q 10 rfl (by kernel_rfl) (q_not rfl) hS rfl rfl ?_
    refine wa_done (by kernel_rfl) ?_
    refine wc_cond rfl (fun ht116 => ?_) (fun ht116 => ?_)
    ·refine wc_exit rfl <| wc_region <| wl_mv M rfl rfl <| wl_m M (q_add rfl rfl (IntWalk.i64_in _ (by omega))) rfl rfl ?_
     refine wl_as M rfl rfl <| wl_nil ?_
     refine ⟨(k0 + 1, i2, i2I, l_0_6), ?_, ⟨(by omega), hi2, hQ.1, hQ.2, (by omega), M⟩, ⟨rfl, rfl, trivial⟩, unw_look rfl (unw_hav rfl (unw_look rfl (unw_hav rfl (unw_look rfl (unw_hav rfl (unw_look rfl unw_base))))))⟩
     show 5 - (k0 + 1) < 5 - k0
     omega
    refine wc_skip ?_
    refine wc_draws (fun w' => Mem w0 I0 I (row ERune (sv u) l_0_6 :: Lt) w' ∧ True) [15, 17] fol ?_
    replace M := M.drew
    have hS := (⟨M, trivial⟩ : _ ∧ _)
    refine wa_q 0 rfl (by kernel_rfl) (q_move rfl) hS rfl rfl ?_
    refine wa_q 1 rfl (by kernel_rfl) (q_move rfl) hS rfl rfl ?_
    refine wa_w 2 rfl (by kernel_rfl) (q_move rfl) (fun _ => hS) rfl rfl ?_
    refine wa_w 3 rfl (by kernel_rfl) (q_move rfl) (fun _ => hS) rfl rfl ?_
    refine wa_w 4 rfl (by kernel_rfl) (q_sub rfl rfl (IntWalk.i64_in _ (by omega))) (fun _ => hS) rfl rfl ?_
    refine wa_q 5 rfl (by kernel_rfl) (q_move rfl) hS rfl rfl ?_
    refine wa_q 6 rfl (by kernel_rfl) (q_move rfl) hS rfl rfl ?_
    refine wa_q 7 rfl (by kernel_rfl) (q_sub rfl rfl (IntWalk.i64_in _ (by omega))) hS rfl rfl ?_
    refine wa_ixS (j := (j6 - 1)) 8 hS (fun _ h => h.1.rd (i := 0) rfl) rfl (by kernel_rfl) Try.underlying40 rfl (ixe (by omega)) (PQ.at_some (by omega)) rfl (fun b125 o125 p125 => ?_)
    refine wa_q 9 rfl (by kernel_rfl) (q_ldp p125 rfl rfl) hS rfl rfl ?_
    refine wa_w 10 rfl (by kernel_rfl) (q_move rfl) (fun _ => hS) rfl rfl ?_
    refine wa_w 11 rfl (by kernel_rfl) (q_move rfl) (fun _ => hS) rfl rfl ?_
    refine wa_ixSw (j := j6) 12 hS (fun _ h => h.1.rd (i := 0) rfl) rfl (by kernel_rfl) Try.underlying40 rfl (ixe (by omega)) (PQ.at_some (by omega)) rfl (fun b129 o129 p129 => ?_)
    refine wa_q 13 rfl (by kernel_rfl) (q_ldp p129 rfl rfl) hS rfl rfl ?_
    refine wa_ixw (j := j6) 14 0 M hS rfl rfl (by kernel_rfl) Try.underlying40 rfl (ixe (by omega)) (by first | omega | (simp only [List.length_set]; omega)) rfl (fun b131 o131 p131 => ?_)
    refine wa_e0 15 rfl (by kernel_rfl) (e_str (u := (l_0_6.getD (j6 - 1) 0)) 0 M rfl rfl rfl p131 (by first | omega | (simp only [List.length_set]; omega)) rfl) rfl ?_
    intro _ w21 M
    simp only [sC0, sCS] at M
    refine ⟨nofun, ?_⟩
    refine wa_ixw1 (j := (j6 - 1)) 16 0 M rfl rfl (by kernel_rfl) Try.underlying40 rfl (ixe (by omega)) (by first | omega | (simp only [List.length_set]; omega)) rfl nofun (fun b132 o132 p132 => ?_)
    refine wa_e0 17 rfl (by kernel_rfl) (e_str (u := (l_0_6.getD j6 0)) 0 M rfl rfl rfl p132 (by first | omega | (simp only [List.length_set]; omega)) rfl) rfl ?_
    intro _ w22 M
    simp only [sC0, sCS] at M
    refine ⟨nofun, ?_⟩
    refine wa_done (by kernel_rfl) ?_
    refine wc_region <| wl_mv M rfl rfl <| wl_m M (q_add rfl rfl (IntWalk.i64_in _ (by omega))) rfl rfl ?_
    refine wl_as M rfl rfl <| wl_nil ?_
    refine ⟨(j6 + 1, j6I + 1, (l_0_6.set j6 (l_0_6.getD (j6 - 1) 0)).set (j6 - 1) (l_0_6.getD j6 0)), ?_, ⟨(by omega), ⟨hQ.1.sw (by omega) (by omega) (by omega) (by omega) (by omega) (by omega), hQ.2.sw (by omega) (by omega) (by omega) (by omega)⟩, (by omega), M⟩, ⟨rfl, trivial⟩, unw_look rfl unw_base⟩
    show b - (j6 + 1) < b - j6
    omega
   refine wc_exit rfl <| wc_region <| wl_mv M rfl rfl <| wl_m M (q_add rfl rfl (IntWalk.i64_in _ (by omega))) rfl rfl ?_
   refine wl_as M rfl rfl <| wl_nil ?_
   refine ⟨(k0 + 1, i2, i2I, l_0_6), ?_, ⟨(by omega), hi2, hQ.1, hQ.2, (by omega), M⟩, ⟨rfl, rfl, trivial⟩, unw_look rfl (unw_hav rfl (unw_look rfl (unw_hav rfl (unw_look rfl (unw_hav rfl (unw_look rfl unw_base))))))⟩
   show 5 - (k0 + 1) < 5 - k0
   omega
  refine wc_skip <| wc_region <| wl_mv M rfl rfl <| wl_m M (q_add rfl rfl (IntWalk.i64_in _ (by omega))) rfl rfl ?_
  refine wl_as M rfl rfl <| wl_nil ?_
  refine ⟨(k0 + 1, i2, i2I, l1), ?_, ⟨(by omega), hi2, hQ.1, hQ.2, (by omega), M⟩, ⟨rfl, rfl, trivial⟩, unw_look rfl (unw_hav rfl (unw_look rfl (unw_hav rfl (unw_look rfl unw_base))))⟩
  show 5 - (k0 + 1) < 5 - k0
  omega
 have hke0 : k0 = 5 := by omega
 refine wc_exit rfl ?_
 refine wc_seq <| wc_region <| wl_as M rfl rfl <| wl_nil <| wc_ret ?_
 exact out1 rfl rfl ⟨_, rfl, false, _, rfl, ⟨hP, nofun⟩, M⟩
theorem nextQ_c {bx : Nat} {r : Int} {w0 w : World} {I0 I : Heap} {Lt : List Res} (M : Mem w0 I0 I (box bx 135 [.int .u64 r] :: Lt) w) :
    Calls A 94 #[.pointer (some ⟨bx, 0, none⟩)] w fun e w' => ∃ v, e = .returned v ∧ ∃ r' : Int, v = .int .u64 r' ∧ Mem w0 I0 I (box bx 135 [.int .u64 r'] :: Lt) w' := by
 have hoI := M.old
 refine enter Try.func94 rfl 33 Try.ntmps94 [_] rfl ?_
 refine wc_seq <| wc_region <| wl_as M rfl rfl <| wl_nil ?_
 refine wc_seq ?_
 refine wc_draws (fun w' => Mem w0 I0 I (box bx 135 [.int .u64 r] :: Lt) w' ∧ True) [9] fol ?_
 replace M := M.drew
 have hS := (⟨M, trivial⟩ : _ ∧ _)
 refine wa_q 0 rfl (by kernel_rfl) (q_move rfl) hS rfl rfl ?_
 refine wa_q 1 rfl (by kernel_rfl) (q_nilCheck rfl) hS rfl rfl ?_
 refine wa_q 2 rfl (by kernel_rfl) ((q_ldb 0 Try.underlying135 rfl rfl rfl rfl).mono fun _ h => h.1) hS rfl rfl ?_
 refine wa_q 3 rfl (by kernel_rfl) (q_move rfl) hS rfl rfl ?_
 refine wa_q 4 rfl (by kernel_rfl) (q_nilCheck rfl) hS rfl rfl ?_
 refine wa_q 5 rfl (by kernel_rfl) ((q_ldb 0 Try.underlying135 rfl rfl rfl rfl).mono fun _ h => h.1) hS rfl rfl ?_
 refine wa_q 6 rfl (by kernel_rfl) (q_shl rfl rfl (by decide)) hS rfl rfl ?_
 refine wa_q 7 rfl (by kernel_rfl) (q_xor rfl rfl) hS rfl rfl ?_
 refine wa_w 8 rfl (by kernel_rfl) (q_nilCheck rfl) (fun _ => hS) rfl rfl ?_
 refine wa_e0 9 rfl (by kernel_rfl) (e_stW 0 M rfl rfl rfl sz135 rfl rfl) rfl ?_
 intro _ w1 M
 simp only [sC0, sCS] at M
 refine ⟨nofun, ?_⟩
 refine wa_done (by kernel_rfl) ?_
 refine wc_seq ?_
 refine wc_draws (fun w' => Mem w0 I0 I (box bx 135 [.int .u64 (xorK .u64 r (shlK .u64 r 13))] :: Lt) w' ∧ True) [9] fol ?_
 replace M := M.drew
 have hS := (⟨M, trivial⟩ : _ ∧ _)
 refine wa_q 0 rfl (by kernel_rfl) (q_move rfl) hS rfl rfl ?_
 refine wa_q 1 rfl (by kernel_rfl) (q_nilCheck rfl) hS rfl rfl ?_
 refine wa_q 2 rfl (by kernel_rfl) ((q_ldb 0 Try.underlying135 rfl rfl rfl rfl).mono fun _ h => h.1) hS rfl rfl ?_
 refine wa_q 3 rfl (by kernel_rfl) (q_move rfl) hS rfl rfl ?_
 refine wa_q 4 rfl (by kernel_rfl) (q_nilCheck rfl) hS rfl rfl ?_
 refine wa_q 5 rfl (by kernel_rfl) ((q_ldb 0 Try.underlying135 rfl rfl rfl rfl).mono fun _ h => h.1) hS rfl rfl ?_
 refine wa_q 6 rfl (by kernel_rfl) (q_shr rfl rfl (by decide)) hS rfl rfl ?_
 refine wa_q 7 rfl (by kernel_rfl) (q_xor rfl rfl) hS rfl rfl ?_
 refine wa_w 8 rfl (by kernel_rfl) (q_nilCheck rfl) (fun _ => hS) rfl rfl ?_
 refine wa_e0 9 rfl (by kernel_rfl) (e_stW 0 M rfl rfl rfl sz135 rfl rfl) rfl ?_
 intro _ w2 M
 simp only [sC0, sCS] at M
 refine ⟨nofun, ?_⟩
 refine wa_done (by kernel_rfl) ?_
 refine wc_seq ?_
 refine wc_draws (fun w' => Mem w0 I0 I (box bx 135 [.int .u64 (xorK .u64 (xorK .u64 r (shlK .u64 r 13)) (shrK .u64 (xorK .u64 r (shlK .u64 r 13)) 7))] :: Lt) w' ∧ True) [9] fol ?_
 replace M := M.drew
 have hS := (⟨M, trivial⟩ : _ ∧ _)
 refine wa_q 0 rfl (by kernel_rfl) (q_move rfl) hS rfl rfl ?_
 refine wa_q 1 rfl (by kernel_rfl) (q_nilCheck rfl) hS rfl rfl ?_
 refine wa_q 2 rfl (by kernel_rfl) ((q_ldb 0 Try.underlying135 rfl rfl rfl rfl).mono fun _ h => h.1) hS rfl rfl ?_
 refine wa_q 3 rfl (by kernel_rfl) (q_move rfl) hS rfl rfl ?_
 refine wa_q 4 rfl (by kernel_rfl) (q_nilCheck rfl) hS rfl rfl ?_
 refine wa_q 5 rfl (by kernel_rfl) ((q_ldb 0 Try.underlying135 rfl rfl rfl rfl).mono fun _ h => h.1) hS rfl rfl ?_
 refine wa_q 6 rfl (by kernel_rfl) (q_shl rfl rfl (by decide)) hS rfl rfl ?_
 refine wa_q 7 rfl (by kernel_rfl) (q_xor rfl rfl) hS rfl rfl ?_
 refine wa_w 8 rfl (by kernel_rfl) (q_nilCheck rfl) (fun _ => hS) rfl rfl ?_
 refine wa_e0 9 rfl (by kernel_rfl) (e_stW 0 M rfl rfl rfl sz135 rfl rfl) rfl ?_
 intro _ w3 M
 simp only [sC0, sCS] at M
 refine ⟨nofun, ?_⟩
 refine wa_done (by kernel_rfl) ?_
 refine wc_seq <| wc_region <| wl_mv M rfl rfl <| wl_m M (q_nilCheck rfl) rfl rfl <| wl_m M (q_ldb 0 Try.underlying135 rfl rfl rfl rfl) rfl rfl <| wl_as M rfl rfl <| wl_nil <| wc_ret ?_
 exact out1 rfl rfl ⟨_, rfl, _, rfl, M⟩
theorem powQ_c (x : Int) (h1 : 1 ≤ x) (h2 : x ≤ 1099511627776) {I : Heap} {w : World} (hI : hle I (hp w)) : Calls A 93 #[.int .i64 x] w (Ret w I fun r _ => ∃ z : Int, r = .int .u64 z ∧ 1 ≤ z ∧ z ≤ 2 * x) := by
 have M := Mem.start hI
 refine enter Try.func93 rfl 7 Try.ntmps93 [_] rfl ?_
 refine wc_seq <| wc_region <| wl_as M rfl rfl <| wl_nil ?_
 refine wc_seq <| wc_region <| wl_mv M rfl rfl <| wl_m M (q_cvII (k' := .u64) (r' := x) (by rw [Try.underlying3]; rfl) Try.underlying118 (IntWalk.u64_in _ (by omega)) rfl) rfl rfl ?_
 refine wl_e (e_callC M (bitsLenQ_c x M.imm (by omega) (by omega)) Try.func72 rfl rfl) rfl rfl ?_
 rintro _ w1 ⟨J5, hJ5, rfl, M⟩
 replace M := M.less hJ5 (fun _ _ => rfl)
 refine wl_m M (q_shl rfl rfl (by omega)) rfl rfl ?_
 refine wl_as M rfl rfl <| wl_nil <| wc_ret ?_
 have hz := shl_one h1 h2
 exact out1 rfl rfl ⟨_, _, rfl, M.grow, _, rfl, hz.1, hz.2⟩
set_option maxRecDepth 4000 in
set_option maxHeartbeats 1000000 in
theorem breakQ_c {u : SV} {xs : List Int} {w0 w : World} {I0 I : Heap} {Lt : List Res} {a b : Nat} {aI bI : Int} (ea : aI = (a : Int)) (eb : bI = (b : Int)) (hb : b ≤ xs.length) (hl : xs.length ≤ 1099511627776) (hab : a < b) (M : Mem w0 I0 I (row ERune (sv u) xs :: Lt) w) :
    Calls A 99 #[sv u, .int .i64 aI, .int .i64 bI] w fun e w' => ∃ v, e = .returned v ∧ ∃ ys : List Int, (PQ.PO xs ys a b) ∧ Mem w0 I0 I (row ERune (sv u) ys :: Lt) w' := by
 have hq : (bI - aI).tdiv 4 = (((b - a) / 4 : Nat) : Int) := tdivN (k := 4) (by omega)
 have hoI := M.old
 refine enter Try.func99 rfl 65 Try.ntmps99 [_, _, _] rfl ?_
 refine wc_seq <| wc_region <| wl_mv M rfl rfl <| wl_mv M rfl rfl <| wl_m M (q_sub rfl rfl (IntWalk.i64_in _ (by omega))) rfl rfl ?_
 refine wl_as M rfl rfl <| wl_nil ?_
 refine wc_seq <| wc_region <| wl_mv M rfl rfl <| wl_m M (q_geq rfl rfl) rfl rfl <| wl_nil ?_
 refine wc_dec rfl (fun ht15 => ?_) (fun ht15 => ?_)
 ·refine wc_seq <| wc_region <| wl_mv M rfl rfl <| wl_m M (q_cvII (k' := .u64) (r' := (bI - aI)) (by rw [Try.underlying3]; rfl) Try.underlying135 (IntWalk.u64_in _ (by omega)) rfl) rfl rfl ?_
  refine wl_e (e_alloc M z135) rfl rfl ?_
  rintro _ w1 ⟨b7, rfl, M⟩
  refine wl_e0 (e_stW 0 M rfl rfl rfl sz135 rfl rfl) rfl ?_
  intro _ w2 M
  simp only [sC0, sCS] at M
  refine wl_nil ?_
  refine wc_seq <| wc_region <| wl_mv M rfl rfl <| wl_e (e_callC M (powQ_c (bI - aI) (by omega) (by omega) M.imm) Try.func93 rfl rfl) rfl rfl ?_
  rintro _ w3 ⟨J19, hJ19, ⟨z7, rfl, hz1, hz2⟩, M⟩
  have hoJ19 := M.old
  refine wl_as M rfl rfl <| wl_nil ?_
  refine wc_seq <| wc_region <| wl_mv M rfl rfl <| wl_mv M rfl rfl <| wl_m M (q_quo (z := (((b - a) / 4 : Nat) : Int)) rfl rfl (by decide) (by rw [hq]; exact IntWalk.i64_in _ (by omega))) rfl rfl ?_
  refine wl_m M (q_mul rfl rfl (IntWalk.i64_in _ (by omega))) rfl rfl ?_
  refine wl_m M (q_add rfl rfl (IntWalk.i64_in _ (by omega))) rfl rfl ?_
  refine wl_m M (q_sub rfl rfl (IntWalk.i64_in _ (by omega))) rfl rfl ?_
  refine wl_as M rfl rfl <| wl_nil <| wc_block ?_
  refine wc_loop (α := Nat × Int × Int × (List Int)) [9, 10, 26, 27, 28, 29, 30, 31, 32, 33, 34, 35, 36, 37, 38, 39, 40, 41, 42, 43, 44, 45, 46, 47, 48, 49, 50, 51, 52, 53, 54, 55, 56, 57, 58, 59, 60, 61, 62, 63, 64] (fun ((i, iI, rx, l_0_0) : Nat × Int × Int × (List Int)) => [(9, .int .i64 iI)])
    (fun ((i, iI, rx, l_0_0) : Nat × Int × Int × (List Int)) w' => (iI = (i : Int)) ∧ (PQ.PO xs l_0_0 a b) ∧ (a ≤ i) ∧ Mem w0 I0 J19 (box b7 135 [.int .u64 rx] :: row ERune (sv u) l_0_0 :: Lt) w')
    (fun ((i, iI, rx, l_0_0) : Nat × Int × Int × (List Int)) => a + (b - a) / 4 * 2 + 2 - i) (a + (b - a) / 4 * 2 - 1, (aI + (((b - a) / 4 : Nat) : Int) * 2) - 1, bI - aI, xs) ⟨rfl, trivial⟩ ?_ ?_
  ·refine ⟨(by omega), (PQ.PO.refl _ _ _), (by omega), ?_⟩
   exact M
  rintro ⟨i, iI, rx, l_0_0⟩ jj0 w4 ⟨hiI, hP, hai, M⟩
  have hoJ19 := M.old
  have hPl := hP.len
  refine wc_seq ?_
  refine wc_seq <| wc_region <| wl_mv M rfl rfl <| wl_mv M rfl rfl <| wl_mv M rfl rfl <| wl_m M (q_quo (z := (((b - a) / 4 : Nat) : Int)) rfl rfl (by decide) (by rw [hq]; exact IntWalk.i64_in _ (by omega))) rfl rfl ?_
  refine wl_m M (q_mul rfl rfl (IntWalk.i64_in _ (by omega))) rfl rfl ?_
  refine wl_m M (q_add rfl rfl (IntWalk.i64_in _ (by omega))) rfl rfl ?_
  refine wl_m M (q_add rfl rfl (IntWalk.i64_in _ (by omega))) rfl rfl ?_
  refine wl_m M (q_leq rfl rfl) rfl rfl <| wl_nil ?_
  refine wc_dec rfl (fun ht33 => ?_) (fun ht33 => ?_)
  ·have h33 : i ≤ a + (b - a) / 4 * 2 + 1 := by omega
   refine wc_skip ?_
   refine wc_seq <| wc_block ?_
   refine wc_seq <| wc_region <| wl_e (e_callR Try.func94 rfl (vs := [.pointer (some ⟨b7, 0, none⟩)]) rfl (nextQ_c M)) rfl rfl ?_
   rintro _ w5 ⟨r9, rfl, M⟩
   refine wl_mv M rfl rfl <| wl_m M (q_sub rfl rfl (IntWalk.u64_in _ (by omega))) rfl rfl ?_
   refine wl_m M (q_and rfl rfl) rfl rfl ?_
   obtain ⟨ha0, ha1⟩ := and_u64 (a := r9) (m := z7 - 1) (by omega) (by omega)
   refine wl_m M (q_cvII (k' := .i64) (r' := (andK .u64 r9 (z7 - 1))) (by rw [Try.underlying118]; rfl) Try.underlying3 (IntWalk.i64_in _ (by omega)) rfl) rfl rfl ?_
   refine wl_as M rfl rfl <| wl_nil ?_
   refine wc_seq ?_
   refine wc_seq <| wc_region <| wl_mv M rfl rfl <| wl_mv M rfl rfl <| wl_m M (q_geq rfl rfl) rfl rfl <| wl_nil ?_
   refine wc_dec rfl (fun ht43 => ?_) (fun ht43 => ?_)
   ·refine wc_region <| wl_mv M rfl rfl <| wl_mv M rfl rfl <| wl_m M (q_sub rfl rfl (IntWalk.i64_in _ (by omega))) rfl rfl ?_
    refine wl_as M rfl rfl <| wl_nil ?_
    obtain ⟨o9, ho9⟩ : ∃ o9 : Nat, ((andK .u64 r9 (z7 - 1)) - (bI - aI)) = (o9 : Int) := ⟨_, (Int.toNat_of_nonneg (by omega)).symm⟩
    have ho91 : o9 < b - a := by omega
    refine wc_draws (fun w' => Mem w0 I0 J19 (box b7 135 [.int .u64 r9] :: row ERune (sv u) l_0_0 :: Lt) w' ∧ True) [17, 19] fol ?_
    replace M := M.drew
    have hS := (⟨M, trivial⟩ : _ ∧ _)
    refine wa_q 0 rfl (by kernel_rfl) (q_move rfl) hS rfl rfl ?_
    refine wa_q 1 rfl (by kernel_rfl) (q_move rfl) hS rfl rfl ?_
    refine wa_w 2 rfl (by kernel_rfl) (q_move rfl) (fun _ => hS) rfl rfl ?_
    refine wa_w 3 rfl (by kernel_rfl) (q_move rfl) (fun _ => hS) rfl rfl ?_
    refine wa_w 4 rfl (by kernel_rfl) (q_move rfl) (fun _ => hS) rfl rfl ?_
    refine wa_w 5 rfl (by kernel_rfl) (q_add rfl rfl (IntWalk.i64_in _ (by omega))) (fun _ => hS) rfl rfl ?_
    refine wa_q 6 rfl (by kernel_rfl) (q_move rfl) hS rfl rfl ?_
    refine wa_q 7 rfl (by kernel_rfl) (q_move rfl) hS rfl rfl ?_
    refine wa_q 8 rfl (by kernel_rfl) (q_move rfl) hS rfl rfl ?_
    refine wa_q 9 rfl (by kernel_rfl) (q_add rfl rfl (IntWalk.i64_in _ (by omega))) hS rfl rfl ?_
    refine wa_ixS (j := (a + o9)) 10 hS (fun _ h => h.1.rd (i := 1) rfl) rfl (by kernel_rfl) Try.underlying40 rfl (ixe (by omega)) (PQ.at_some (by omega)) rfl (fun b57 o57 p57 => ?_)
    refine wa_q 11 rfl (by kernel_rfl) (q_ldp p57 rfl rfl) hS rfl rfl ?_
    refine wa_w 12 rfl (by kernel_rfl) (q_move rfl) (fun _ => hS) rfl rfl ?_
    refine wa_w 13 rfl (by kernel_rfl) (q_move rfl) (fun _ => hS) rfl rfl ?_
    refine wa_ixSw (j := i) 14 hS (fun _ h => h.1.rd (i := 1) rfl) rfl (by kernel_rfl) Try.underlying40 rfl (ixe (by omega)) (PQ.at_some (by omega)) rfl (fun b61 o61 p61 => ?_)
    refine wa_q 15 rfl (by kernel_rfl) (q_ldp p61 rfl rfl) hS rfl rfl ?_
    refine wa_ixw (j := i) 16 1 M hS rfl rfl (by kernel_rfl) Try.underlying40 rfl (ixe (by omega)) (by first | omega | (simp only [List.length_set]; omega)) rfl (fun b63 o63 p63 => ?_)
    refine wa_e0 17 rfl (by kernel_rfl) (e_str (u := (l_0_0.getD (a + o9) 0)) 1 M rfl rfl rfl p63 (by first | omega | (simp only [List.length_set]; omega)) rfl) rfl ?_
    intro _ w6 M
    simp only [sC0, sCS] at M
    refine ⟨nofun, ?_⟩
    refine wa_ixw1 (j := (a + o9)) 18 1 M rfl rfl (by kernel_rfl) Try.underlying40 rfl (ixe (by omega)) (by first | omega | (simp only [List.length_set]; omega)) rfl nofun (fun b64 o64 p64 => ?_)
    refine wa_e0 19 rfl (by kernel_rfl) (e_str (u := (l_0_0.getD i 0)) 1 M rfl rfl rfl p64 (by first | omega | (simp only [List.length_set]; omega)) rfl) rfl ?_
    intro _ w7 M
    simp only [sC0, sCS] at M
    refine ⟨nofun, ?_⟩
    refine wa_done (by kernel_rfl) ?_
    refine wc_region <| wl_mv M rfl rfl <| wl_m M (q_add rfl rfl (IntWalk.i64_in _ (by omega))) rfl rfl ?_
    refine wl_as M rfl rfl <| wl_nil ?_
    refine ⟨(i + 1, iI + 1, r9, (l_0_0.set i (l_0_0.getD (a + o9) 0)).set (a + o9) (l_0_0.getD i 0)), ?_, ⟨(by omega), (hP.sw (by omega) (by omega) (by omega) (by omega) (by omega) (by omega)), (by omega), M⟩, ⟨rfl, trivial⟩, unw_look rfl unw_base⟩
    show a + (b - a) / 4 * 2 + 2 - (i + 1) < a + (b - a) / 4 * 2 + 2 - i
    omega
   refine wc_skip ?_
   obtain ⟨o9, ho9⟩ : ∃ o9 : Nat, ((andK .u64 r9 (z7 - 1))) = (o9 : Int) := ⟨_, (Int.toNat_of_nonneg (by omega)).symm⟩
   have ho91 : o9 < b - a := by omega
   refine wc_draws (fun w' => Mem w0 I0 J19 (box b7 135 [.int .u64 r9] :: row ERune (sv u) l_0_0 :: Lt) w' ∧ True) [17, 19] fol ?_
   replace M := M.drew
   have hS := (⟨M, trivial⟩ : _ ∧ _)
   refine wa_q 0 rfl (by kernel_rfl) (q_move rfl) hS rfl rfl ?_
   refine wa_q 1 rfl (by kernel_rfl) (q_move rfl) hS rfl rfl ?_
   refine wa_w 2 rfl (by kernel_rfl) (q_move rfl) (fun _ => hS) rfl rfl ?_
   refine wa_w 3 rfl (by kernel_rfl) (q_move rfl) (fun _ => hS) rfl rfl ?_
   refine wa_w 4 rfl (by kernel_rfl) (q_move rfl) (fun _ => hS) rfl rfl ?_
   refine wa_w 5 rfl (by kernel_rfl) (q_add rfl rfl (IntWalk.i64_in _ (by omega))) (fun _ => hS) rfl rfl ?_
   refine wa_q 6 rfl (by kernel_rfl) (q_move rfl) hS rfl rfl ?_
   refine wa_q 7 rfl (by kernel_rfl) (q_move rfl) hS rfl rfl ?_
   refine wa_q 8 rfl (by kernel_rfl) (q_move rfl) hS rfl rfl ?_
   refine wa_q 9 rfl (by kernel_rfl) (q_add rfl rfl (IntWalk.i64_in _ (by omega))) hS rfl rfl ?_
   refine wa_ixS (j := (a + o9)) 10 hS (fun _ h => h.1.rd (i := 1) rfl) rfl (by kernel_rfl) Try.underlying40 rfl (ixe (by omega)) (PQ.at_some (by omega)) rfl (fun b57 o57 p57 => ?_)
   refine wa_q 11 rfl (by kernel_rfl) (q_ldp p57 rfl rfl) hS rfl rfl ?_
   refine wa_w 12 rfl (by kernel_rfl) (q_move rfl) (fun _ => hS) rfl rfl ?_
   refine wa_w 13 rfl (by kernel_rfl) (q_move rfl) (fun _ => hS) rfl rfl ?_
   refine wa_ixSw (j := i) 14 hS (fun _ h => h.1.rd (i := 1) rfl) rfl (by kernel_rfl) Try.underlying40 rfl (ixe (by omega)) (PQ.at_some (by omega)) rfl (fun b61 o61 p61 => ?_)
   refine wa_q 15 rfl (by kernel_rfl) (q_ldp p61 rfl rfl) hS rfl rfl ?_
   refine wa_ixw (j := i) 16 1 M hS rfl rfl (by kernel_rfl) Try.underlying40 rfl (ixe (by omega)) (by first | omega | (simp only [List.length_set]; omega)) rfl (fun b63 o63 p63 => ?_)
   refine wa_e0 17 rfl (by kernel_rfl) (e_str (u := (l_0_0.getD (a + o9) 0)) 1 M rfl rfl rfl p63 (by first | omega | (simp only [List.length_set]; omega)) rfl) rfl ?_
   intro _ w8 M
   simp only [sC0, sCS] at M
   refine ⟨nofun, ?_⟩
   refine wa_ixw1 (j := (a + o9)) 18 1 M rfl rfl (by kernel_rfl) Try.underlying40 rfl (ixe (by omega)) (by first | omega | (simp only [List.length_set]; omega)) rfl nofun (fun b64 o64 p64 => ?_)
   refine wa_e0 19 rfl (by kernel_rfl) (e_str (u := (l_0_0.getD i 0)) 1 M rfl rfl rfl p64 (by first | omega | (simp only [List.length_set]; omega)) rfl) rfl ?_
   intro _ w9 M
   simp only [sC0, sCS] at M
   refine ⟨nofun, ?_⟩
   refine wa_done (by kernel_rfl) ?_
   refine wc_region <| wl_mv M rfl rfl <| wl_m M (q_add rfl rfl (IntWalk.i64_in _ (by omega))) rfl rfl ?_
   refine wl_as M rfl rfl <| wl_nil ?_
   refine ⟨(i + 1, iI + 1, r9, (l_0_0.set i (l_0_0.getD (a + o9) 0)).set (a + o9) (l_0_0.getD i 0)), ?_, ⟨(by omega), (hP.sw (by omega) (by omega) (by omega) (by omega) (by omega) (by omega)), (by omega), M⟩, ⟨rfl, trivial⟩, unw_look rfl unw_base⟩
   show a + (b - a) / 4 * 2 + 2 - (i + 1) < a + (b - a) / 4 * 2 + 2 - i
   omega
  refine wc_exit rfl ?_
  replace M := M.drop 0
  replace M := M.less hJ19 hoI
  exact out0 rfl ⟨_, rfl, _, hP, M⟩
 refine wc_skip ?_
 exact out0 rfl ⟨_, rfl, _, PQ.PO.refl _ _ _, M⟩
theorem order2_c {u : SV} {xs : List Int} {bs : Nat} {k : Int} {w0 w : World} {I0 I : Heap} {Lt : List Res} (hl : xs.length ≤ 1099511627776) (hk : 0 ≤ k ∧ k ≤ 1000) {aI bI : Int} (haI : 0 ≤ aI ∧ aI < (xs.length : Int)) (hbI : 0 ≤ bI ∧ bI < (xs.length : Int)) (M : Mem w0 I0 I (box bs 3 [.int .i64 k] :: row ERune (sv u) xs :: Lt) w) :
    Calls A 110 #[sv u, .int .i64 aI, .int .i64 bI, .pointer (some ⟨bs, 0, none⟩)] w (fun e w' => ∃ v, e = .returned v ∧ ∃ x y k' : Int, v = .tuple #[.int .i64 x, .int .i64 y] ∧ (((x = aI ∧ y = bI) ∨ (x = bI ∧ y = aI)) ∧ k ≤ k' ∧ k' ≤ k + 1) ∧ Mem w0 I0 I (box bs 3 [.int .i64 k'] :: row ERune (sv u) xs :: Lt) w') := by
 have hoI := M.old
 refine enter Try.func110 rfl 28 Try.ntmps110 [_, _, _, _] rfl ?_
 refine wc_seq <| wc_region <| wl_as M rfl rfl <| wl_as M rfl rfl <| wl_nil ?_
 refine wc_seq ?_
 refine wc_seq ?_
 refine wc_draws (fun w' => Mem w0 I0 I (box bs 3 [.int .i64 k] :: row ERune (sv u) xs :: Lt) w' ∧ True) [] fol ?_
 replace M := M.drew
 have hS := (⟨M, trivial⟩ : _ ∧ _)
 refine wa_q 0 rfl (by kernel_rfl) (q_move rfl) hS rfl rfl ?_
 refine wa_q 1 rfl (by kernel_rfl) (q_move rfl) hS rfl rfl ?_
 refine wa_ixS (j := bI.toNat) 2 hS (fun _ h => h.1.rd (i := 1) rfl) rfl (by kernel_rfl) Try.underlying40 rfl (ixe (by omega)) (PQ.at_some (by omega)) rfl (fun b12 o12 p12 => ?_)
 refine wa_q 3 rfl (by kernel_rfl) (q_ldp p12 rfl rfl) hS rfl rfl ?_
 refine wa_q 4 rfl (by kernel_rfl) (q_move rfl) hS rfl rfl ?_
 refine wa_q 5 rfl (by kernel_rfl) (q_move rfl) hS rfl rfl ?_
 refine wa_ixS (j := aI.toNat) 6 hS (fun _ h => h.1.rd (i := 1) rfl) rfl (by kernel_rfl) Try.underlying40 rfl (ixe (by omega)) (PQ.at_some (by omega)) rfl (fun b16 o16 p16 => ?_)
 refine wa_q 7 rfl (by kernel_rfl) (q_ldp p16 rfl rfl) hS rfl rfl ?_
 refine wa_e 8 rfl (by kernel_rfl) (e_callC M (lessR_c (xs.getD bI.toNat 0) (xs.getD aI.toNat 0) M.imm) Try.func103 rfl rfl) rfl rfl ?_
 rintro _ w1 ⟨J18, hJ18, rfl, M⟩
 have hS := (⟨(M.less hJ18 hoI), trivial⟩ : _ ∧ _)
 refine ⟨fun _ => hS, ?_⟩
 replace M := M.less hJ18 hoI
 refine wa_done (by kernel_rfl) ?_
 refine wc_cond rfl (fun ht18 => ?_) (fun ht18 => ?_)
 ·refine wc_seq <| wc_region <| wl_mv M rfl rfl <| wl_m M (q_nilCheck rfl) rfl rfl <| wl_m M (q_ldb 0 Try.underlying3 rfl rfl rfl rfl) rfl rfl <| wl_m M (q_add rfl rfl (IntWalk.i64_in _ (by omega))) rfl rfl ?_
  refine wl_m M (q_nilCheck rfl) rfl rfl ?_
  refine wl_e0 (e_stW 0 M rfl rfl rfl sz3 rfl rfl) rfl ?_
  intro _ w2 M
  simp only [sC0, sCS] at M
  refine wl_nil ?_
  refine wc_seq <| wc_region <| wl_mv M rfl rfl <| wl_mv M rfl rfl <| wl_as M rfl rfl <| wl_as M rfl rfl <| wl_nil <| wc_ret ?_
  exact out2 rfl rfl rfl ⟨_, rfl, _, _, _, rfl, ⟨.inr ⟨rfl, rfl⟩, by omega, Int.le_refl _⟩, M⟩
 refine wc_skip ?_
 refine wc_seq <| wc_region <| wl_mv M rfl rfl <| wl_mv M rfl rfl <| wl_as M rfl rfl <| wl_as M rfl rfl <| wl_nil <| wc_ret ?_
 exact out2 rfl rfl rfl ⟨_, rfl, _, _, _, rfl, ⟨.inl ⟨rfl, rfl⟩, Int.le_refl _, by omega⟩, M⟩
theorem median_c {u : SV} {xs : List Int} {bs : Nat} {k : Int} {w0 w : World} {I0 I : Heap} {Lt : List Res} (hl : xs.length ≤ 1099511627776) (hk : 0 ≤ k ∧ k ≤ 900) {aI bI cI : Int} (haI : 0 ≤ aI ∧ aI < (xs.length : Int)) (hbI : 0 ≤ bI ∧ bI < (xs.length : Int)) (hcI : 0 ≤ cI ∧ cI < (xs.length : Int)) (M : Mem w0 I0 I (box bs 3 [.int .i64 k] :: row ERune (sv u) xs :: Lt) w) :
    Calls A 109 #[sv u, .int .i64 aI, .int .i64 bI, .int .i64 cI, .pointer (some ⟨bs, 0, none⟩)] w (fun e w' => ∃ v, e = .returned v ∧ ∃ x k' : Int, v = .int .i64 x ∧ ((x = aI ∨ x = bI ∨ x = cI) ∧ k ≤ k' ∧ k' ≤ k + 3) ∧ Mem w0 I0 I (box bs 3 [.int .i64 k'] :: row ERune (sv u) xs :: Lt) w') := by
 have hoI := M.old
 refine enter Try.func109 rfl 36 Try.ntmps109 [_, _, _, _, _] rfl ?_
 refine wc_seq <| wc_region <| wl_as M rfl rfl <| wl_nil ?_
 refine wc_seq <| wc_region <| wl_mv M rfl rfl <| wl_mv M rfl rfl <| wl_mv M rfl rfl <| wl_mv M rfl rfl <| wl_e (e_callR Try.func110 rfl (vs := [sv u, .int .i64 aI, .int .i64 bI, .pointer (some ⟨bs, 0, none⟩)]) rfl (order2_c (aI := aI) (bI := bI) hl (by omega) (by omega) (by omega) M)) rfl rfl ?_
 rintro _ w1 ⟨x1, y1, k1, rfl, ⟨hxy1, hk1⟩, M⟩
 refine wl_mv M rfl rfl <| wl_m M (q_ext rfl rfl) rfl rfl <| wl_m M (q_ext rfl rfl) rfl rfl <| wl_as M rfl rfl <| wl_as M rfl rfl <| wl_nil ?_
 refine wc_seq <| wc_region <| wl_mv M rfl rfl <| wl_mv M rfl rfl <| wl_mv M rfl rfl <| wl_mv M rfl rfl <| wl_e (e_callR Try.func110 rfl (vs := [sv u, .int .i64 y1, .int .i64 cI, .pointer (some ⟨bs, 0, none⟩)]) rfl (order2_c (aI := y1) (bI := cI) hl (by omega) (by omega) (by omega) M)) rfl rfl ?_
 rintro _ w2 ⟨x2, y2, k2, rfl, ⟨hxy2, hk2⟩, M⟩
 refine wl_mv M rfl rfl <| wl_m M (q_ext rfl rfl) rfl rfl <| wl_m M (q_ext rfl rfl) rfl rfl <| wl_as M rfl rfl <| wl_as M rfl rfl <| wl_nil ?_
 refine wc_seq <| wc_region <| wl_mv M rfl rfl <| wl_mv M rfl rfl <| wl_mv M rfl rfl <| wl_mv M rfl rfl <| wl_e (e_callR Try.func110 rfl (vs := [sv u, .int .i64 x1, .int .i64 x2, .pointer (some ⟨bs, 0, none⟩)]) rfl (order2_c (aI := x1) (bI := x2) hl (by omega) (by omega) (by omega) M)) rfl rfl ?_
 rintro _ w3 ⟨x3, y3, k3, rfl, ⟨hxy3, hk3⟩, M⟩
 refine wl_mv M rfl rfl <| wl_m M (q_ext rfl rfl) rfl rfl <| wl_m M (q_ext rfl rfl) rfl rfl <| wl_as M rfl rfl <| wl_as M rfl rfl <| wl_nil ?_
 refine wc_seq <| wc_region <| wl_mv M rfl rfl <| wl_as M rfl rfl <| wl_nil <| wc_ret ?_
 exact out1 rfl rfl ⟨_, rfl, _, _, rfl, ⟨by omega, by omega, by omega⟩, M⟩
theorem medianA_c {u : SV} {xs : List Int} {bs : Nat} {k : Int} {w0 w : World} {I0 I : Heap} {Lt : List Res} (hl : xs.length ≤ 1099511627776) (hk : 0 ≤ k ∧ k ≤ 900) {aI : Int} (haI : 1 ≤ aI ∧ aI + 1 < (xs.length : Int)) (M : Mem w0 I0 I (box bs 3 [.int .i64 k] :: row ERune (sv u) xs :: Lt) w) :
    Calls A 108 #[sv u, .int .i64 aI, .pointer (some ⟨bs, 0, none⟩)] w (fun e w' => ∃ v, e = .returned v ∧ ∃ x k' : Int, v = .int .i64 x ∧ ((aI - 1 ≤ x ∧ x ≤ aI + 1) ∧ k ≤ k' ∧ k' ≤ k + 3) ∧ Mem w0 I0 I (box bs 3 [.int .i64 k'] :: row ERune (sv u) xs :: Lt) w') := by
 have hoI := M.old
 refine enter Try.func108 rfl 15 Try.ntmps108 [_, _, _] rfl ?_
 refine wc_seq <| wc_region <| wl_as M rfl rfl <| wl_nil ?_
 refine wc_seq <| wc_region <| wl_mv M rfl rfl <| wl_mv M rfl rfl <| wl_m M (q_sub rfl rfl (IntWalk.i64_in _ (by omega))) rfl rfl ?_
 refine wl_mv M rfl rfl <| wl_mv M rfl rfl <| wl_m M (q_add rfl rfl (IntWalk.i64_in _ (by omega))) rfl rfl ?_
 refine wl_mv M rfl rfl <| wl_e (e_callR Try.func109 rfl (vs := [sv u, .int .i64 (aI - 1), .int .i64 aI, .int .i64 (aI + 1), .pointer (some ⟨bs, 0, none⟩)]) rfl (median_c (aI := aI - 1) (bI := aI) (cI := aI + 1) hl (by omega) (by omega) (by omega) (by omega) M)) rfl rfl ?_
 rintro _ w1 ⟨x1, k1, rfl, ⟨hx1, hk1⟩, M⟩
 refine wl_as M rfl rfl <| wl_nil <| wc_ret ?_
 exact out1 rfl rfl ⟨_, rfl, _, _, rfl, ⟨by omega, by omega, by omega⟩, M⟩
set_option maxRecDepth 4000 in
set_option maxHeartbeats 1000000 in
theorem pivotQ_c {u : SV} {xs : List Int} {w0 w : World} {I0 I : Heap} {Lt : List Res} {a b : Nat} {aI bI : Int} (ea : aI = (a : Int)) (eb : bI = (b : Int)) (hb : b ≤ xs.length) (hl : xs.length ≤ 1099511627776) (hab : a + 12 < b) (M : Mem w0 I0 I (row ERune (sv u) xs :: Lt) w) :
    Calls A 100 #[sv u, .int .i64 aI, .int .i64 bI] w (fun e w' => ∃ v, e = .returned v ∧ ∃ p h : Int, v = .tuple #[.int .i64 p, .int .i64 h] ∧ (aI ≤ p ∧ p < bI) ∧ Mem w0 I0 I (row ERune (sv u) xs :: Lt) w') := by
 have hq : (bI - aI).tdiv 4 = (((b - a) / 4 : Nat) : Int) := tdivN (k := 4) (by omega)
 have hoI := M.old
 refine enter Try.func100 rfl 57 Try.ntmps100 [_, _, _] rfl ?_
 refine wc_seq <| wc_region <| wl_as M rfl rfl <| wl_as M rfl rfl <| wl_nil ?_
 refine wc_seq <| wc_region <| wl_mv M rfl rfl <| wl_mv M rfl rfl <| wl_m M (q_sub rfl rfl (IntWalk.i64_in _ (by omega))) rfl rfl ?_
 refine wl_as M rfl rfl <| wl_nil ?_
 refine wc_seq <| wc_region <| wl_e (e_alloc M z3) rfl rfl ?_
 rintro _ w1 ⟨b9, rfl, M⟩
 refine wl_nil ?_
 refine wc_seq <| wc_region <| wl_mv M rfl rfl <| wl_mv M rfl rfl <| wl_m M (q_quo (z := (((b - a) / 4 : Nat) : Int)) rfl rfl (by decide) (by rw [hq]; exact IntWalk.i64_in _ (by omega))) rfl rfl ?_
 refine wl_m M (q_mul rfl rfl (IntWalk.i64_in _ (by omega))) rfl rfl ?_
 refine wl_m M (q_add rfl rfl (IntWalk.i64_in _ (by omega))) rfl rfl ?_
 refine wl_as M rfl rfl <| wl_nil ?_
 refine wc_seq <| wc_region <| wl_mv M rfl rfl <| wl_mv M rfl rfl <| wl_m M (q_quo (z := (((b - a) / 4 : Nat) : Int)) rfl rfl (by decide) (by rw [hq]; exact IntWalk.i64_in _ (by omega))) rfl rfl ?_
 refine wl_m M (q_mul rfl rfl (IntWalk.i64_in _ (by omega))) rfl rfl ?_
 refine wl_m M (q_add rfl rfl (IntWalk.i64_in _ (by omega))) rfl rfl ?_
 refine wl_as M rfl rfl <| wl_nil ?_
 refine wc_seq <| wc_region <| wl_mv M rfl rfl <| wl_mv M rfl rfl <| wl_m M (q_quo (z := (((b - a) / 4 : Nat) : Int)) rfl rfl (by decide) (by rw [hq]; exact IntWalk.i64_in _ (by omega))) rfl rfl ?_
 refine wl_m M (q_mul rfl rfl (IntWalk.i64_in _ (by omega))) rfl rfl ?_
 refine wl_m M (q_add rfl rfl (IntWalk.i64_in _ (by omega))) rfl rfl ?_
 refine wl_as M rfl rfl <| wl_nil ?_
 refine wc_seq ?_
 refine wc_seq <| wc_region <| wl_mv M rfl rfl <| wl_m M (q_geq rfl rfl) rfl rfl <| wl_nil ?_
 refine wc_dec rfl (fun ht32 => ?_) (fun ht32 => ?_)
 ·refine wc_seq ?_
  refine wc_seq <| wc_region <| wl_mv M rfl rfl <| wl_m M (q_geq rfl rfl) rfl rfl <| wl_nil ?_
  refine wc_dec rfl (fun ht34 => ?_) (fun ht34 => ?_)
  ·refine wc_seq <| wc_region <| wl_mv M rfl rfl <| wl_mv M rfl rfl <| wl_e (e_callR Try.func108 rfl (vs := [sv u, .int .i64 (aI + ((((b - a) / 4 : Nat) : Int) * 1)), .pointer (some ⟨b9, 0, none⟩)]) rfl (medianA_c (aI := (aI + (((b - a) / 4 : Nat) : Int) * 1)) hl (by omega) (by omega) M)) rfl rfl ?_
   rintro _ w2 ⟨x1, k1, rfl, ⟨hx1, hk1⟩, M⟩
   refine wl_as M rfl rfl <| wl_nil ?_
   refine wc_seq <| wc_region <| wl_mv M rfl rfl <| wl_mv M rfl rfl <| wl_e (e_callR Try.func108 rfl (vs := [sv u, .int .i64 (aI + ((((b - a) / 4 : Nat) : Int) * 2)), .pointer (some ⟨b9, 0, none⟩)]) rfl (medianA_c (aI := (aI + (((b - a) / 4 : Nat) : Int) * 2)) hl (by omega) (by omega) M)) rfl rfl ?_
   rintro _ w3 ⟨x2, k2, rfl, ⟨hx2, hk2⟩, M⟩
   refine wl_as M rfl rfl <| wl_nil <| wc_region <| wl_mv M rfl rfl <| wl_mv M rfl rfl <| wl_e (e_callR Try.func108 rfl (vs := [sv u, .int .i64 (aI + ((((b - a) / 4 : Nat) : Int) * 3)), .pointer (some ⟨b9, 0, none⟩)]) rfl (medianA_c (aI := (aI + (((b - a) / 4 : Nat) : Int) * 3)) hl (by omega) (by omega) M)) rfl rfl ?_
   rintro _ w4 ⟨x3, k3, rfl, ⟨hx3, hk3⟩, M⟩
   refine wl_as M rfl rfl <| wl_nil <| wc_region <| wl_mv M rfl rfl <| wl_mv M rfl rfl <| wl_mv M rfl rfl <| wl_mv M rfl rfl <| wl_e (e_callR Try.func109 rfl (vs := [sv u, .int .i64 x1, .int .i64 x2, .int .i64 x3, .pointer (some ⟨b9, 0, none⟩)]) rfl (median_c (aI := x1) (bI := x2) (cI := x3) hl (by omega) (by omega) (by omega) (by omega) M)) rfl rfl ?_
   rintro _ w5 ⟨x4, k4, rfl, ⟨hx4, hk4⟩, M⟩
   refine wl_as M rfl rfl <| wl_nil ?_
   refine wc_seq <| wc_region <| wl_m M (q_ldb 0 Try.underlying3 rfl rfl rfl rfl) rfl rfl <| wl_nil <| wc_block ?_
   refine wc_seq <| wc_region <| wl_m M (q_eql rfl rfl) rfl rfl <| wl_as M rfl rfl <| wl_nil ?_
   refine wc_dec rfl (fun ht51 => ?_) (fun ht51 => ?_)
   ·refine wc_seq <| wc_region <| wl_mv M rfl rfl <| wl_as M rfl rfl <| wl_as M rfl rfl <| wl_nil <| wc_ret ?_
    replace M := M.drop 0
    exact out2 rfl rfl rfl ⟨_, rfl, _, _, rfl, ⟨by omega, by omega⟩, M⟩
   refine wc_seq <| wc_region <| wl_m M (q_eql rfl rfl) rfl rfl <| wl_as M rfl rfl <| wl_nil ?_
   refine wc_dec rfl (fun ht54 => ?_) (fun ht54 => ?_)
   ·refine wc_seq <| wc_region <| wl_mv M rfl rfl <| wl_as M rfl rfl <| wl_as M rfl rfl <| wl_nil <| wc_ret ?_
    replace M := M.drop 0
    exact out2 rfl rfl rfl ⟨_, rfl, _, _, rfl, ⟨by omega, by omega⟩, M⟩
   refine wc_seq <| wc_region <| wl_mv M rfl rfl <| wl_as M rfl rfl <| wl_as M rfl rfl <| wl_nil <| wc_ret ?_
   replace M := M.drop 0
   exact out2 rfl rfl rfl ⟨_, rfl, _, _, rfl, ⟨by omega, by omega⟩, M⟩
  refine wc_skip <| wc_region <| wl_mv M rfl rfl <| wl_mv M rfl rfl <| wl_mv M rfl rfl <| wl_mv M rfl rfl <| wl_e (e_callR Try.func109 rfl (vs := [sv u, .int .i64 (aI + ((((b - a) / 4 : Nat) : Int) * 1)), .int .i64 (aI + ((((b - a) / 4 : Nat) : Int) * 2)), .int .i64 (aI + ((((b - a) / 4 : Nat) : Int) * 3)), .pointer (some ⟨b9, 0, none⟩)]) rfl (median_c (aI := (aI + (((b - a) / 4 : Nat) : Int) * 1)) (bI := (aI + (((b - a) / 4 : Nat) : Int) * 2)) (cI := (aI + (((b - a) / 4 : Nat) : Int) * 3)) hl (by omega) (by omega) (by omega) (by omega) M)) rfl rfl ?_
  rintro _ w6 ⟨x4, k4, rfl, ⟨hx4, hk4⟩, M⟩
  refine wl_as M rfl rfl <| wl_nil ?_
  refine wc_seq <| wc_region <| wl_m M (q_ldb 0 Try.underlying3 rfl rfl rfl rfl) rfl rfl <| wl_nil <| wc_block ?_
  refine wc_seq <| wc_region <| wl_m M (q_eql rfl rfl) rfl rfl <| wl_as M rfl rfl <| wl_nil ?_
  refine wc_dec rfl (fun ht51 => ?_) (fun ht51 => ?_)
  ·refine wc_seq <| wc_region <| wl_mv M rfl rfl <| wl_as M rfl rfl <| wl_as M rfl rfl <| wl_nil <| wc_ret ?_
   replace M := M.drop 0
   exact out2 rfl rfl rfl ⟨_, rfl, _, _, rfl, ⟨by omega, by omega⟩, M⟩
  refine wc_seq <| wc_region <| wl_m M (q_eql rfl rfl) rfl rfl <| wl_as M rfl rfl <| wl_nil ?_
  refine wc_dec rfl (fun ht54 => ?_) (fun ht54 => ?_)
  ·refine wc_seq <| wc_region <| wl_mv M rfl rfl <| wl_as M rfl rfl <| wl_as M rfl rfl <| wl_nil <| wc_ret ?_
   replace M := M.drop 0
   exact out2 rfl rfl rfl ⟨_, rfl, _, _, rfl, ⟨by omega, by omega⟩, M⟩
  refine wc_seq <| wc_region <| wl_mv M rfl rfl <| wl_as M rfl rfl <| wl_as M rfl rfl <| wl_nil <| wc_ret ?_
  replace M := M.drop 0
  exact out2 rfl rfl rfl ⟨_, rfl, _, _, rfl, ⟨by omega, by omega⟩, M⟩
 exact absurd ht32 (by omega)
end Go.Proofs.Ytfepjcmjkaolgaa.G
