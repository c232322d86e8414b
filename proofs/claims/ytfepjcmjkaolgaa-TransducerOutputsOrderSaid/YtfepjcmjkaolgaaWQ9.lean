/- Walks of the program's functions. -/
import Derived.Test.YtfepjcmjkaolgaaWQ0
import Derived.Test.YtfepjcmjkaolgaaWQ6
set_option linter.all false
namespace Go.Proofs.Ytfepjcmjkaolgaa.G
open Go Go.RowKit
set_option maxRecDepth 4000 in
set_option maxHeartbeats 1000000 in
theorem pdqQ_c (N : Nat) : ∀ {u : SV} {xs : List Int} {w0 w : World} {I0 I : Heap} {Lt : List Res} {a b : Nat} {aI bI nI : Int} (hN : b - a ≤ N) (ea : aI = (a : Int)) (eb : bI = (b : Int)) (hn : 0 ≤ nI ∧ nI ≤ 1000) (hab : a ≤ b) (hb : b ≤ xs.length) (hl : xs.length ≤ 1099511627776) (hlow : PQ.Low xs a b) (M : Mem w0 I0 I (row ERune (sv u) xs :: Lt) w),
    Calls A 91 #[sv u, .int .i64 aI, .int .i64 bI, .int .i64 nI] w fun e w' => ∃ v, e = .returned v ∧ ∃ ys : List Int, (PQ.PO xs ys a b ∧ PQ.Srt ys a b) ∧ Mem w0 I0 I (row ERune (sv u) ys :: Lt) w' := by
 induction N using Nat.strongRecOn
 rename_i N ih
 intro u xs w0 w I0 I Lt a b aI bI nI hN ea eb hn hab hb hl hlow M
 have hoI := M.old
 refine enter Try.func91 rfl 134 Try.ntmps91 [_, _, _, _] rfl ?_
 refine wc_seq <| wc_region <| wl_as M rfl rfl <| wl_nil ?_
 refine wc_seq <| wc_region <| wl_as M rfl rfl <| wl_nil <| wc_block ?_
 refine wc_loop (α := Nat × Int × Nat × Int × Int × Bool × Bool × (List Int)) [1, 2, 3, 8, 9, 10, 11, 12, 13, 14, 15, 16, 17, 18, 19, 20, 21, 22, 23, 24, 25, 26, 27, 28, 29, 30, 31, 32, 33, 34, 35, 36, 37, 38, 39, 40, 41, 42, 43, 44, 45, 46, 47, 48, 49, 50, 51, 52, 53, 54, 55, 56, 57, 58, 59, 60, 61, 62, 63, 64, 65, 66, 67, 68, 69, 70, 71, 72, 73, 74, 75, 76, 77, 78, 79, 80, 81, 82, 83, 84, 85, 86, 87, 88, 89, 90, 91, 92, 93, 94, 95, 96, 97, 98, 99, 100, 101, 102, 103, 104, 105, 106, 107, 108, 109, 110, 111, 112, 113, 114, 115, 116, 117, 118, 119, 120, 121, 122, 123, 124, 125, 126, 127, 128, 129, 130, 131, 132, 133] (fun ((a1, a1I, b1, b1I, n1I, wb, wp, l_0_0) : Nat × Int × Nat × Int × Int × Bool × Bool × (List Int)) => [(1, .int .i64 a1I), (2, .int .i64 b1I), (3, .int .i64 n1I), (8, .bool wb), (9, .bool wp)])
   (fun ((a1, a1I, b1, b1I, n1I, wb, wp, l_0_0) : Nat × Int × Nat × Int × Int × Bool × Bool × (List Int)) w' => (a1I = (a1 : Int)) ∧ (b1I = (b1 : Int)) ∧ (PQ.Fr xs l_0_0 a b a1 b1) ∧ (0 ≤ n1I ∧ n1I ≤ 1000) ∧ Mem w0 I0 I (row ERune (sv u) l_0_0 :: Lt) w')
   (fun ((a1, a1I, b1, b1I, n1I, wb, wp, l_0_0) : Nat × Int × Nat × Int × Int × Bool × Bool × (List Int)) => b1 - a1) (a, aI, b, bI, nI, true, true, xs) ⟨rfl, rfl, rfl, rfl, rfl, trivial⟩ ?_ ?_
 ·refine ⟨ea, eb, (PQ.Fr.opn hab hb hlow), hn, ?_⟩
  exact M
 rintro ⟨a1, a1I, b1, b1I, n1I, wb, wp, l_0_0⟩ jj0 w1 ⟨e1, e2, hF, hn1, M⟩
 have hFaa := hF.aa
 have hFab := hF.ab
 have hFbb := hF.bb
 have hq8 : (b1I - a1I).tdiv 8 = (((b1 - a1) / 8 : Nat) : Int) := tdivN (k := 8) (by omega)
 refine wc_block ?_
 refine wc_seq <| wc_region <| wl_mv M rfl rfl <| wl_mv M rfl rfl <| wl_m M (q_sub rfl rfl (IntWalk.i64_in _ (by omega))) rfl rfl ?_
 refine wl_as M rfl rfl <| wl_nil ?_
 refine wc_seq ?_
 refine wc_seq <| wc_region <| wl_mv M rfl rfl <| wl_m M (q_leq rfl rfl) rfl rfl <| wl_nil ?_
 refine wc_dec rfl (fun ht23 => ?_) (fun ht23 => ?_)
 ·refine wc_seq <| wc_region <| wl_mv M rfl rfl <| wl_mv M rfl rfl <| wl_mv M rfl rfl <| wl_e (e_callR Try.func97 rfl (vs := [sv u, .int .i64 a1I, .int .i64 b1I]) rfl (insQ_c e1 e2 (by have := hF.po.len; have := hF.bl; have := hF.bb; omega) (by have := hF.po.len; omega) (by omega) M)) rfl rfl ?_
  rintro _ w2 ⟨ys1, hys1, M⟩
  refine wl_nil <| wc_ret ?_
  exact out0 rfl ⟨_, rfl, _, hF.fin hys1.1 hys1.2, M⟩
 refine wc_skip ?_
 refine wc_seq ?_
 refine wc_seq <| wc_region <| wl_mv M rfl rfl <| wl_m M (q_eql rfl rfl) rfl rfl <| wl_nil ?_
 refine wc_dec rfl (fun ht29 => ?_) (fun ht29 => ?_)
 ·refine wc_seq <| wc_region <| wl_mv M rfl rfl <| wl_mv M rfl rfl <| wl_mv M rfl rfl <| wl_e (e_callR Try.func98 rfl (vs := [sv u, .int .i64 a1I, .int .i64 b1I]) rfl (heapQ_c e1 e2 (by have := hF.po.len; have := hF.bl; have := hF.bb; omega) (by have := hF.po.len; omega) (by omega) M)) rfl rfl ?_
  rintro _ w3 ⟨ys2, hys2, M⟩
  refine wl_nil <| wc_ret ?_
  exact out0 rfl ⟨_, rfl, _, hF.fin hys2.1 hys2.2, M⟩
 refine wc_skip ?_
 refine wc_seq ?_
 refine wc_seq <| wc_region <| wl_mv M rfl rfl <| wl_m M (q_not rfl) rfl rfl <| wl_nil ?_
 refine wc_cond rfl (fun ht35 => ?_) (fun ht35 => ?_)
 ·refine wc_seq <| wc_region <| wl_mv M rfl rfl <| wl_mv M rfl rfl <| wl_mv M rfl rfl <| wl_e (e_callR Try.func99 rfl (vs := [sv u, .int .i64 a1I, .int .i64 b1I]) rfl (breakQ_c e1 e2 (by have := hF.po.len; have := hF.bl; have := hF.bb; omega) (by have := hF.po.len; omega) (by omega) M)) rfl rfl ?_
  rintro _ w4 ⟨ys3, hys3, M⟩
  refine wl_nil ?_
  have hF := hF.perm hys3
  refine wc_region <| wl_mv M rfl rfl <| wl_m M (q_sub rfl rfl (IntWalk.i64_in _ (by omega))) rfl rfl ?_
  refine wl_as M rfl rfl <| wl_nil ?_
  refine wc_seq <| wc_region <| wl_mv M rfl rfl <| wl_mv M rfl rfl <| wl_mv M rfl rfl <| wl_e (e_callR Try.func100 rfl (vs := [sv u, .int .i64 a1I, .int .i64 b1I]) rfl (pivotQ_c e1 e2 (by have := hF.po.len; have := hF.bl; have := hF.bb; omega) (by have := hF.po.len; omega) (by omega) M)) rfl rfl ?_
  rintro _ w5 ⟨p9, h9, rfl, hp9, M⟩
  refine wl_mv M rfl rfl <| wl_m M (q_ext rfl rfl) rfl rfl <| wl_m M (q_ext rfl rfl) rfl rfl <| wl_as M rfl rfl <| wl_as M rfl rfl <| wl_nil ?_
  refine wc_seq ?_
  refine wc_seq <| wc_region <| wl_mv M rfl rfl <| wl_m M (q_eql rfl rfl) rfl rfl <| wl_nil ?_
  refine wc_dec rfl (fun ht50 => ?_) (fun ht50 => ?_)
  ·have hp99 := hp9
   refine wc_seq <| wc_region <| wl_mv M rfl rfl <| wl_mv M rfl rfl <| wl_mv M rfl rfl <| wl_e (e_callR Try.func101 rfl (vs := [sv u, .int .i64 a1I, .int .i64 b1I]) rfl (revQ_c e1 e2 (by have := hF.po.len; have := hF.bl; have := hF.bb; omega) (by have := hF.po.len; omega) (by omega) M)) rfl rfl ?_
   rintro _ w6 ⟨ys4, hys4, M⟩
   refine wl_nil ?_
   refine wc_seq ?_
   have hF := hF.perm hys4
   refine wc_region <| wl_mv M rfl rfl <| wl_m M (q_sub rfl rfl (IntWalk.i64_in _ (by omega))) rfl rfl ?_
   refine wl_mv M rfl rfl <| wl_mv M rfl rfl <| wl_m M (q_sub rfl rfl (IntWalk.i64_in _ (by omega))) rfl rfl ?_
   refine wl_m M (q_sub rfl rfl (IntWalk.i64_in _ (by omega))) rfl rfl ?_
   refine wl_as M rfl rfl <| wl_nil <| wc_region <| wl_as M rfl rfl <| wl_nil ?_
   refine wc_seq ?_
   refine wc_seq ?_
   refine wc_join (α := Unit) [61, 62, 63, 64, 65, 66, 67, 68] (fun _ => [(68, .bool ((wb && wp) && (decide (1 = 1))))]) (fun _ w' => Mem w0 I0 I (row ERune (sv u) ys4 :: Lt) w') ?_ ?_
   ·refine wc_region <| wl_mv M rfl rfl <| wl_mv M rfl rfl ?_
    rcases Bool.eq_false_or_eq_true (wb) with hg62 | hg62
    ·refine wl_m M (q_guard 1 rfl rfl rfl hg62 (q_move rfl)) rfl rfl <| wl_m M (q_pickT rfl hg62 rfl) rfl rfl <| wl_mv M rfl rfl ?_
     rcases Bool.eq_false_or_eq_true (wp) with hg65 | hg65
     ·refine wl_m M (q_guard 4 rfl rfl rfl hg65 (q_move rfl)) rfl rfl <| wl_m M (q_guard 4 rfl rfl rfl hg65 (q_eql rfl rfl)) rfl rfl <| wl_m M (q_pickT rfl hg65 rfl) rfl rfl <| wl_nil ?_
      exact ⟨(), M, ⟨(show some (Value.bool (decide (1 = 1))) = some (Value.bool ((wb && wp) && (decide (1 = 1)))) from by first | (simp only [hg62, hg65, bL8]; done) | (simp_all; done) | (simp_all; omega)), trivial⟩, unw_take 8 rfl rfl⟩
     refine wl_m M (q_off 4 rfl rfl rfl hg65) rfl rfl <| wl_m M (q_off 4 rfl rfl rfl hg65) rfl rfl <| wl_m M (q_pickF rfl hg65 rfl) rfl rfl <| wl_nil ?_
     exact ⟨(), M, ⟨(show some (Value.bool false) = some (Value.bool ((wb && wp) && (decide (1 = 1)))) from by first | (simp only [hg62, hg65, bL8]; done) | (simp_all; done) | (simp_all; omega)), trivial⟩, unw_take 8 rfl rfl⟩
    refine wl_m M (q_off 1 rfl rfl rfl hg62) rfl rfl <| wl_m M (q_pickF rfl hg62 rfl) rfl rfl <| wl_mv M rfl rfl <| wl_m M (q_off 4 rfl rfl rfl rfl) rfl rfl <| wl_m M (q_off 4 rfl rfl rfl rfl) rfl rfl <| wl_m M (q_pickF rfl rfl rfl) rfl rfl <| wl_nil ?_
    exact ⟨(), M, ⟨(show some (Value.bool false) = some (Value.bool ((wb && wp) && (decide (1 = 1)))) from by first | (simp only [hg62, bL8]; done) | (simp_all; done) | (simp_all; omega)), trivial⟩, unw_take 8 rfl rfl⟩
   rintro _ jr15 w7 M
   refine wc_cond rfl (fun ht68 => ?_) (fun ht68 => ?_)
   ·refine wc_seq <| wc_region <| wl_mv M rfl rfl <| wl_mv M rfl rfl <| wl_mv M rfl rfl <| wl_e (e_callR Try.func102 rfl (vs := [sv u, .int .i64 a1I, .int .i64 b1I]) rfl (partialQ_c e1 e2 (by have := hF.po.len; have := hF.bl; have := hF.bb; omega) (by have := hF.po.len; omega) (by omega) hF.low M)) rfl rfl ?_
    rintro _ w8 ⟨r5, ys5, rfl, hys5, M⟩
    refine wl_nil ?_
    refine wc_cond rfl (fun ht72 => ?_) (fun ht72 => ?_)
    ·refine wc_ret ?_
     exact out0 rfl ⟨_, rfl, _, hF.fin hys5.1 (hys5.2 ht72), M⟩
    have hF := hF.perm hys5.1
    refine wc_skip ?_
    refine wc_seq ?_
    refine wc_seq ?_
    refine wc_join (α := Unit) [73, 74, 75, 76, 77, 78, 79, 80, 81, 82, 83, 84, 85, 86, 87] (fun _ => [(87, .bool ((decide (0 < a1I)) && (!(decide (ys5.getD (a1 - 1) 0 < ys5.getD ((b1I - 1) - (p9 - a1I)).toNat 0)))))]) (fun _ w' => Mem w0 I0 I (row ERune (sv u) ys5 :: Lt) w') ?_ ?_
    ·refine wc_draws (fun w' => Mem w0 I0 I (row ERune (sv u) ys5 :: Lt) w' ∧ True) [] fol ?_
     replace M := M.drew
     have hS := (⟨M, trivial⟩ : _ ∧ _)
     refine wa_q 0 rfl (by kernel_rfl) (q_move rfl) hS rfl rfl ?_
     refine wa_q 1 rfl (by kernel_rfl) (q_gtr rfl rfl) hS rfl rfl ?_
     refine wa_q 2 rfl (by kernel_rfl) (q_move rfl) hS rfl rfl ?_
     rcases Bool.eq_false_or_eq_true (decide (0 < a1I)) with hg75 | hg75
     ·refine wa_q 3 rfl (by kernel_rfl) (q_guard 2 rfl rfl rfl hg75 (q_move rfl)) hS rfl rfl ?_
      refine wa_q 4 rfl (by kernel_rfl) (q_guard 2 rfl rfl rfl hg75 (q_move rfl)) hS rfl rfl ?_
      refine wa_q 5 rfl (by kernel_rfl) (q_guard 2 rfl rfl rfl hg75 (q_sub rfl rfl (IntWalk.i64_in _ (by omega)))) hS rfl rfl ?_
      have ha19 : 0 < a1 := by have := of_decide_eq_true hg75; omega
      refine wa_ixSG (j := (a1 - 1)) 2 rfl rfl rfl hg75 6 hS (fun _ h => h.1.rd (i := 0) rfl) rfl (by kernel_rfl) Try.underlying40 rfl (ixe (by omega)) (PQ.at_some (by have := hF.po.len; have := hF.bl; have := hF.bb; omega)) rfl (fun b79 o79 p79 => ?_)
      refine wa_q 7 rfl (by kernel_rfl) (q_guard 2 rfl rfl rfl hg75 (q_ldp p79 rfl rfl)) hS rfl rfl ?_
      refine wa_q 8 rfl (by kernel_rfl) (q_guard 2 rfl rfl rfl hg75 (q_move rfl)) hS rfl rfl ?_
      refine wa_q 9 rfl (by kernel_rfl) (q_guard 2 rfl rfl rfl hg75 (q_move rfl)) hS rfl rfl ?_
      refine wa_ixSG (j := (((b1I - 1) - (p9 - a1I)).toNat)) 2 rfl rfl rfl hg75 10 hS (fun _ h => h.1.rd (i := 0) rfl) rfl (by kernel_rfl) Try.underlying40 rfl (ixe (by omega)) (PQ.at_some (by have := hF.po.len; have := hF.bl; have := hF.bb; omega)) rfl (fun b83 o83 p83 => ?_)
      refine wa_q 11 rfl (by kernel_rfl) (q_guard 2 rfl rfl rfl hg75 (q_ldp p83 rfl rfl)) hS rfl rfl ?_
      refine wa_e 12 rfl (by kernel_rfl) (e_guard 2 rfl rfl rfl hg75 (e_callC M (lessR_c (ys5.getD (a1 - 1) 0) (ys5.getD ((b1I - 1) - (p9 - a1I)).toNat 0) M.imm) Try.func103 rfl rfl)) rfl rfl ?_
      rintro _ w9 ⟨J85, hJ85, rfl, M⟩
      have hS := (⟨(M.less hJ85 hoI), trivial⟩ : _ ∧ _)
      refine ⟨fun _ => hS, ?_⟩
      replace M := M.less hJ85 hoI
      refine wa_q 13 rfl (by kernel_rfl) (q_guard 2 rfl rfl rfl hg75 (q_not rfl)) hS rfl rfl ?_
      refine wa_q 14 rfl (by kernel_rfl) (q_pickT rfl hg75 rfl) hS rfl rfl ?_
      refine wa_done (by kernel_rfl) ?_
      exact ⟨(), M, ⟨(show some (Value.bool (!(decide (ys5.getD (a1 - 1) 0 < ys5.getD ((b1I - 1) - (p9 - a1I)).toNat 0)))) = some (Value.bool ((decide (0 < a1I)) && (!(decide (ys5.getD (a1 - 1) 0 < ys5.getD ((b1I - 1) - (p9 - a1I)).toNat 0))))) from by first | (simp only [hg75, bL8]; done) | (simp_all; done) | (simp_all; omega)), trivial⟩, unw_take 15 rfl rfl⟩
     refine wa_q 3 rfl (by kernel_rfl) (q_off 2 rfl rfl rfl hg75) hS rfl rfl ?_
     refine wa_q 4 rfl (by kernel_rfl) (q_off 2 rfl rfl rfl hg75) hS rfl rfl ?_
     refine wa_q 5 rfl (by kernel_rfl) (q_off 2 rfl rfl rfl hg75) hS rfl rfl ?_
     refine wa_q 6 rfl (by kernel_rfl) (q_off 2 rfl rfl rfl hg75) hS rfl rfl ?_
     refine wa_q 7 rfl (by kernel_rfl) (q_off 2 rfl rfl rfl hg75) hS rfl rfl ?_
     refine wa_q 8 rfl (by kernel_rfl) (q_off 2 rfl rfl rfl hg75) hS rfl rfl ?_
     refine wa_q 9 rfl (by kernel_rfl) (q_off 2 rfl rfl rfl hg75) hS rfl rfl ?_
     refine wa_q 10 rfl (by kernel_rfl) (q_off 2 rfl rfl rfl hg75) hS rfl rfl ?_
     refine wa_q 11 rfl (by kernel_rfl) (q_off 2 rfl rfl rfl hg75) hS rfl rfl ?_
     refine wa_q 12 rfl (by kernel_rfl) (q_off 2 rfl rfl rfl hg75) hS rfl rfl ?_
     refine wa_q 13 rfl (by kernel_rfl) (q_off 2 rfl rfl rfl hg75) hS rfl rfl ?_
     refine wa_q 14 rfl (by kernel_rfl) (q_pickF rfl hg75 rfl) hS rfl rfl ?_
     refine wa_done (by kernel_rfl) ?_
     exact ⟨(), M, ⟨(show some (Value.bool false) = some (Value.bool ((decide (0 < a1I)) && (!(decide (ys5.getD (a1 - 1) 0 < ys5.getD ((b1I - 1) - (p9 - a1I)).toNat 0))))) from by first | (simp only [hg75, bL8]; done) | (simp_all; done) | (simp_all; omega)), trivial⟩, unw_take 15 rfl rfl⟩
    rintro _ jr17 w10 M
    refine wc_cond rfl (fun ht87 => ?_) (fun ht87 => ?_)
    ·have h87 : 0 < a1I ∧ ys5.getD ((b1I - 1) - (p9 - a1I)).toNat 0 ≤ ys5.getD (a1 - 1) 0 := by simpa using ht87
     refine wc_seq <| wc_region <| wl_mv M rfl rfl <| wl_mv M rfl rfl <| wl_mv M rfl rfl <| wl_mv M rfl rfl <| wl_e (e_callR Try.func104 rfl (vs := [sv u, .int .i64 a1I, .int .i64 b1I, .int .i64 ((b1I - 1) - (p9 - a1I))]) rfl (partE_c e1 e2 (by have := hF.po.len; have := hF.bl; have := hF.bb; omega) (by have := hF.po.len; omega) (v := ((b1I - 1) - (p9 - a1I)).toNat) (by omega) (by omega) (by omega) M)) rfl rfl ?_
     rintro _ w11 ⟨m, ys6, rfl, ⟨hq, hqv⟩, M⟩
     refine wl_as M rfl rfl <| wl_nil ?_
     refine wc_seq ?_
     have hqa := hq.am
     have hqb := hq.mb
     have hqv9 : ys6.getD a1 0 ≤ ys5.getD (a1 - 1) 0 := by rw [hqv]; exact h87.2
     refine wc_region <| wl_mv M rfl rfl <| wl_as M rfl rfl <| wl_nil <| wc_exit rfl ?_
     refine ⟨(m, (m : Int), b1, b1I, n1I - 1, wb, wp, ys6), ?_, ⟨(by omega), (by omega), (hF.equal (by omega) hq hqv9), (by omega), M⟩, ⟨rfl, rfl, rfl, rfl, rfl, trivial⟩, unw_look rfl (unw_hav rfl (unw_look rfl (unw_hav rfl (unw_look rfl unw_base))))⟩
     show b1 - m < b1 - a1
     omega
    refine wc_skip ?_
    refine wc_seq <| wc_region <| wl_mv M rfl rfl <| wl_mv M rfl rfl <| wl_mv M rfl rfl <| wl_mv M rfl rfl <| wl_e (e_callR Try.func105 rfl (vs := [sv u, .int .i64 a1I, .int .i64 b1I, .int .i64 ((b1I - 1) - (p9 - a1I))]) rfl (partQ_c e1 e2 (by have := hF.po.len; have := hF.bl; have := hF.bb; omega) (by have := hF.po.len; omega) (v := ((b1I - 1) - (p9 - a1I)).toNat) (by omega) (by omega) (by omega) M)) rfl rfl ?_
    rintro _ w12 ⟨m, ap, ys6, rfl, hpd, M⟩
    refine wl_mv M rfl rfl <| wl_m M (q_ext rfl rfl) rfl rfl <| wl_m M (q_ext rfl rfl) rfl rfl <| wl_as M rfl rfl <| wl_as M rfl rfl <| wl_nil ?_
    refine wc_seq ?_
    have hpa := hpd.am
    have hpb := hpd.mb
    have hpl := hpd.po.len
    have hFl := hF.po.len
    have hFb := hF.bl
    have hFc := hF.bb
    refine wc_region <| wl_mv M rfl rfl <| wl_as M rfl rfl <| wl_nil ?_
    refine wc_seq <| wc_region <| wl_mv M rfl rfl <| wl_mv M rfl rfl <| wl_m M (q_sub rfl rfl (IntWalk.i64_in _ (by omega))) rfl rfl ?_
    refine wl_mv M rfl rfl <| wl_mv M rfl rfl <| wl_m M (q_sub rfl rfl (IntWalk.i64_in _ (by omega))) rfl rfl ?_
    refine wl_as M rfl rfl <| wl_as M rfl rfl <| wl_nil ?_
    refine wc_seq <| wc_region <| wl_mv M rfl rfl <| wl_m M (q_quo (z := (((b1 - a1) / 8 : Nat) : Int)) rfl rfl (by decide) (by rw [hq8]; exact IntWalk.i64_in _ (by omega))) rfl rfl ?_
    refine wl_as M rfl rfl <| wl_nil ?_
    refine wc_seq <| wc_region <| wl_mv M rfl rfl <| wl_mv M rfl rfl <| wl_m M (q_lss rfl rfl) rfl rfl <| wl_nil ?_
    refine wc_dec rfl (fun ht113 => ?_) (fun ht113 => ?_)
    ·refine wc_seq <| wc_region <| wl_mv M rfl rfl <| wl_mv M rfl rfl <| wl_m M (q_geq rfl rfl) rfl rfl <| wl_as M rfl rfl <| wl_nil ?_
     refine wc_seq <| wc_region <| wl_mv M rfl rfl <| wl_mv M rfl rfl <| wl_mv M rfl rfl <| wl_mv M rfl rfl <| wl_e (e_callR Try.func91 rfl (vs := [sv u, .int .i64 a1I, .int .i64 (m : Int), .int .i64 (n1I - 1)]) rfl (ih (m - a1) (by omega) (a := a1) (b := m) (by omega) e1 rfl (by omega) (by omega) (by omega) (by omega) (hpd.lowL hF) M)) rfl rfl ?_
     rintro _ w13 ⟨ys7, hys7, M⟩
     refine wl_nil <| wc_region <| wl_mv M rfl rfl <| wl_m M (q_add rfl rfl (IntWalk.i64_in _ (by omega))) rfl rfl ?_
     refine wl_as M rfl rfl <| wl_nil ?_
     refine ⟨(m + 1, (m : Int) + 1, b1, b1I, n1I - 1, decide ((((b1 - a1) / 8 : Nat) : Int) ≤ ((m : Int) - a1I)), ap, ys7), ?_, ⟨(by omega), (by omega), (hF.left hpd hys7), (by omega), M⟩, ⟨rfl, rfl, rfl, rfl, rfl, trivial⟩, unw_look rfl (unw_hav rfl (unw_look rfl (unw_hav rfl (unw_look rfl unw_base))))⟩
     show b1 - (m + 1) < b1 - a1
     omega
    refine wc_seq <| wc_region <| wl_mv M rfl rfl <| wl_mv M rfl rfl <| wl_m M (q_geq rfl rfl) rfl rfl <| wl_as M rfl rfl <| wl_nil ?_
    refine wc_seq <| wc_region <| wl_mv M rfl rfl <| wl_mv M rfl rfl <| wl_m M (q_add rfl rfl (IntWalk.i64_in _ (by omega))) rfl rfl ?_
    refine wl_mv M rfl rfl <| wl_mv M rfl rfl <| wl_e (e_callR Try.func91 rfl (vs := [sv u, .int .i64 ((m : Int) + 1), .int .i64 b1I, .int .i64 (n1I - 1)]) rfl (ih (b1 - (m + 1)) (by omega) (a := m + 1) (b := b1) (by omega) rfl e2 (by omega) (by omega) (by omega) (by omega) hpd.lowR M)) rfl rfl ?_
    rintro _ w14 ⟨ys7, hys7, M⟩
    refine wl_nil <| wc_region <| wl_mv M rfl rfl <| wl_as M rfl rfl <| wl_nil ?_
    refine ⟨(a1, a1I, m, (m : Int), n1I - 1, decide ((((b1 - a1) / 8 : Nat) : Int) ≤ (b1I - (m : Int))), ap, ys7), ?_, ⟨(by omega), (by omega), (hF.right hpd hys7), (by omega), M⟩, ⟨rfl, rfl, rfl, rfl, rfl, trivial⟩, unw_look rfl (unw_hav rfl (unw_look rfl (unw_hav rfl (unw_look rfl unw_base))))⟩
    show m - a1 < b1 - a1
    omega
   refine wc_skip ?_
   refine wc_seq ?_
   refine wc_seq ?_
   refine wc_join (α := Unit) [73, 74, 75, 76, 77, 78, 79, 80, 81, 82, 83, 84, 85, 86, 87] (fun _ => [(87, .bool ((decide (0 < a1I)) && (!(decide (ys4.getD (a1 - 1) 0 < ys4.getD ((b1I - 1) - (p9 - a1I)).toNat 0)))))]) (fun _ w' => Mem w0 I0 I (row ERune (sv u) ys4 :: Lt) w') ?_ ?_
   ·refine wc_draws (fun w' => Mem w0 I0 I (row ERune (sv u) ys4 :: Lt) w' ∧ True) [] fol ?_
    replace M := M.drew
    have hS := (⟨M, trivial⟩ : _ ∧ _)
    refine wa_q 0 rfl (by kernel_rfl) (q_move rfl) hS rfl rfl ?_
    refine wa_q 1 rfl (by kernel_rfl) (q_gtr rfl rfl) hS rfl rfl ?_
    refine wa_q 2 rfl (by kernel_rfl) (q_move rfl) hS rfl rfl ?_
    rcases Bool.eq_false_or_eq_true (decide (0 < a1I)) with hg75 | hg75
    ·refine wa_q 3 rfl (by kernel_rfl) (q_guard 2 rfl rfl rfl hg75 (q_move rfl)) hS rfl rfl ?_
     refine wa_q 4 rfl (by kernel_rfl) (q_guard 2 rfl rfl rfl hg75 (q_move rfl)) hS rfl rfl ?_
     refine wa_q 5 rfl (by kernel_rfl) (q_guard 2 rfl rfl rfl hg75 (q_sub rfl rfl (IntWalk.i64_in _ (by omega)))) hS rfl rfl ?_
     have ha19 : 0 < a1 := by have := of_decide_eq_true hg75; omega
     refine wa_ixSG (j := (a1 - 1)) 2 rfl rfl rfl hg75 6 hS (fun _ h => h.1.rd (i := 0) rfl) rfl (by kernel_rfl) Try.underlying40 rfl (ixe (by omega)) (PQ.at_some (by have := hF.po.len; have := hF.bl; have := hF.bb; omega)) rfl (fun b79 o79 p79 => ?_)
     refine wa_q 7 rfl (by kernel_rfl) (q_guard 2 rfl rfl rfl hg75 (q_ldp p79 rfl rfl)) hS rfl rfl ?_
     refine wa_q 8 rfl (by kernel_rfl) (q_guard 2 rfl rfl rfl hg75 (q_move rfl)) hS rfl rfl ?_
     refine wa_q 9 rfl (by kernel_rfl) (q_guard 2 rfl rfl rfl hg75 (q_move rfl)) hS rfl rfl ?_
     refine wa_ixSG (j := (((b1I - 1) - (p9 - a1I)).toNat)) 2 rfl rfl rfl hg75 10 hS (fun _ h => h.1.rd (i := 0) rfl) rfl (by kernel_rfl) Try.underlying40 rfl (ixe (by omega)) (PQ.at_some (by have := hF.po.len; have := hF.bl; have := hF.bb; omega)) rfl (fun b83 o83 p83 => ?_)
     refine wa_q 11 rfl (by kernel_rfl) (q_guard 2 rfl rfl rfl hg75 (q_ldp p83 rfl rfl)) hS rfl rfl ?_
     refine wa_e 12 rfl (by kernel_rfl) (e_guard 2 rfl rfl rfl hg75 (e_callC M (lessR_c (ys4.getD (a1 - 1) 0) (ys4.getD ((b1I - 1) - (p9 - a1I)).toNat 0) M.imm) Try.func103 rfl rfl)) rfl rfl ?_
     rintro _ w15 ⟨J85, hJ85, rfl, M⟩
     have hS := (⟨(M.less hJ85 hoI), trivial⟩ : _ ∧ _)
     refine ⟨fun _ => hS, ?_⟩
     replace M := M.less hJ85 hoI
     refine wa_q 13 rfl (by kernel_rfl) (q_guard 2 rfl rfl rfl hg75 (q_not rfl)) hS rfl rfl ?_
     refine wa_q 14 rfl (by kernel_rfl) (q_pickT rfl hg75 rfl) hS rfl rfl ?_
     refine wa_done (by kernel_rfl) ?_
     exact ⟨(), M, ⟨(show some (Value.bool (!(decide (ys4.getD (a1 - 1) 0 < ys4.getD ((b1I - 1) - (p9 - a1I)).toNat 0)))) = some (Value.bool ((decide (0 < a1I)) && (!(decide (ys4.getD (a1 - 1) 0 < ys4.getD ((b1I - 1) - (p9 - a1I)).toNat 0))))) from by first | (simp only [hg75, bL8]; done) | (simp_all; done) | (simp_all; omega)), trivial⟩, unw_take 15 rfl rfl⟩
    refine wa_q 3 rfl (by kernel_rfl) (q_off 2 rfl rfl rfl hg75) hS rfl rfl ?_
    refine wa_q 4 rfl (by kernel_rfl) (q_off 2 rfl rfl rfl hg75) hS rfl rfl ?_
    refine wa_q 5 rfl (by kernel_rfl) (q_off 2 rfl rfl rfl hg75) hS rfl rfl ?_
    refine wa_q 6 rfl (by kernel_rfl) (q_off 2 rfl rfl rfl hg75) hS rfl rfl ?_
    refine wa_q 7 rfl (by kernel_rfl) (q_off 2 rfl rfl rfl hg75) hS rfl rfl ?_
    refine wa_q 8 rfl (by kernel_rfl) (q_off 2 rfl rfl rfl hg75) hS rfl rfl ?_
    refine wa_q 9 rfl (by kernel_rfl) (q_off 2 rfl rfl rfl hg75) hS rfl rfl ?_
    refine wa_q 10 rfl (by kernel_rfl) (q_off 2 rfl rfl rfl hg75) hS rfl rfl ?_
    refine wa_q 11 rfl (by kernel_rfl) (q_off 2 rfl rfl rfl hg75) hS rfl rfl ?_
    refine wa_q 12 rfl (by kernel_rfl) (q_off 2 rfl rfl rfl hg75) hS rfl rfl ?_
    refine wa_q 13 rfl (by kernel_rfl) (q_off 2 rfl rfl rfl hg75) hS rfl rfl ?_
    refine wa_q 14 rfl (by kernel_rfl) (q_pickF rfl hg75 rfl) hS rfl rfl ?_
    refine wa_done (by kernel_rfl) ?_
    exact ⟨(), M, ⟨(show some (Value.bool false) = some (Value.bool ((decide (0 < a1I)) && (!(decide (ys4.getD (a1 - 1) 0 < ys4.getD ((b1I - 1) - (p9 - a1I)).toNat 0))))) from by first | (simp only [hg75, bL8]; done) | (simp_all; done) | (simp_all; omega)), trivial⟩, unw_take 15 rfl rfl⟩
   rintro _ jr17 w16 M
   refine wc_cond rfl (fun ht87 => ?_) (fun ht87 => ?_)
   ·have h87 : 0 < a1I ∧ ys4.getD ((b1I - 1) - (p9 - a1I)).toNat 0 ≤ ys4.getD (a1 - 1) 0 := by simpa using ht87
    refine wc_seq <| wc_region <| wl_mv M rfl rfl <| wl_mv M rfl rfl <| wl_mv M rfl rfl <| wl_mv M rfl rfl <| wl_e (e_callR Try.func104 rfl (vs := [sv u, .int .i64 a1I, .int .i64 b1I, .int .i64 ((b1I - 1) - (p9 - a1I))]) rfl (partE_c e1 e2 (by have := hF.po.len; have := hF.bl; have := hF.bb; omega) (by have := hF.po.len; omega) (v := ((b1I - 1) - (p9 - a1I)).toNat) (by omega) (by omega) (by omega) M)) rfl rfl ?_
    rintro _ w17 ⟨m, ys6, rfl, ⟨hq, hqv⟩, M⟩
    refine wl_as M rfl rfl <| wl_nil ?_
    refine wc_seq ?_
    have hqa := hq.am
    have hqb := hq.mb
    have hqv9 : ys6.getD a1 0 ≤ ys4.getD (a1 - 1) 0 := by rw [hqv]; exact h87.2
    refine wc_region <| wl_mv M rfl rfl <| wl_as M rfl rfl <| wl_nil <| wc_exit rfl ?_
    refine ⟨(m, (m : Int), b1, b1I, n1I - 1, wb, wp, ys6), ?_, ⟨(by omega), (by omega), (hF.equal (by omega) hq hqv9), (by omega), M⟩, ⟨rfl, rfl, rfl, rfl, rfl, trivial⟩, unw_look rfl (unw_hav rfl (unw_look rfl (unw_hav rfl (unw_look rfl unw_base))))⟩
    show b1 - m < b1 - a1
    omega
   refine wc_skip ?_
   refine wc_seq <| wc_region <| wl_mv M rfl rfl <| wl_mv M rfl rfl <| wl_mv M rfl rfl <| wl_mv M rfl rfl <| wl_e (e_callR Try.func105 rfl (vs := [sv u, .int .i64 a1I, .int .i64 b1I, .int .i64 ((b1I - 1) - (p9 - a1I))]) rfl (partQ_c e1 e2 (by have := hF.po.len; have := hF.bl; have := hF.bb; omega) (by have := hF.po.len; omega) (v := ((b1I - 1) - (p9 - a1I)).toNat) (by omega) (by omega) (by omega) M)) rfl rfl ?_
   rintro _ w18 ⟨m, ap, ys6, rfl, hpd, M⟩
   refine wl_mv M rfl rfl <| wl_m M (q_ext rfl rfl) rfl rfl <| wl_m M (q_ext rfl rfl) rfl rfl <| wl_as M rfl rfl <| wl_as M rfl rfl <| wl_nil ?_
   refine wc_seq ?_
   have hpa := hpd.am
   have hpb := hpd.mb
   have hpl := hpd.po.len
   have hFl := hF.po.len
   have hFb := hF.bl
   have hFc := hF.bb
   refine wc_region <| wl_mv M rfl rfl <| wl_as M rfl rfl <| wl_nil ?_
   refine wc_seq <| wc_region <| wl_mv M rfl rfl <| wl_mv M rfl rfl <| wl_m M (q_sub rfl rfl (IntWalk.i64_in _ (by omega))) rfl rfl ?_
   refine wl_mv M rfl rfl <| wl_mv M rfl rfl <| wl_m M (q_sub rfl rfl (IntWalk.i64_in _ (by omega))) rfl rfl ?_
   refine wl_as M rfl rfl <| wl_as M rfl rfl <| wl_nil ?_
   refine wc_seq <| wc_region <| wl_mv M rfl rfl <| wl_m M (q_quo (z := (((b1 - a1) / 8 : Nat) : Int)) rfl rfl (by decide) (by rw [hq8]; exact IntWalk.i64_in _ (by omega))) rfl rfl ?_
   refine wl_as M rfl rfl <| wl_nil ?_
   refine wc_seq <| wc_region <| wl_mv M rfl rfl <| wl_mv M rfl rfl <| wl_m M (q_lss rfl rfl) rfl rfl <| wl_nil ?_
   refine wc_dec rfl (fun ht113 => ?_) (fun ht113 => ?_)
   ·refine wc_seq <| wc_region <| wl_mv M rfl rfl <| wl_mv M rfl rfl <| wl_m M (q_geq rfl rfl) rfl rfl <| wl_as M rfl rfl <| wl_nil ?_
    refine wc_seq <| wc_region <| wl_mv M rfl rfl <| wl_mv M rfl rfl <| wl_mv M rfl rfl <| wl_mv M rfl rfl <| wl_e (e_callR Try.func91 rfl (vs := [sv u, .int .i64 a1I, .int .i64 (m : Int), .int .i64 (n1I - 1)]) rfl (ih (m - a1) (by omega) (a := a1) (b := m) (by omega) e1 rfl (by omega) (by omega) (by omega) (by omega) (hpd.lowL hF) M)) rfl rfl ?_
    rintro _ w19 ⟨ys7, hys7, M⟩
    refine wl_nil <| wc_region <| wl_mv M rfl rfl <| wl_m M (q_add rfl rfl (IntWalk.i64_in _ (by omega))) rfl rfl ?_
    refine wl_as M rfl rfl <| wl_nil ?_
    refine ⟨(m + 1, (m : Int) + 1, b1, b1I, n1I - 1, decide ((((b1 - a1) / 8 : Nat) : Int) ≤ ((m : Int) - a1I)), ap, ys7), ?_, ⟨(by omega), (by omega), (hF.left hpd hys7), (by omega), M⟩, ⟨rfl, rfl, rfl, rfl, rfl, trivial⟩, unw_look rfl (unw_hav rfl (unw_look rfl (unw_hav rfl (unw_look rfl unw_base))))⟩
    show b1 - (m + 1) < b1 - a1
    omega
   refine wc_seq <| wc_region <| wl_mv M rfl rfl <| wl_mv M rfl rfl <| wl_m M (q_geq rfl rfl) rfl rfl <| wl_as M rfl rfl <| wl_nil ?_
   refine wc_seq <| wc_region <| wl_mv M rfl rfl <| wl_mv M rfl rfl <| wl_m M (q_add rfl rfl (IntWalk.i64_in _ (by omega))) rfl rfl ?_
   refine wl_mv M rfl rfl <| wl_mv M rfl rfl <| wl_e (e_callR Try.func91 rfl (vs := [sv u, .int .i64 ((m : Int) + 1), .int .i64 b1I, .int .i64 (n1I - 1)]) rfl (ih (b1 - (m + 1)) (by omega) (a := m + 1) (b := b1) (by omega) rfl e2 (by omega) (by omega) (by omega) (by omega) hpd.lowR M)) rfl rfl ?_
   rintro _ w20 ⟨ys7, hys7, M⟩
   refine wl_nil <| wc_region <| wl_mv M rfl rfl <| wl_as M rfl rfl <| wl_nil ?_
   refine ⟨(a1, a1I, m, (m : Int), n1I - 1, decide ((((b1 - a1) / 8 : Nat) : Int) ≤ (b1I - (m : Int))), ap, ys7), ?_, ⟨(by omega), (by omega), (hF.right hpd hys7), (by omega), M⟩, ⟨rfl, rfl, rfl, rfl, rfl, trivial⟩, unw_look rfl (unw_hav rfl (unw_look rfl (unw_hav rfl (unw_look rfl unw_base))))⟩
   show m - a1 < b1 - a1
   omega
  refine wc_skip ?_
  refine wc_seq ?_
  refine wc_seq ?_
  refine wc_join (α := Unit) [61, 62, 63, 64, 65, 66, 67, 68] (fun _ => [(68, .bool ((wb && wp) && (decide (h9 = 1))))]) (fun _ w' => Mem w0 I0 I (row ERune (sv u) ys3 :: Lt) w') ?_ ?_
  ·refine wc_region <| wl_mv M rfl rfl <| wl_mv M rfl rfl ?_
   rcases Bool.eq_false_or_eq_true (wb) with hg62 | hg62
   ·refine wl_m M (q_guard 1 rfl rfl rfl hg62 (q_move rfl)) rfl rfl <| wl_m M (q_pickT rfl hg62 rfl) rfl rfl <| wl_mv M rfl rfl ?_
    rcases Bool.eq_false_or_eq_true (wp) with hg65 | hg65
    ·refine wl_m M (q_guard 4 rfl rfl rfl hg65 (q_move rfl)) rfl rfl <| wl_m M (q_guard 4 rfl rfl rfl hg65 (q_eql rfl rfl)) rfl rfl <| wl_m M (q_pickT rfl hg65 rfl) rfl rfl <| wl_nil ?_
     exact ⟨(), M, ⟨(show some (Value.bool (decide (h9 = 1))) = some (Value.bool ((wb && wp) && (decide (h9 = 1)))) from by first | (simp only [hg62, hg65, bL8]; done) | (simp_all; done) | (simp_all; omega)), trivial⟩, unw_take 8 rfl rfl⟩
    refine wl_m M (q_off 4 rfl rfl rfl hg65) rfl rfl <| wl_m M (q_off 4 rfl rfl rfl hg65) rfl rfl <| wl_m M (q_pickF rfl hg65 rfl) rfl rfl <| wl_nil ?_
    exact ⟨(), M, ⟨(show some (Value.bool false) = some (Value.bool ((wb && wp) && (decide (h9 = 1)))) from by first | (simp only [hg62, hg65, bL8]; done) | (simp_all; done) | (simp_all; omega)), trivial⟩, unw_take 8 rfl rfl⟩
   refine wl_m M (q_off 1 rfl rfl rfl hg62) rfl rfl <| wl_m M (q_pickF rfl hg62 rfl) rfl rfl <| wl_mv M rfl rfl <| wl_m M (q_off 4 rfl rfl rfl rfl) rfl rfl <| wl_m M (q_off 4 rfl rfl rfl rfl) rfl rfl <| wl_m M (q_pickF rfl rfl rfl) rfl rfl <| wl_nil ?_
   exact ⟨(), M, ⟨(show some (Value.bool false) = some (Value.bool ((wb && wp) && (decide (h9 = 1)))) from by first | (simp only [hg62, bL8]; done) | (simp_all; done) | (simp_all; omega)), trivial⟩, unw_take 8 rfl rfl⟩
  rintro _ jr15 w21 M
  refine wc_cond rfl (fun ht68 => ?_) (fun ht68 => ?_)
  ·refine wc_seq <| wc_region <| wl_mv M rfl rfl <| wl_mv M rfl rfl <| wl_mv M rfl rfl <| wl_e (e_callR Try.func102 rfl (vs := [sv u, .int .i64 a1I, .int .i64 b1I]) rfl (partialQ_c e1 e2 (by have := hF.po.len; have := hF.bl; have := hF.bb; omega) (by have := hF.po.len; omega) (by omega) hF.low M)) rfl rfl ?_
   rintro _ w22 ⟨r5, ys5, rfl, hys5, M⟩
   refine wl_nil ?_
   refine wc_cond rfl (fun ht72 => ?_) (fun ht72 => ?_)
   ·refine wc_ret ?_
    exact out0 rfl ⟨_, rfl, _, hF.fin hys5.1 (hys5.2 ht72), M⟩
   have hF := hF.perm hys5.1
   refine wc_skip ?_
   refine wc_seq ?_
   refine wc_seq ?_
   refine wc_join (α := Unit) [73, 74, 75, 76, 77, 78, 79, 80, 81, 82, 83, 84, 85, 86, 87] (fun _ => [(87, .bool ((decide (0 < a1I)) && (!(decide (ys5.getD (a1 - 1) 0 < ys5.getD (p9).toNat 0)))))]) (fun _ w' => Mem w0 I0 I (row ERune (sv u) ys5 :: Lt) w') ?_ ?_
   ·refine wc_draws (fun w' => Mem w0 I0 I (row ERune (sv u) ys5 :: Lt) w' ∧ True) [] fol ?_
    replace M := M.drew
    have hS := (⟨M, trivial⟩ : _ ∧ _)
    refine wa_q 0 rfl (by kernel_rfl) (q_move rfl) hS rfl rfl ?_
    refine wa_q 1 rfl (by kernel_rfl) (q_gtr rfl rfl) hS rfl rfl ?_
    refine wa_q 2 rfl (by kernel_rfl) (q_move rfl) hS rfl rfl ?_
    rcases Bool.eq_false_or_eq_true (decide (0 < a1I)) with hg75 | hg75
    ·refine wa_q 3 rfl (by kernel_rfl) (q_guard 2 rfl rfl rfl hg75 (q_move rfl)) hS rfl rfl ?_
     refine wa_q 4 rfl (by kernel_rfl) (q_guard 2 rfl rfl rfl hg75 (q_move rfl)) hS rfl rfl ?_
     refine wa_q 5 rfl (by kernel_rfl) (q_guard 2 rfl rfl rfl hg75 (q_sub rfl rfl (IntWalk.i64_in _ (by omega)))) hS rfl rfl ?_
     have ha19 : 0 < a1 := by have := of_decide_eq_true hg75; omega
     refine wa_ixSG (j := (a1 - 1)) 2 rfl rfl rfl hg75 6 hS (fun _ h => h.1.rd (i := 0) rfl) rfl (by kernel_rfl) Try.underlying40 rfl (ixe (by omega)) (PQ.at_some (by have := hF.po.len; have := hF.bl; have := hF.bb; omega)) rfl (fun b79 o79 p79 => ?_)
     refine wa_q 7 rfl (by kernel_rfl) (q_guard 2 rfl rfl rfl hg75 (q_ldp p79 rfl rfl)) hS rfl rfl ?_
     refine wa_q 8 rfl (by kernel_rfl) (q_guard 2 rfl rfl rfl hg75 (q_move rfl)) hS rfl rfl ?_
     refine wa_q 9 rfl (by kernel_rfl) (q_guard 2 rfl rfl rfl hg75 (q_move rfl)) hS rfl rfl ?_
     refine wa_ixSG (j := ((p9).toNat)) 2 rfl rfl rfl hg75 10 hS (fun _ h => h.1.rd (i := 0) rfl) rfl (by kernel_rfl) Try.underlying40 rfl (ixe (by omega)) (PQ.at_some (by have := hF.po.len; have := hF.bl; have := hF.bb; omega)) rfl (fun b83 o83 p83 => ?_)
     refine wa_q 11 rfl (by kernel_rfl) (q_guard 2 rfl rfl rfl hg75 (q_ldp p83 rfl rfl)) hS rfl rfl ?_
     refine wa_e 12 rfl (by kernel_rfl) (e_guard 2 rfl rfl rfl hg75 (e_callC M (lessR_c (ys5.getD (a1 - 1) 0) (ys5.getD (p9).toNat 0) M.imm) Try.func103 rfl rfl)) rfl rfl ?_
     rintro _ w23 ⟨J85, hJ85, rfl, M⟩
     have hS := (⟨(M.less hJ85 hoI), trivial⟩ : _ ∧ _)
     refine ⟨fun _ => hS, ?_⟩
     replace M := M.less hJ85 hoI
     refine wa_q 13 rfl (by kernel_rfl) (q_guard 2 rfl rfl rfl hg75 (q_not rfl)) hS rfl rfl ?_
     refine wa_q 14 rfl (by kernel_rfl) (q_pickT rfl hg75 rfl) hS rfl rfl ?_
     refine wa_done (by kernel_rfl) ?_
     exact ⟨(), M, ⟨(show some (Value.bool (!(decide (ys5.getD (a1 - 1) 0 < ys5.getD (p9).toNat 0)))) = some (Value.bool ((decide (0 < a1I)) && (!(decide (ys5.getD (a1 - 1) 0 < ys5.getD (p9).toNat 0))))) from by first | (simp only [hg75, bL8]; done) | (simp_all; done) | (simp_all; omega)), trivial⟩, unw_take 15 rfl rfl⟩
    refine wa_q 3 rfl (by kernel_rfl) (q_off 2 rfl rfl rfl hg75) hS rfl rfl ?_
    refine wa_q 4 rfl (by kernel_rfl) (q_off 2 rfl rfl rfl hg75) hS rfl rfl ?_
    refine wa_q 5 rfl (by kernel_rfl) (q_off 2 rfl rfl rfl hg75) hS rfl rfl ?_
    refine wa_q 6 rfl (by kernel_rfl) (q_off 2 rfl rfl rfl hg75) hS rfl rfl ?_
    refine wa_q 7 rfl (by kernel_rfl) (q_off 2 rfl rfl rfl hg75) hS rfl rfl ?_
    refine wa_q 8 rfl (by kernel_rfl) (q_off 2 rfl rfl rfl hg75) hS rfl rfl ?_
    refine wa_q 9 rfl (by kernel_rfl) (q_off 2 rfl rfl rfl hg75) hS rfl rfl ?_
    refine wa_q 10 rfl (by kernel_rfl) (q_off 2 rfl rfl rfl hg75) hS rfl rfl ?_
    refine wa_q 11 rfl (by kernel_rfl) (q_off 2 rfl rfl rfl hg75) hS rfl rfl ?_
    refine wa_q 12 rfl (by kernel_rfl) (q_off 2 rfl rfl rfl hg75) hS rfl rfl ?_
    refine wa_q 13 rfl (by kernel_rfl) (q_off 2 rfl rfl rfl hg75) hS rfl rfl ?_
    refine wa_q 14 rfl (by kernel_rfl) (q_pickF rfl hg75 rfl) hS rfl rfl ?_
    refine wa_done (by kernel_rfl) ?_
    exact ⟨(), M, ⟨(show some (Value.bool false) = some (Value.bool ((decide (0 < a1I)) && (!(decide (ys5.getD (a1 - 1) 0 < ys5.getD (p9).toNat 0))))) from by first | (simp only [hg75, bL8]; done) | (simp_all; done) | (simp_all; omega)), trivial⟩, unw_take 15 rfl rfl⟩
   rintro _ jr17 w24 M
   refine wc_cond rfl (fun ht87 => ?_) (fun ht87 => ?_)
   ·have h87 : 0 < a1I ∧ ys5.getD (p9).toNat 0 ≤ ys5.getD (a1 - 1) 0 := by simpa using ht87
    refine wc_seq <| wc_region <| wl_mv M rfl rfl <| wl_mv M rfl rfl <| wl_mv M rfl rfl <| wl_mv M rfl rfl <| wl_e (e_callR Try.func104 rfl (vs := [sv u, .int .i64 a1I, .int .i64 b1I, .int .i64 p9]) rfl (partE_c e1 e2 (by have := hF.po.len; have := hF.bl; have := hF.bb; omega) (by have := hF.po.len; omega) (v := (p9).toNat) (by omega) (by omega) (by omega) M)) rfl rfl ?_
    rintro _ w25 ⟨m, ys6, rfl, ⟨hq, hqv⟩, M⟩
    refine wl_as M rfl rfl <| wl_nil ?_
    refine wc_seq ?_
    have hqa := hq.am
    have hqb := hq.mb
    have hqv9 : ys6.getD a1 0 ≤ ys5.getD (a1 - 1) 0 := by rw [hqv]; exact h87.2
    refine wc_region <| wl_mv M rfl rfl <| wl_as M rfl rfl <| wl_nil <| wc_exit rfl ?_
    refine ⟨(m, (m : Int), b1, b1I, n1I - 1, wb, wp, ys6), ?_, ⟨(by omega), (by omega), (hF.equal (by omega) hq hqv9), (by omega), M⟩, ⟨rfl, rfl, rfl, rfl, rfl, trivial⟩, unw_look rfl (unw_hav rfl (unw_look rfl (unw_hav rfl (unw_look rfl unw_base))))⟩
    show b1 - m < b1 - a1
    omega
   refine wc_skip ?_
   refine wc_seq <| wc_region <| wl_mv M rfl rfl <| wl_mv M rfl rfl <| wl_mv M rfl rfl <| wl_mv M rfl rfl <| wl_e (e_callR Try.func105 rfl (vs := [sv u, .int .i64 a1I, .int .i64 b1I, .int .i64 p9]) rfl (partQ_c e1 e2 (by have := hF.po.len; have := hF.bl; have := hF.bb; omega) (by have := hF.po.len; omega) (v := (p9).toNat) (by omega) (by omega) (by omega) M)) rfl rfl ?_
   rintro _ w26 ⟨m, ap, ys6, rfl, hpd, M⟩
   refine wl_mv M rfl rfl <| wl_m M (q_ext rfl rfl) rfl rfl <| wl_m M (q_ext rfl rfl) rfl rfl <| wl_as M rfl rfl <| wl_as M rfl rfl <| wl_nil ?_
   refine wc_seq ?_
   have hpa := hpd.am
   have hpb := hpd.mb
   have hpl := hpd.po.len
   have hFl := hF.po.len
   have hFb := hF.bl
   have hFc := hF.bb
   refine wc_region <| wl_mv M rfl rfl <| wl_as M rfl rfl <| wl_nil ?_
   refine wc_seq <| wc_region <| wl_mv M rfl rfl <| wl_mv M rfl rfl <| wl_m M (q_sub rfl rfl (IntWalk.i64_in _ (by omega))) rfl rfl ?_
   refine wl_mv M rfl rfl <| wl_mv M rfl rfl <| wl_m M (q_sub rfl rfl (IntWalk.i64_in _ (by omega))) rfl rfl ?_
   refine wl_as M rfl rfl <| wl_as M rfl rfl <| wl_nil ?_
   refine wc_seq <| wc_region <| wl_mv M rfl rfl <| wl_m M (q_quo (z := (((b1 - a1) / 8 : Nat) : Int)) rfl rfl (by decide) (by rw [hq8]; exact IntWalk.i64_in _ (by omega))) rfl rfl ?_
   refine wl_as M rfl rfl <| wl_nil ?_
   refine wc_seq <| wc_region <| wl_mv M rfl rfl <| wl_mv M rfl rfl <| wl_m M (q_lss rfl rfl) rfl rfl <| wl_nil ?_
   refine wc_dec rfl (fun ht113 => ?_) (fun ht113 => ?_)
   ·refine wc_seq <| wc_region <| wl_mv M rfl rfl <| wl_mv M rfl rfl <| wl_m M (q_geq rfl rfl) rfl rfl <| wl_as M rfl rfl <| wl_nil ?_
    refine wc_seq <| wc_region <| wl_mv M rfl rfl <| wl_mv M rfl rfl <| wl_mv M rfl rfl <| wl_mv M rfl rfl <| wl_e (e_callR Try.func91 rfl (vs := [sv u, .int .i64 a1I, .int .i64 (m : Int), .int .i64 (n1I - 1)]) rfl (ih (m - a1) (by omega) (a := a1) (b := m) (by omega) e1 rfl (by omega) (by omega) (by omega) (by omega) (hpd.lowL hF) M)) rfl rfl ?_
    rintro _ w27 ⟨ys7, hys7, M⟩
    refine wl_nil <| wc_region <| wl_mv M rfl rfl <| wl_m M (q_add rfl rfl (IntWalk.i64_in _ (by omega))) rfl rfl ?_
    refine wl_as M rfl rfl <| wl_nil ?_
    refine ⟨(m + 1, (m : Int) + 1, b1, b1I, n1I - 1, decide ((((b1 - a1) / 8 : Nat) : Int) ≤ ((m : Int) - a1I)), ap, ys7), ?_, ⟨(by omega), (by omega), (hF.left hpd hys7), (by omega), M⟩, ⟨rfl, rfl, rfl, rfl, rfl, trivial⟩, unw_look rfl (unw_hav rfl (unw_look rfl (unw_hav rfl (unw_look rfl unw_base))))⟩
    show b1 - (m + 1) < b1 - a1
    omega
   refine wc_seq <| wc_region <| wl_mv M rfl rfl <| wl_mv M rfl rfl <| wl_m M (q_geq rfl rfl) rfl rfl <| wl_as M rfl rfl <| wl_nil ?_
   refine wc_seq <| wc_region <| wl_mv M rfl rfl <| wl_mv M rfl rfl <| wl_m M (q_add rfl rfl (IntWalk.i64_in _ (by omega))) rfl rfl ?_
   refine wl_mv M rfl rfl <| wl_mv M rfl rfl <| wl_e (e_callR Try.func91 rfl (vs := [sv u, .int .i64 ((m : Int) + 1), .int .i64 b1I, .int .i64 (n1I - 1)]) rfl (ih (b1 - (m + 1)) (by omega) (a := m + 1) (b := b1) (by omega) rfl e2 (by omega) (by omega) (by omega) (by omega) hpd.lowR M)) rfl rfl ?_
   rintro _ w28 ⟨ys7, hys7, M⟩
   refine wl_nil <| wc_region <| wl_mv M rfl rfl <| wl_as M rfl rfl <| wl_nil ?_
   refine ⟨(a1, a1I, m, (m : Int), n1I - 1, decide ((((b1 - a1) / 8 : Nat) : Int) ≤ (b1I - (m : Int))), ap, ys7), ?_, ⟨(by omega), (by omega), (hF.right hpd hys7), (by omega), M⟩, ⟨rfl, rfl, rfl, rfl, rfl, trivial⟩, unw_look rfl (unw_hav rfl (unw_look rfl (unw_hav rfl (unw_look rfl unw_base))))⟩
   show m - a1 < b1 - a1
   omega
  refine wc_skip ?_
  refine wc_seq ?_
  refine wc_seq ?_
  refine wc_join (α := Unit) [73, 74, 75, 76, 77, 78, 79, 80, 81, 82, 83, 84, 85, 86, 87] (fun _ => [(87, .bool ((decide (0 < a1I)) && (!(decide (ys3.getD (a1 - 1) 0 < ys3.getD (p9).toNat 0)))))]) (fun _ w' => Mem w0 I0 I (row ERune (sv u) ys3 :: Lt) w') ?_ ?_
  ·refine wc_draws (fun w' => Mem w0 I0 I (row ERune (sv u) ys3 :: Lt) w' ∧ True) [] fol ?_
   replace M := M.drew
   have hS := (⟨M, trivial⟩ : _ ∧ _)
   refine wa_q 0 rfl (by kernel_rfl) (q_move rfl) hS rfl rfl ?_
   refine wa_q 1 rfl (by kernel_rfl) (q_gtr rfl rfl) hS rfl rfl ?_
   refine wa_q 2 rfl (by kernel_rfl) (q_move rfl) hS rfl rfl ?_
   rcases Bool.eq_false_or_eq_true (decide (0 < a1I)) with hg75 | hg75
   ·refine wa_q 3 rfl (by kernel_rfl) (q_guard 2 rfl rfl rfl hg75 (q_move rfl)) hS rfl rfl ?_
    refine wa_q 4 rfl (by kernel_rfl) (q_guard 2 rfl rfl rfl hg75 (q_move rfl)) hS rfl rfl ?_
    refine wa_q 5 rfl (by kernel_rfl) (q_guard 2 rfl rfl rfl hg75 (q_sub rfl rfl (IntWalk.i64_in _ (by omega)))) hS rfl rfl ?_
    have ha19 : 0 < a1 := by have := of_decide_eq_true hg75; omega
    refine wa_ixSG (j := (a1 - 1)) 2 rfl rfl rfl hg75 6 hS (fun _ h => h.1.rd (i := 0) rfl) rfl (by kernel_rfl) Try.underlying40 rfl (ixe (by omega)) (PQ.at_some (by have := hF.po.len; have := hF.bl; have := hF.bb; omega)) rfl (fun b79 o79 p79 => ?_)
    refine wa_q 7 rfl (by kernel_rfl) (q_guard 2 rfl rfl rfl hg75 (q_ldp p79 rfl rfl)) hS rfl rfl ?_
    refine wa_q 8 rfl (by kernel_rfl) (q_guard 2 rfl rfl rfl hg75 (q_move rfl)) hS rfl rfl ?_
    refine wa_q 9 rfl (by kernel_rfl) (q_guard 2 rfl rfl rfl hg75 (q_move rfl)) hS rfl rfl ?_
    refine wa_ixSG (j := ((p9).toNat)) 2 rfl rfl rfl hg75 10 hS (fun _ h => h.1.rd (i := 0) rfl) rfl (by kernel_rfl) Try.underlying40 rfl (ixe (by omega)) (PQ.at_some (by have := hF.po.len; have := hF.bl; have := hF.bb; omega)) rfl (fun b83 o83 p83 => ?_)
    refine wa_q 11 rfl (by kernel_rfl) (q_guard 2 rfl rfl rfl hg75 (q_ldp p83 rfl rfl)) hS rfl rfl ?_
    refine wa_e 12 rfl (by kernel_rfl) (e_guard 2 rfl rfl rfl hg75 (e_callC M (lessR_c (ys3.getD (a1 - 1) 0) (ys3.getD (p9).toNat 0) M.imm) Try.func103 rfl rfl)) rfl rfl ?_
    rintro _ w29 ⟨J85, hJ85, rfl, M⟩
    have hS := (⟨(M.less hJ85 hoI), trivial⟩ : _ ∧ _)
    refine ⟨fun _ => hS, ?_⟩
    replace M := M.less hJ85 hoI
    refine wa_q 13 rfl (by kernel_rfl) (q_guard 2 rfl rfl rfl hg75 (q_not rfl)) hS rfl rfl ?_
    refine wa_q 14 rfl (by kernel_rfl) (q_pickT rfl hg75 rfl) hS rfl rfl ?_
    refine wa_done (by kernel_rfl) ?_
    exact ⟨(), M, ⟨(show some (Value.bool (!(decide (ys3.getD (a1 - 1) 0 < ys3.getD (p9).toNat 0)))) = some (Value.bool ((decide (0 < a1I)) && (!(decide (ys3.getD (a1 - 1) 0 < ys3.getD (p9).toNat 0))))) from by first | (simp only [hg75, bL8]; done) | (simp_all; done) | (simp_all; omega)), trivial⟩, unw_take 15 rfl rfl⟩
   refine wa_q 3 rfl (by kernel_rfl) (q_off 2 rfl rfl rfl hg75) hS rfl rfl ?_
   refine wa_q 4 rfl (by kernel_rfl) (q_off 2 rfl rfl rfl hg75) hS rfl rfl ?_
   refine wa_q 5 rfl (by kernel_rfl) (q_off 2 rfl rfl rfl hg75) hS rfl rfl ?_
   refine wa_q 6 rfl (by kernel_rfl) (q_off 2 rfl rfl rfl hg75) hS rfl rfl ?_
   refine wa_q 7 rfl (by kernel_rfl) (q_off 2 rfl rfl rfl hg75) hS rfl rfl ?_
   refine wa_q 8 rfl (by kernel_rfl) (q_off 2 rfl rfl rfl hg75) hS rfl rfl ?_
   refine wa_q 9 rfl (by kernel_rfl) (q_off 2 rfl rfl rfl hg75) hS rfl rfl ?_
   refine wa_q 10 rfl (by kernel_rfl) (q_off 2 rfl rfl rfl hg75) hS rfl rfl ?_
   refine wa_q 11 rfl (by kernel_rfl) (q_off 2 rfl rfl rfl hg75) hS rfl rfl ?_
   refine wa_q 12 rfl (by kernel_rfl) (q_off 2 rfl rfl rfl hg75) hS rfl rfl ?_
   refine wa_q 13 rfl (by kernel_rfl) (q_off 2 rfl rfl rfl hg75) hS rfl rfl ?_
   refine wa_q 14 rfl (by kernel_rfl) (q_pickF rfl hg75 rfl) hS rfl rfl ?_
   refine wa_done (by kernel_rfl) ?_
   exact ⟨(), M, ⟨(show some (Value.bool false) = some (Value.bool ((decide (0 < a1I)) && (!(decide (ys3.getD (a1 - 1) 0 < ys3.getD (p9).toNat 0))))) from by first | (simp only [hg75, bL8]; done) | (simp_all; done) | (simp_all; omega)), trivial⟩, unw_take 15 rfl rfl⟩
  rintro _ jr17 w30 M
  refine wc_cond rfl (fun ht87 => ?_) (fun ht87 => ?_)
  ·have h87 : 0 < a1I ∧ ys3.getD (p9).toNat 0 ≤ ys3.getD (a1 - 1) 0 := by simpa using ht87
   refine wc_seq <| wc_region <| wl_mv M rfl rfl <| wl_mv M rfl rfl <| wl_mv M rfl rfl <| wl_mv M rfl rfl <| wl_e (e_callR Try.func104 rfl (vs := [sv u, .int .i64 a1I, .int .i64 b1I, .int .i64 p9]) rfl (partE_c e1 e2 (by have := hF.po.len; have := hF.bl; have := hF.bb; omega) (by have := hF.po.len; omega) (v := (p9).toNat) (by omega) (by omega) (by omega) M)) rfl rfl ?_
   rintro _ w31 ⟨m, ys6, rfl, ⟨hq, hqv⟩, M⟩
   refine wl_as M rfl rfl <| wl_nil ?_
   refine wc_seq ?_
   have hqa := hq.am
   have hqb := hq.mb
   have hqv9 : ys6.getD a1 0 ≤ ys3.getD (a1 - 1) 0 := by rw [hqv]; exact h87.2
   refine wc_region <| wl_mv M rfl rfl <| wl_as M rfl rfl <| wl_nil <| wc_exit rfl ?_
   refine ⟨(m, (m : Int), b1, b1I, n1I - 1, wb, wp, ys6), ?_, ⟨(by omega), (by omega), (hF.equal (by omega) hq hqv9), (by omega), M⟩, ⟨rfl, rfl, rfl, rfl, rfl, trivial⟩, unw_look rfl (unw_hav rfl (unw_look rfl (unw_hav rfl (unw_look rfl unw_base))))⟩
   show b1 - m < b1 - a1
   omega
  refine wc_skip ?_
  refine wc_seq <| wc_region <| wl_mv M rfl rfl <| wl_mv M rfl rfl <| wl_mv M rfl rfl <| wl_mv M rfl rfl <| wl_e (e_callR Try.func105 rfl (vs := [sv u, .int .i64 a1I, .int .i64 b1I, .int .i64 p9]) rfl (partQ_c e1 e2 (by have := hF.po.len; have := hF.bl; have := hF.bb; omega) (by have := hF.po.len; omega) (v := (p9).toNat) (by omega) (by omega) (by omega) M)) rfl rfl ?_
  rintro _ w32 ⟨m, ap, ys6, rfl, hpd, M⟩
  refine wl_mv M rfl rfl <| wl_m M (q_ext rfl rfl) rfl rfl <| wl_m M (q_ext rfl rfl) rfl rfl <| wl_as M rfl rfl <| wl_as M rfl rfl <| wl_nil ?_
  refine wc_seq ?_
  have hpa := hpd.am
  have hpb := hpd.mb
  have hpl := hpd.po.len
  have hFl := hF.po.len
  have hFb := hF.bl
  have hFc := hF.bb
  refine wc_region <| wl_mv M rfl rfl <| wl_as M rfl rfl <| wl_nil ?_
  refine wc_seq <| wc_region <| wl_mv M rfl rfl <| wl_mv M rfl rfl <| wl_m M (q_sub rfl rfl (IntWalk.i64_in _ (by omega))) rfl rfl ?_
  refine wl_mv M rfl rfl <| wl_mv M rfl rfl <| wl_m M (q_sub rfl rfl (IntWalk.i64_in _ (by omega))) rfl rfl ?_
  refine wl_as M rfl rfl <| wl_as M rfl rfl <| wl_nil ?_
  refine wc_seq <| wc_region <| wl_mv M rfl rfl <| wl_m M (q_quo (z := (((b1 - a1) / 8 : Nat) : Int)) rfl rfl (by decide) (by rw [hq8]; exact IntWalk.i64_in _ (by omega))) rfl rfl ?_
  refine wl_as M rfl rfl <| wl_nil ?_
  refine wc_seq <| wc_region <| wl_mv M rfl rfl <| wl_mv M rfl rfl <| wl_m M (q_lss rfl rfl) rfl rfl <| wl_nil ?_
  refine wc_dec rfl (fun ht113 => ?_) (fun ht113 => ?_)
  ·refine wc_seq <| wc_region <| wl_mv M rfl rfl <| wl_mv M rfl rfl <| wl_m M (q_geq rfl rfl) rfl rfl <| wl_as M rfl rfl <| wl_nil ?_
   refine wc_seq <| wc_region <| wl_mv M rfl rfl <| wl_mv M rfl rfl <| wl_mv M rfl rfl <| wl_mv M rfl rfl <| wl_e (e_callR Try.func91 rfl (vs := [sv u, .int .i64 a1I, .int .i64 (m : Int), .int .i64 (n1I - 1)]) rfl (ih (m - a1) (by omega) (a := a1) (b := m) (by omega) e1 rfl (by omega) (by omega) (by omega) (by omega) (hpd.lowL hF) M)) rfl rfl ?_
   rintro _ w33 ⟨ys7, hys7, M⟩
   refine wl_nil <| wc_region <| wl_mv M rfl rfl <| wl_m M (q_add rfl rfl (IntWalk.i64_in _ (by omega))) rfl rfl ?_
   refine wl_as M rfl rfl <| wl_nil ?_
   refine ⟨(m + 1, (m : Int) + 1, b1, b1I, n1I - 1, decide ((((b1 - a1) / 8 : Nat) : Int) ≤ ((m : Int) - a1I)), ap, ys7), ?_, ⟨(by omega), (by omega), (hF.left hpd hys7), (by omega), M⟩, ⟨rfl, rfl, rfl, rfl, rfl, trivial⟩, unw_look rfl (unw_hav rfl (unw_look rfl (unw_hav rfl (unw_look rfl unw_base))))⟩
   show b1 - (m + 1) < b1 - a1
   omega
  refine wc_seq <| wc_region <| wl_mv M rfl rfl <| wl_mv M rfl rfl <| wl_m M (q_geq rfl rfl) rfl rfl <| wl_as M rfl rfl <| wl_nil ?_
  refine wc_seq <| wc_region <| wl_mv M rfl rfl <| wl_mv M rfl rfl <| wl_m M (q_add rfl rfl (IntWalk.i64_in _ (by omega))) rfl rfl ?_
  refine wl_mv M rfl rfl <| wl_mv M rfl rfl <| wl_e (e_callR Try.func91 rfl (vs := [sv u, .int .i64 ((m : Int) + 1), .int .i64 b1I, .int .i64 (n1I - 1)]) rfl (ih (b1 - (m + 1)) (by omega) (a := m + 1) (b := b1) (by omega) rfl e2 (by omega) (by omega) (by omega) (by omega) hpd.lowR M)) rfl rfl ?_
  rintro _ w34 ⟨ys7, hys7, M⟩
  refine wl_nil <| wc_region <| wl_mv M rfl rfl <| wl_as M rfl rfl <| wl_nil ?_
  refine ⟨(a1, a1I, m, (m : Int), n1I - 1, decide ((((b1 - a1) / 8 : Nat) : Int) ≤ (b1I - (m : Int))), ap, ys7), ?_, ⟨(by omega), (by omega), (hF.right hpd hys7), (by omega), M⟩, ⟨rfl, rfl, rfl, rfl, rfl, trivial⟩, unw_look rfl (unw_hav rfl (unw_look rfl (unw_hav rfl (unw_look rfl unw_base))))⟩
  show m - a1 < b1 - a1
  omega
 refine wc_skip ?_
 refine wc_seq <| wc_region <| wl_mv M rfl rfl <| wl_mv M rfl rfl <| wl_mv M rfl rfl <| wl_e (e_callR Try.func100 rfl (vs := [sv u, .int .i64 a1I, .int .i64 b1I]) rfl (pivotQ_c e1 e2 (by have := hF.po.len; have := hF.bl; have := hF.bb; omega) (by have := hF.po.len; omega) (by omega) M)) rfl rfl ?_
 rintro _ w35 ⟨p9, h9, rfl, hp9, M⟩
 refine wl_mv M rfl rfl <| wl_m M (q_ext rfl rfl) rfl rfl <| wl_m M (q_ext rfl rfl) rfl rfl <| wl_as M rfl rfl <| wl_as M rfl rfl <| wl_nil ?_
 refine wc_seq ?_
 refine wc_seq <| wc_region <| wl_mv M rfl rfl <| wl_m M (q_eql rfl rfl) rfl rfl <| wl_nil ?_
 refine wc_dec rfl (fun ht50 => ?_) (fun ht50 => ?_)
 ·have hp99 := hp9
  refine wc_seq <| wc_region <| wl_mv M rfl rfl <| wl_mv M rfl rfl <| wl_mv M rfl rfl <| wl_e (e_callR Try.func101 rfl (vs := [sv u, .int .i64 a1I, .int .i64 b1I]) rfl (revQ_c e1 e2 (by have := hF.po.len; have := hF.bl; have := hF.bb; omega) (by have := hF.po.len; omega) (by omega) M)) rfl rfl ?_
  rintro _ w36 ⟨ys4, hys4, M⟩
  refine wl_nil ?_
  refine wc_seq ?_
  have hF := hF.perm hys4
  refine wc_region <| wl_mv M rfl rfl <| wl_m M (q_sub rfl rfl (IntWalk.i64_in _ (by omega))) rfl rfl ?_
  refine wl_mv M rfl rfl <| wl_mv M rfl rfl <| wl_m M (q_sub rfl rfl (IntWalk.i64_in _ (by omega))) rfl rfl ?_
  refine wl_m M (q_sub rfl rfl (IntWalk.i64_in _ (by omega))) rfl rfl ?_
  refine wl_as M rfl rfl <| wl_nil <| wc_region <| wl_as M rfl rfl <| wl_nil ?_
  refine wc_seq ?_
  refine wc_seq ?_
  refine wc_join (α := Unit) [61, 62, 63, 64, 65, 66, 67, 68] (fun _ => [(68, .bool ((wb && wp) && (decide (1 = 1))))]) (fun _ w' => Mem w0 I0 I (row ERune (sv u) ys4 :: Lt) w') ?_ ?_
  ·refine wc_region <| wl_mv M rfl rfl <| wl_mv M rfl rfl ?_
   rcases Bool.eq_false_or_eq_true (wb) with hg62 | hg62
   ·refine wl_m M (q_guard 1 rfl rfl rfl hg62 (q_move rfl)) rfl rfl <| wl_m M (q_pickT rfl hg62 rfl) rfl rfl <| wl_mv M rfl rfl ?_
    rcases Bool.eq_false_or_eq_true (wp) with hg65 | hg65
    ·refine wl_m M (q_guard 4 rfl rfl rfl hg65 (q_move rfl)) rfl rfl <| wl_m M (q_guard 4 rfl rfl rfl hg65 (q_eql rfl rfl)) rfl rfl <| wl_m M (q_pickT rfl hg65 rfl) rfl rfl <| wl_nil ?_
     exact ⟨(), M, ⟨(show some (Value.bool (decide (1 = 1))) = some (Value.bool ((wb && wp) && (decide (1 = 1)))) from by first | (simp only [hg62, hg65, bL8]; done) | (simp_all; done) | (simp_all; omega)), trivial⟩, unw_take 8 rfl rfl⟩
    refine wl_m M (q_off 4 rfl rfl rfl hg65) rfl rfl <| wl_m M (q_off 4 rfl rfl rfl hg65) rfl rfl <| wl_m M (q_pickF rfl hg65 rfl) rfl rfl <| wl_nil ?_
    exact ⟨(), M, ⟨(show some (Value.bool false) = some (Value.bool ((wb && wp) && (decide (1 = 1)))) from by first | (simp only [hg62, hg65, bL8]; done) | (simp_all; done) | (simp_all; omega)), trivial⟩, unw_take 8 rfl rfl⟩
   refine wl_m M (q_off 1 rfl rfl rfl hg62) rfl rfl <| wl_m M (q_pickF rfl hg62 rfl) rfl rfl <| wl_mv M rfl rfl <| wl_m M (q_off 4 rfl rfl rfl rfl) rfl rfl <| wl_m M (q_off 4 rfl rfl rfl rfl) rfl rfl <| wl_m M (q_pickF rfl rfl rfl) rfl rfl <| wl_nil ?_
   exact ⟨(), M, ⟨(show some (Value.bool false) = some (Value.bool ((wb && wp) && (decide (1 = 1)))) from by first | (simp only [hg62, bL8]; done) | (simp_all; done) | (simp_all; omega)), trivial⟩, unw_take 8 rfl rfl⟩
  rintro _ jr15 w37 M
  refine wc_cond rfl (fun ht68 => ?_) (fun ht68 => ?_)
  ·refine wc_seq <| wc_region <| wl_mv M rfl rfl <| wl_mv M rfl rfl <| wl_mv M rfl rfl <| wl_e (e_callR Try.func102 rfl (vs := [sv u, .int .i64 a1I, .int .i64 b1I]) rfl (partialQ_c e1 e2 (by have := hF.po.len; have := hF.bl; have := hF.bb; omega) (by have := hF.po.len; omega) (by omega) hF.low M)) rfl rfl ?_
   rintro _ w38 ⟨r5, ys5, rfl, hys5, M⟩
   refine wl_nil ?_
   refine wc_cond rfl (fun ht72 => ?_) (fun ht72 => ?_)
   ·refine wc_ret ?_
    exact out0 rfl ⟨_, rfl, _, hF.fin hys5.1 (hys5.2 ht72), M⟩
   have hF := hF.perm hys5.1
   refine wc_skip ?_
   refine wc_seq ?_
   refine wc_seq ?_
   refine wc_join (α := Unit) [73, 74, 75, 76, 77, 78, 79, 80, 81, 82, 83, 84, 85, 86, 87] (fun _ => [(87, .bool ((decide (0 < a1I)) && (!(decide (ys5.getD (a1 - 1) 0 < ys5.getD ((b1I - 1) - (p9 - a1I)).toNat 0)))))]) (fun _ w' => Mem w0 I0 I (row ERune (sv u) ys5 :: Lt) w') ?_ ?_
   ·refine wc_draws (fun w' => Mem w0 I0 I (row ERune (sv u) ys5 :: Lt) w' ∧ True) [] fol ?_
    replace M := M.drew
    have hS := (⟨M, trivial⟩ : _ ∧ _)
    refine wa_q 0 rfl (by kernel_rfl) (q_move rfl) hS rfl rfl ?_
    refine wa_q 1 rfl (by kernel_rfl) (q_gtr rfl rfl) hS rfl rfl ?_
    refine wa_q 2 rfl (by kernel_rfl) (q_move rfl) hS rfl rfl ?_
    rcases Bool.eq_false_or_eq_true (decide (0 < a1I)) with hg75 | hg75
    ·refine wa_q 3 rfl (by kernel_rfl) (q_guard 2 rfl rfl rfl hg75 (q_move rfl)) hS rfl rfl ?_
     refine wa_q 4 rfl (by kernel_rfl) (q_guard 2 rfl rfl rfl hg75 (q_move rfl)) hS rfl rfl ?_
     refine wa_q 5 rfl (by kernel_rfl) (q_guard 2 rfl rfl rfl hg75 (q_sub rfl rfl (IntWalk.i64_in _ (by omega)))) hS rfl rfl ?_
     have ha19 : 0 < a1 := by have := of_decide_eq_true hg75; omega
     refine wa_ixSG (j := (a1 - 1)) 2 rfl rfl rfl hg75 6 hS (fun _ h => h.1.rd (i := 0) rfl) rfl (by kernel_rfl) Try.underlying40 rfl (ixe (by omega)) (PQ.at_some (by have := hF.po.len; have := hF.bl; have := hF.bb; omega)) rfl (fun b79 o79 p79 => ?_)
     refine wa_q 7 rfl (by kernel_rfl) (q_guard 2 rfl rfl rfl hg75 (q_ldp p79 rfl rfl)) hS rfl rfl ?_
     refine wa_q 8 rfl (by kernel_rfl) (q_guard 2 rfl rfl rfl hg75 (q_move rfl)) hS rfl rfl ?_
     refine wa_q 9 rfl (by kernel_rfl) (q_guard 2 rfl rfl rfl hg75 (q_move rfl)) hS rfl rfl ?_
     refine wa_ixSG (j := (((b1I - 1) - (p9 - a1I)).toNat)) 2 rfl rfl rfl hg75 10 hS (fun _ h => h.1.rd (i := 0) rfl) rfl (by kernel_rfl) Try.underlying40 rfl (ixe (by omega)) (PQ.at_some (by have := hF.po.len; have := hF.bl; have := hF.bb; omega)) rfl (fun b83 o83 p83 => ?_)
     refine wa_q 11 rfl (by kernel_rfl) (q_guard 2 rfl rfl rfl hg75 (q_ldp p83 rfl rfl)) hS rfl rfl ?_
     refine wa_e 12 rfl (by kernel_rfl) (e_guard 2 rfl rfl rfl hg75 (e_callC M (lessR_c (ys5.getD (a1 - 1) 0) (ys5.getD ((b1I - 1) - (p9 - a1I)).toNat 0) M.imm) Try.func103 rfl rfl)) rfl rfl ?_
     rintro _ w39 ⟨J85, hJ85, rfl, M⟩
     have hS := (⟨(M.less hJ85 hoI), trivial⟩ : _ ∧ _)
     refine ⟨fun _ => hS, ?_⟩
     replace M := M.less hJ85 hoI
     refine wa_q 13 rfl (by kernel_rfl) (q_guard 2 rfl rfl rfl hg75 (q_not rfl)) hS rfl rfl ?_
     refine wa_q 14 rfl (by kernel_rfl) (q_pickT rfl hg75 rfl) hS rfl rfl ?_
     refine wa_done (by kernel_rfl) ?_
     exact ⟨(), M, ⟨(show some (Value.bool (!(decide (ys5.getD (a1 - 1) 0 < ys5.getD ((b1I - 1) - (p9 - a1I)).toNat 0)))) = some (Value.bool ((decide (0 < a1I)) && (!(decide (ys5.getD (a1 - 1) 0 < ys5.getD ((b1I - 1) - (p9 - a1I)).toNat 0))))) from by first | (simp only [hg75, bL8]; done) | (simp_all; done) | (simp_all; omega)), trivial⟩, unw_take 15 rfl rfl⟩
    refine wa_q 3 rfl (by kernel_rfl) (q_off 2 rfl rfl rfl hg75) hS rfl rfl ?_
    refine wa_q 4 rfl (by kernel_rfl) (q_off 2 rfl rfl rfl hg75) hS rfl rfl ?_
    refine wa_q 5 rfl (by kernel_rfl) (q_off 2 rfl rfl rfl hg75) hS rfl rfl ?_
    refine wa_q 6 rfl (by kernel_rfl) (q_off 2 rfl rfl rfl hg75) hS rfl rfl ?_
    refine wa_q 7 rfl (by kernel_rfl) (q_off 2 rfl rfl rfl hg75) hS rfl rfl ?_
    refine wa_q 8 rfl (by kernel_rfl) (q_off 2 rfl rfl rfl hg75) hS rfl rfl ?_
    refine wa_q 9 rfl (by kernel_rfl) (q_off 2 rfl rfl rfl hg75) hS rfl rfl ?_
    refine wa_q 10 rfl (by kernel_rfl) (q_off 2 rfl rfl rfl hg75) hS rfl rfl ?_
    refine wa_q 11 rfl (by kernel_rfl) (q_off 2 rfl rfl rfl hg75) hS rfl rfl ?_
    refine wa_q 12 rfl (by kernel_rfl) (q_off 2 rfl rfl rfl hg75) hS rfl rfl ?_
    refine wa_q 13 rfl (by kernel_rfl) (q_off 2 rfl rfl rfl hg75) hS rfl rfl ?_
    refine wa_q 14 rfl (by kernel_rfl) (q_pickF rfl hg75 rfl) hS rfl rfl ?_
    refine wa_done (by kernel_rfl) ?_
    exact ⟨(), M, ⟨(show some (Value.bool false) = some (Value.bool ((decide (0 < a1I)) && (!(decide (ys5.getD (a1 - 1) 0 < ys5.getD ((b1I - 1) - (p9 - a1I)).toNat 0))))) from by first | (simp only [hg75, bL8]; done) | (simp_all; done) | (simp_all; omega)), trivial⟩, unw_take 15 rfl rfl⟩
   rintro _ jr17 w40 M
   refine wc_cond rfl (fun ht87 => ?_) (fun ht87 => ?_)
   ·have h87 : 0 < a1I ∧ ys5.getD ((b1I - 1) - (p9 - a1I)).toNat 0 ≤ ys5.getD (a1 - 1) 0 := by simpa using ht87
    refine wc_seq <| wc_region <| wl_mv M rfl rfl <| wl_mv M rfl rfl <| wl_mv M rfl rfl <| wl_mv M rfl rfl <| wl_e (e_callR Try.func104 rfl (vs := [sv u, .int .i64 a1I, .int .i64 b1I, .int .i64 ((b1I - 1) - (p9 - a1I))]) rfl (partE_c e1 e2 (by have := hF.po.len; have := hF.bl; have := hF.bb; omega) (by have := hF.po.len; omega) (v := ((b1I - 1) - (p9 - a1I)).toNat) (by omega) (by omega) (by omega) M)) rfl rfl ?_
    rintro _ w41 ⟨m, ys6, rfl, ⟨hq, hqv⟩, M⟩
    refine wl_as M rfl rfl <| wl_nil ?_
    refine wc_seq ?_
    have hqa := hq.am
    have hqb := hq.mb
    have hqv9 : ys6.getD a1 0 ≤ ys5.getD (a1 - 1) 0 := by rw [hqv]; exact h87.2
    refine wc_region <| wl_mv M rfl rfl <| wl_as M rfl rfl <| wl_nil <| wc_exit rfl ?_
    refine ⟨(m, (m : Int), b1, b1I, n1I, wb, wp, ys6), ?_, ⟨(by omega), (by omega), (hF.equal (by omega) hq hqv9), (by omega), M⟩, ⟨rfl, rfl, rfl, rfl, rfl, trivial⟩, unw_look rfl (unw_hav rfl (unw_look rfl (unw_hav rfl (unw_look rfl unw_base))))⟩
    show b1 - m < b1 - a1
    omega
   refine wc_skip ?_
   refine wc_seq <| wc_region <| wl_mv M rfl rfl <| wl_mv M rfl rfl <| wl_mv M rfl rfl <| wl_mv M rfl rfl <| wl_e (e_callR Try.func105 rfl (vs := [sv u, .int .i64 a1I, .int .i64 b1I, .int .i64 ((b1I - 1) - (p9 - a1I))]) rfl (partQ_c e1 e2 (by have := hF.po.len; have := hF.bl; have := hF.bb; omega) (by have := hF.po.len; omega) (v := ((b1I - 1) - (p9 - a1I)).toNat) (by omega) (by omega) (by omega) M)) rfl rfl ?_
   rintro _ w42 ⟨m, ap, ys6, rfl, hpd, M⟩
   refine wl_mv M rfl rfl <| wl_m M (q_ext rfl rfl) rfl rfl <| wl_m M (q_ext rfl rfl) rfl rfl <| wl_as M rfl rfl <| wl_as M rfl rfl <| wl_nil ?_
   refine wc_seq ?_
   have hpa := hpd.am
   have hpb := hpd.mb
   have hpl := hpd.po.len
   have hFl := hF.po.len
   have hFb := hF.bl
   have hFc := hF.bb
   refine wc_region <| wl_mv M rfl rfl <| wl_as M rfl rfl <| wl_nil ?_
   refine wc_seq <| wc_region <| wl_mv M rfl rfl <| wl_mv M rfl rfl <| wl_m M (q_sub rfl rfl (IntWalk.i64_in _ (by omega))) rfl rfl ?_
   refine wl_mv M rfl rfl <| wl_mv M rfl rfl <| wl_m M (q_sub rfl rfl (IntWalk.i64_in _ (by omega))) rfl rfl ?_
   refine wl_as M rfl rfl <| wl_as M rfl rfl <| wl_nil ?_
   refine wc_seq <| wc_region <| wl_mv M rfl rfl <| wl_m M (q_quo (z := (((b1 - a1) / 8 : Nat) : Int)) rfl rfl (by decide) (by rw [hq8]; exact IntWalk.i64_in _ (by omega))) rfl rfl ?_
   refine wl_as M rfl rfl <| wl_nil ?_
   refine wc_seq <| wc_region <| wl_mv M rfl rfl <| wl_mv M rfl rfl <| wl_m M (q_lss rfl rfl) rfl rfl <| wl_nil ?_
   refine wc_dec rfl (fun ht113 => ?_) (fun ht113 => ?_)
   ·refine wc_seq <| wc_region <| wl_mv M rfl rfl <| wl_mv M rfl rfl <| wl_m M (q_geq rfl rfl) rfl rfl <| wl_as M rfl rfl <| wl_nil ?_
    refine wc_seq <| wc_region <| wl_mv M rfl rfl <| wl_mv M rfl rfl <| wl_mv M rfl rfl <| wl_mv M rfl rfl <| wl_e (e_callR Try.func91 rfl (vs := [sv u, .int .i64 a1I, .int .i64 (m : Int), .int .i64 n1I]) rfl (ih (m - a1) (by omega) (a := a1) (b := m) (by omega) e1 rfl (by omega) (by omega) (by omega) (by omega) (hpd.lowL hF) M)) rfl rfl ?_
    rintro _ w43 ⟨ys7, hys7, M⟩
    refine wl_nil <| wc_region <| wl_mv M rfl rfl <| wl_m M (q_add rfl rfl (IntWalk.i64_in _ (by omega))) rfl rfl ?_
    refine wl_as M rfl rfl <| wl_nil ?_
    refine ⟨(m + 1, (m : Int) + 1, b1, b1I, n1I, decide ((((b1 - a1) / 8 : Nat) : Int) ≤ ((m : Int) - a1I)), ap, ys7), ?_, ⟨(by omega), (by omega), (hF.left hpd hys7), (by omega), M⟩, ⟨rfl, rfl, rfl, rfl, rfl, trivial⟩, unw_look rfl (unw_hav rfl (unw_look rfl (unw_hav rfl (unw_look rfl unw_base))))⟩
    show b1 - (m + 1) < b1 - a1
    omega
   refine wc_seq <| wc_region <| wl_mv M rfl rfl <| wl_mv M rfl rfl <| wl_m M (q_geq rfl rfl) rfl rfl <| wl_as M rfl rfl <| wl_nil ?_
   refine wc_seq <| wc_region <| wl_mv M rfl rfl <| wl_mv M rfl rfl <| wl_m M (q_add rfl rfl (IntWalk.i64_in _ (by omega))) rfl rfl ?_
   refine wl_mv M rfl rfl <| wl_mv M rfl rfl <| wl_e (e_callR Try.func91 rfl (vs := [sv u, .int .i64 ((m : Int) + 1), .int .i64 b1I, .int .i64 n1I]) rfl (ih (b1 - (m + 1)) (by omega) (a := m + 1) (b := b1) (by omega) rfl e2 (by omega) (by omega) (by omega) (by omega) hpd.lowR M)) rfl rfl ?_
   rintro _ w44 ⟨ys7, hys7, M⟩
   refine wl_nil <| wc_region <| wl_mv M rfl rfl <| wl_as M rfl rfl <| wl_nil ?_
   refine ⟨(a1, a1I, m, (m : Int), n1I, decide ((((b1 - a1) / 8 : Nat) : Int) ≤ (b1I - (m : Int))), ap, ys7), ?_, ⟨(by omega), (by omega), (hF.right hpd hys7), (by omega), M⟩, ⟨rfl, rfl, rfl, rfl, rfl, trivial⟩, unw_look rfl (unw_hav rfl (unw_look rfl (unw_hav rfl (unw_look rfl unw_base))))⟩
   show m - a1 < b1 - a1
   omega
  refine wc_skip ?_
  refine wc_seq ?_
  refine wc_seq ?_
  refine wc_join (α := Unit) [73, 74, 75, 76, 77, 78, 79, 80, 81, 82, 83, 84, 85, 86, 87] (fun _ => [(87, .bool ((decide (0 < a1I)) && (!(decide (ys4.getD (a1 - 1) 0 < ys4.getD ((b1I - 1) - (p9 - a1I)).toNat 0)))))]) (fun _ w' => Mem w0 I0 I (row ERune (sv u) ys4 :: Lt) w') ?_ ?_
  ·refine wc_draws (fun w' => Mem w0 I0 I (row ERune (sv u) ys4 :: Lt) w' ∧ True) [] fol ?_
   replace M := M.drew
   have hS := (⟨M, trivial⟩ : _ ∧ _)
   refine wa_q 0 rfl (by kernel_rfl) (q_move rfl) hS rfl rfl ?_
   refine wa_q 1 rfl (by kernel_rfl) (q_gtr rfl rfl) hS rfl rfl ?_
   refine wa_q 2 rfl (by kernel_rfl) (q_move rfl) hS rfl rfl ?_
   rcases Bool.eq_false_or_eq_true (decide (0 < a1I)) with hg75 | hg75
   ·refine wa_q 3 rfl (by kernel_rfl) (q_guard 2 rfl rfl rfl hg75 (q_move rfl)) hS rfl rfl ?_
    refine wa_q 4 rfl (by kernel_rfl) (q_guard 2 rfl rfl rfl hg75 (q_move rfl)) hS rfl rfl ?_
    refine wa_q 5 rfl (by kernel_rfl) (q_guard 2 rfl rfl rfl hg75 (q_sub rfl rfl (IntWalk.i64_in _ (by omega)))) hS rfl rfl ?_
    have ha19 : 0 < a1 := by have := of_decide_eq_true hg75; omega
    refine wa_ixSG (j := (a1 - 1)) 2 rfl rfl rfl hg75 6 hS (fun _ h => h.1.rd (i := 0) rfl) rfl (by kernel_rfl) Try.underlying40 rfl (ixe (by omega)) (PQ.at_some (by have := hF.po.len; have := hF.bl; have := hF.bb; omega)) rfl (fun b79 o79 p79 => ?_)
    refine wa_q 7 rfl (by kernel_rfl) (q_guard 2 rfl rfl rfl hg75 (q_ldp p79 rfl rfl)) hS rfl rfl ?_
    refine wa_q 8 rfl (by kernel_rfl) (q_guard 2 rfl rfl rfl hg75 (q_move rfl)) hS rfl rfl ?_
    refine wa_q 9 rfl (by kernel_rfl) (q_guard 2 rfl rfl rfl hg75 (q_move rfl)) hS rfl rfl ?_
    refine wa_ixSG (j := (((b1I - 1) - (p9 - a1I)).toNat)) 2 rfl rfl rfl hg75 10 hS (fun _ h => h.1.rd (i := 0) rfl) rfl (by kernel_rfl) Try.underlying40 rfl (ixe (by omega)) (PQ.at_some (by have := hF.po.len; have := hF.bl; have := hF.bb; omega)) rfl (fun b83 o83 p83 => ?_)
    refine wa_q 11 rfl (by kernel_rfl) (q_guard 2 rfl rfl rfl hg75 (q_ldp p83 rfl rfl)) hS rfl rfl ?_
    refine wa_e 12 rfl (by kernel_rfl) (e_guard 2 rfl rfl rfl hg75 (e_callC M (lessR_c (ys4.getD (a1 - 1) 0) (ys4.getD ((b1I - 1) - (p9 - a1I)).toNat 0) M.imm) Try.func103 rfl rfl)) rfl rfl ?_
    rintro _ w45 ⟨J85, hJ85, rfl, M⟩
    have hS := (⟨(M.less hJ85 hoI), trivial⟩ : _ ∧ _)
    refine ⟨fun _ => hS, ?_⟩
    replace M := M.less hJ85 hoI
    refine wa_q 13 rfl (by kernel_rfl) (q_guard 2 rfl rfl rfl hg75 (q_not rfl)) hS rfl rfl ?_
    refine wa_q 14 rfl (by kernel_rfl) (q_pickT rfl hg75 rfl) hS rfl rfl ?_
    refine wa_done (by kernel_rfl) ?_
    exact ⟨(), M, ⟨(show some (Value.bool (!(decide (ys4.getD (a1 - 1) 0 < ys4.getD ((b1I - 1) - (p9 - a1I)).toNat 0)))) = some (Value.bool ((decide (0 < a1I)) && (!(decide (ys4.getD (a1 - 1) 0 < ys4.getD ((b1I - 1) - (p9 - a1I)).toNat 0))))) from by first | (simp only [hg75, bL8]; done) | (simp_all; done) | (simp_all; omega)), trivial⟩, unw_take 15 rfl rfl⟩
   refine wa_q 3 rfl (by kernel_rfl) (q_off 2 rfl rfl rfl hg75) hS rfl rfl ?_
   refine wa_q 4 rfl (by kernel_rfl) (q_off 2 rfl rfl rfl hg75) hS rfl rfl ?_
   refine wa_q 5 rfl (by kernel_rfl) (q_off 2 rfl rfl rfl hg75) hS rfl rfl ?_
   refine wa_q 6 rfl (by kernel_rfl) (q_off 2 rfl rfl rfl hg75) hS rfl rfl ?_
   refine wa_q 7 rfl (by kernel_rfl) (q_off 2 rfl rfl rfl hg75) hS rfl rfl ?_
   refine wa_q 8 rfl (by kernel_rfl) (q_off 2 rfl rfl rfl hg75) hS rfl rfl ?_
   refine wa_q 9 rfl (by kernel_rfl) (q_off 2 rfl rfl rfl hg75) hS rfl rfl ?_
   refine wa_q 10 rfl (by kernel_rfl) (q_off 2 rfl rfl rfl hg75) hS rfl rfl ?_
   refine wa_q 11 rfl (by kernel_rfl) (q_off 2 rfl rfl rfl hg75) hS rfl rfl ?_
   refine wa_q 12 rfl (by kernel_rfl) (q_off 2 rfl rfl rfl hg75) hS rfl rfl ?_
   refine wa_q 13 rfl (by kernel_rfl) (q_off 2 rfl rfl rfl hg75) hS rfl rfl ?_
   refine wa_q 14 rfl (by kernel_rfl) (q_pickF rfl hg75 rfl) hS rfl rfl ?_
   refine wa_done (by kernel_rfl) ?_
   exact ⟨(), M, ⟨(show some (Value.bool false) = some (Value.bool ((decide (0 < a1I)) && (!(decide (ys4.getD (a1 - 1) 0 < ys4.getD ((b1I - 1) - (p9 - a1I)).toNat 0))))) from by first | (simp only [hg75, bL8]; done) | (simp_all; done) | (simp_all; omega)), trivial⟩, unw_take 15 rfl rfl⟩
  rintro _ jr17 w46 M
  refine wc_cond rfl (fun ht87 => ?_) (fun ht87 => ?_)
  ·have h87 : 0 < a1I ∧ ys4.getD ((b1I - 1) - (p9 - a1I)).toNat 0 ≤ ys4.getD (a1 - 1) 0 := by simpa using ht87
   refine wc_seq <| wc_region <| wl_mv M rfl rfl <| wl_mv M rfl rfl <| wl_mv M rfl rfl <| wl_mv M rfl rfl <| wl_e (e_callR Try.func104 rfl (vs := [sv u, .int .i64 a1I, .int .i64 b1I, .int .i64 ((b1I - 1) - (p9 - a1I))]) rfl (partE_c e1 e2 (by have := hF.po.len; have := hF.bl; have := hF.bb; omega) (by have := hF.po.len; omega) (v := ((b1I - 1) - (p9 - a1I)).toNat) (by omega) (by omega) (by omega) M)) rfl rfl ?_
   rintro _ w47 ⟨m, ys6, rfl, ⟨hq, hqv⟩, M⟩
   refine wl_as M rfl rfl <| wl_nil ?_
   refine wc_seq ?_
   have hqa := hq.am
   have hqb := hq.mb
   have hqv9 : ys6.getD a1 0 ≤ ys4.getD (a1 - 1) 0 := by rw [hqv]; exact h87.2
   refine wc_region <| wl_mv M rfl rfl <| wl_as M rfl rfl <| wl_nil <| wc_exit rfl ?_
   refine ⟨(m, (m : Int), b1, b1I, n1I, wb, wp, ys6), ?_, ⟨(by omega), (by omega), (hF.equal (by omega) hq hqv9), (by omega), M⟩, ⟨rfl, rfl, rfl, rfl, rfl, trivial⟩, unw_look rfl (unw_hav rfl (unw_look rfl (unw_hav rfl (unw_look rfl unw_base))))⟩
   show b1 - m < b1 - a1
   omega
  refine wc_skip ?_
  refine wc_seq <| wc_region <| wl_mv M rfl rfl <| wl_mv M rfl rfl <| wl_mv M rfl rfl <| wl_mv M rfl rfl <| wl_e (e_callR Try.func105 rfl (vs := [sv u, .int .i64 a1I, .int .i64 b1I, .int .i64 ((b1I - 1) - (p9 - a1I))]) rfl (partQ_c e1 e2 (by have := hF.po.len; have := hF.bl; have := hF.bb; omega) (by have := hF.po.len; omega) (v := ((b1I - 1) - (p9 - a1I)).toNat) (by omega) (by omega) (by omega) M)) rfl rfl ?_
  rintro _ w48 ⟨m, ap, ys6, rfl, hpd, M⟩
  refine wl_mv M rfl rfl <| wl_m M (q_ext rfl rfl) rfl rfl <| wl_m M (q_ext rfl rfl) rfl rfl <| wl_as M rfl rfl <| wl_as M rfl rfl <| wl_nil ?_
  refine wc_seq ?_
  have hpa := hpd.am
  have hpb := hpd.mb
  have hpl := hpd.po.len
  have hFl := hF.po.len
  have hFb := hF.bl
  have hFc := hF.bb
  refine wc_region <| wl_mv M rfl rfl <| wl_as M rfl rfl <| wl_nil ?_
  refine wc_seq <| wc_region <| wl_mv M rfl rfl <| wl_mv M rfl rfl <| wl_m M (q_sub rfl rfl (IntWalk.i64_in _ (by omega))) rfl rfl ?_
  refine wl_mv M rfl rfl <| wl_mv M rfl rfl <| wl_m M (q_sub rfl rfl (IntWalk.i64_in _ (by omega))) rfl rfl ?_
  refine wl_as M rfl rfl <| wl_as M rfl rfl <| wl_nil ?_
  refine wc_seq <| wc_region <| wl_mv M rfl rfl <| wl_m M (q_quo (z := (((b1 - a1) / 8 : Nat) : Int)) rfl rfl (by decide) (by rw [hq8]; exact IntWalk.i64_in _ (by omega))) rfl rfl ?_
  refine wl_as M rfl rfl <| wl_nil ?_
  refine wc_seq <| wc_region <| wl_mv M rfl rfl <| wl_mv M rfl rfl <| wl_m M (q_lss rfl rfl) rfl rfl <| wl_nil ?_
  refine wc_dec rfl (fun ht113 => ?_) (fun ht113 => ?_)
  ·refine wc_seq <| wc_region <| wl_mv M rfl rfl <| wl_mv M rfl rfl <| wl_m M (q_geq rfl rfl) rfl rfl <| wl_as M rfl rfl <| wl_nil ?_
   refine wc_seq <| wc_region <| wl_mv M rfl rfl <| wl_mv M rfl rfl <| wl_mv M rfl rfl <| wl_mv M rfl rfl <| wl_e (e_callR Try.func91 rfl (vs := [sv u, .int .i64 a1I, .int .i64 (m : Int), .int .i64 n1I]) rfl (ih (m - a1) (by omega) (a := a1) (b := m) (by omega) e1 rfl (by omega) (by omega) (by omega) (by omega) (hpd.lowL hF) M)) rfl rfl ?_
   rintro _ w49 ⟨ys7, hys7, M⟩
   refine wl_nil <| wc_region <| wl_mv M rfl rfl <| wl_m M (q_add rfl rfl (IntWalk.i64_in _ (by omega))) rfl rfl ?_
   refine wl_as M rfl rfl <| wl_nil ?_
   refine ⟨(m + 1, (m : Int) + 1, b1, b1I, n1I, decide ((((b1 - a1) / 8 : Nat) : Int) ≤ ((m : Int) - a1I)), ap, ys7), ?_, ⟨(by omega), (by omega), (hF.left hpd hys7), (by omega), M⟩, ⟨rfl, rfl, rfl, rfl, rfl, trivial⟩, unw_look rfl (unw_hav rfl (unw_look rfl (unw_hav rfl (unw_look rfl unw_base))))⟩
   show b1 - (m + 1) < b1 - a1
   omega
  refine wc_seq <| wc_region <| wl_mv M rfl rfl <| wl_mv M rfl rfl <| wl_m M (q_geq rfl rfl) rfl rfl <| wl_as M rfl rfl <| wl_nil ?_
  refine wc_seq <| wc_region <| wl_mv M rfl rfl <| wl_mv M rfl rfl <| wl_m M (q_add rfl rfl (IntWalk.i64_in _ (by omega))) rfl rfl ?_
  refine wl_mv M rfl rfl <| wl_mv M rfl rfl <| wl_e (e_callR Try.func91 rfl (vs := [sv u, .int .i64 ((m : Int) + 1), .int .i64 b1I, .int .i64 n1I]) rfl (ih (b1 - (m + 1)) (by omega) (a := m + 1) (b := b1) (by omega) rfl e2 (by omega) (by omega) (by omega) (by omega) hpd.lowR M)) rfl rfl ?_
  rintro _ w50 ⟨ys7, hys7, M⟩
  refine wl_nil <| wc_region <| wl_mv M rfl rfl <| wl_as M rfl rfl <| wl_nil ?_
  refine ⟨(a1, a1I, m, (m : Int), n1I, decide ((((b1 - a1) / 8 : Nat) : Int) ≤ (b1I - (m : Int))), ap, ys7), ?_, ⟨(by omega), (by omega), (hF.right hpd hys7), (by omega), M⟩, ⟨rfl, rfl, rfl, rfl, rfl, trivial⟩, unw_look rfl (unw_hav rfl (unw_look rfl (unw_hav rfl (unw_look rfl unw_base))))⟩
  show m - a1 < b1 - a1
  omega
 refine wc_skip ?_
 refine wc_seq ?_
 refine wc_seq ?_
 refine wc_join (α := Unit) [61, 62, 63, 64, 65, 66, 67, 68] (fun _ => [(68, .bool ((wb && wp) && (decide (h9 = 1))))]) (fun _ w' => Mem w0 I0 I (row ERune (sv u) l_0_0 :: Lt) w') ?_ ?_
 ·refine wc_region <| wl_mv M rfl rfl <| wl_mv M rfl rfl ?_
  rcases Bool.eq_false_or_eq_true (wb) with hg62 | hg62
  ·refine wl_m M (q_guard 1 rfl rfl rfl hg62 (q_move rfl)) rfl rfl <| wl_m M (q_pickT rfl hg62 rfl) rfl rfl <| wl_mv M rfl rfl ?_
   rcases Bool.eq_false_or_eq_true (wp) with hg65 | hg65
   ·refine wl_m M (q_guard 4 rfl rfl rfl hg65 (q_move rfl)) rfl rfl <| wl_m M (q_guard 4 rfl rfl rfl hg65 (q_eql rfl rfl)) rfl rfl <| wl_m M (q_pickT rfl hg65 rfl) rfl rfl <| wl_nil ?_
    exact ⟨(), M, ⟨(show some (Value.bool (decide (h9 = 1))) = some (Value.bool ((wb && wp) && (decide (h9 = 1)))) from by first | (simp only [hg62, hg65, bL8]; done) | (simp_all; done) | (simp_all; omega)), trivial⟩, unw_take 8 rfl rfl⟩
   refine wl_m M (q_off 4 rfl rfl rfl hg65) rfl rfl <| wl_m M (q_off 4 rfl rfl rfl hg65) rfl rfl <| wl_m M (q_pickF rfl hg65 rfl) rfl rfl <| wl_nil ?_
   exact ⟨(), M, ⟨(show some (Value.bool false) = some (Value.bool ((wb && wp) && (decide (h9 = 1)))) from by first | (simp only [hg62, hg65, bL8]; done) | (simp_all; done) | (simp_all; omega)), trivial⟩, unw_take 8 rfl rfl⟩
  refine wl_m M (q_off 1 rfl rfl rfl hg62) rfl rfl <| wl_m M (q_pickF rfl hg62 rfl) rfl rfl <| wl_mv M rfl rfl <| wl_m M (q_off 4 rfl rfl rfl rfl) rfl rfl <| wl_m M (q_off 4 rfl rfl rfl rfl) rfl rfl <| wl_m M (q_pickF rfl rfl rfl) rfl rfl <| wl_nil ?_
  exact ⟨(), M, ⟨(show some (Value.bool false) = some (Value.bool ((wb && wp) && (decide (h9 = 1)))) from by first | (simp only [hg62, bL8]; done) | (simp_all; done) | (simp_all; omega)), trivial⟩, unw_take 8 rfl rfl⟩
 rintro _ jr15 w51 M
 refine wc_cond rfl (fun ht68 => ?_) (fun ht68 => ?_)
 ·refine wc_seq <| wc_region <| wl_mv M rfl rfl <| wl_mv M rfl rfl <| wl_mv M rfl rfl <| wl_e (e_callR Try.func102 rfl (vs := [sv u, .int .i64 a1I, .int .i64 b1I]) rfl (partialQ_c e1 e2 (by have := hF.po.len; have := hF.bl; have := hF.bb; omega) (by have := hF.po.len; omega) (by omega) hF.low M)) rfl rfl ?_
  rintro _ w52 ⟨r5, ys5, rfl, hys5, M⟩
  refine wl_nil ?_
  refine wc_cond rfl (fun ht72 => ?_) (fun ht72 => ?_)
  ·refine wc_ret ?_
   exact out0 rfl ⟨_, rfl, _, hF.fin hys5.1 (hys5.2 ht72), M⟩
  have hF := hF.perm hys5.1
  refine wc_skip ?_
  refine wc_seq ?_
  refine wc_seq ?_
  refine wc_join (α := Unit) [73, 74, 75, 76, 77, 78, 79, 80, 81, 82, 83, 84, 85, 86, 87] (fun _ => [(87, .bool ((decide (0 < a1I)) && (!(decide (ys5.getD (a1 - 1) 0 < ys5.getD (p9).toNat 0)))))]) (fun _ w' => Mem w0 I0 I (row ERune (sv u) ys5 :: Lt) w') ?_ ?_
  ·refine wc_draws (fun w' => Mem w0 I0 I (row ERune (sv u) ys5 :: Lt) w' ∧ True) [] fol ?_
   replace M := M.drew
   have hS := (⟨M, trivial⟩ : _ ∧ _)
   refine wa_q 0 rfl (by kernel_rfl) (q_move rfl) hS rfl rfl ?_
   refine wa_q 1 rfl (by kernel_rfl) (q_gtr rfl rfl) hS rfl rfl ?_
   refine wa_q 2 rfl (by kernel_rfl) (q_move rfl) hS rfl rfl ?_
   rcases Bool.eq_false_or_eq_true (decide (0 < a1I)) with hg75 | hg75
   ·refine wa_q 3 rfl (by kernel_rfl) (q_guard 2 rfl rfl rfl hg75 (q_move rfl)) hS rfl rfl ?_
    refine wa_q 4 rfl (by kernel_rfl) (q_guard 2 rfl rfl rfl hg75 (q_move rfl)) hS rfl rfl ?_
    refine wa_q 5 rfl (by kernel_rfl) (q_guard 2 rfl rfl rfl hg75 (q_sub rfl rfl (IntWalk.i64_in _ (by omega)))) hS rfl rfl ?_
    have ha19 : 0 < a1 := by have := of_decide_eq_true hg75; omega
    refine wa_ixSG (j := (a1 - 1)) 2 rfl rfl rfl hg75 6 hS (fun _ h => h.1.rd (i := 0) rfl) rfl (by kernel_rfl) Try.underlying40 rfl (ixe (by omega)) (PQ.at_some (by have := hF.po.len; have := hF.bl; have := hF.bb; omega)) rfl (fun b79 o79 p79 => ?_)
    refine wa_q 7 rfl (by kernel_rfl) (q_guard 2 rfl rfl rfl hg75 (q_ldp p79 rfl rfl)) hS rfl rfl ?_
    refine wa_q 8 rfl (by kernel_rfl) (q_guard 2 rfl rfl rfl hg75 (q_move rfl)) hS rfl rfl ?_
    refine wa_q 9 rfl (by kernel_rfl) (q_guard 2 rfl rfl rfl hg75 (q_move rfl)) hS rfl rfl ?_
    refine wa_ixSG (j := ((p9).toNat)) 2 rfl rfl rfl hg75 10 hS (fun _ h => h.1.rd (i := 0) rfl) rfl (by kernel_rfl) Try.underlying40 rfl (ixe (by omega)) (PQ.at_some (by have := hF.po.len; have := hF.bl; have := hF.bb; omega)) rfl (fun b83 o83 p83 => ?_)
    refine wa_q 11 rfl (by kernel_rfl) (q_guard 2 rfl rfl rfl hg75 (q_ldp p83 rfl rfl)) hS rfl rfl ?_
    refine wa_e 12 rfl (by kernel_rfl) (e_guard 2 rfl rfl rfl hg75 (e_callC M (lessR_c (ys5.getD (a1 - 1) 0) (ys5.getD (p9).toNat 0) M.imm) Try.func103 rfl rfl)) rfl rfl ?_
    rintro _ w53 ⟨J85, hJ85, rfl, M⟩
    have hS := (⟨(M.less hJ85 hoI), trivial⟩ : _ ∧ _)
    refine ⟨fun _ => hS, ?_⟩
    replace M := M.less hJ85 hoI
    refine wa_q 13 rfl (by kernel_rfl) (q_guard 2 rfl rfl rfl hg75 (q_not rfl)) hS rfl rfl ?_
    refine wa_q 14 rfl (by kernel_rfl) (q_pickT rfl hg75 rfl) hS rfl rfl ?_
    refine wa_done (by kernel_rfl) ?_
    exact ⟨(), M, ⟨(show some (Value.bool (!(decide (ys5.getD (a1 - 1) 0 < ys5.getD (p9).toNat 0)))) = some (Value.bool ((decide (0 < a1I)) && (!(decide (ys5.getD (a1 - 1) 0 < ys5.getD (p9).toNat 0))))) from by first | (simp only [hg75, bL8]; done) | (simp_all; done) | (simp_all; omega)), trivial⟩, unw_take 15 rfl rfl⟩
   refine wa_q 3 rfl (by kernel_rfl) (q_off 2 rfl rfl rfl hg75) hS rfl rfl ?_
   refine wa_q 4 rfl (by kernel_rfl) (q_off 2 rfl rfl rfl hg75) hS rfl rfl ?_
   refine wa_q 5 rfl (by kernel_rfl) (q_off 2 rfl rfl rfl hg75) hS rfl rfl ?_
   refine wa_q 6 rfl (by kernel_rfl) (q_off 2 rfl rfl rfl hg75) hS rfl rfl ?_
   refine wa_q 7 rfl (by kernel_rfl) (q_off 2 rfl rfl rfl hg75) hS rfl rfl ?_
   refine wa_q 8 rfl (by kernel_rfl) (q_off 2 rfl rfl rfl hg75) hS rfl rfl ?_
   refine wa_q 9 rfl (by kernel_rfl) (q_off 2 rfl rfl rfl hg75) hS rfl rfl ?_
   refine wa_q 10 rfl (by kernel_rfl) (q_off 2 rfl rfl rfl hg75) hS rfl rfl ?_
   refine wa_q 11 rfl (by kernel_rfl) (q_off 2 rfl rfl rfl hg75) hS rfl rfl ?_
   refine wa_q 12 rfl (by kernel_rfl) (q_off 2 rfl rfl rfl hg75) hS rfl rfl ?_
   refine wa_q 13 rfl (by kernel_rfl) (q_off 2 rfl rfl rfl hg75) hS rfl rfl ?_
   refine wa_q 14 rfl (by kernel_rfl) (q_pickF rfl hg75 rfl) hS rfl rfl ?_
   refine wa_done (by kernel_rfl) ?_
   exact ⟨(), M, ⟨(show some (Value.bool false) = some (Value.bool ((decide (0 < a1I)) && (!(decide (ys5.getD (a1 - 1) 0 < ys5.getD (p9).toNat 0))))) from by first | (simp only [hg75, bL8]; done) | (simp_all; done) | (simp_all; omega)), trivial⟩, unw_take 15 rfl rfl⟩
  rintro _ jr17 w54 M
  refine wc_cond rfl (fun ht87 => ?_) (fun ht87 => ?_)
  ·have h87 : 0 < a1I ∧ ys5.getD (p9).toNat 0 ≤ ys5.getD (a1 - 1) 0 := by simpa using ht87
   refine wc_seq <| wc_region <| wl_mv M rfl rfl <| wl_mv M rfl rfl <| wl_mv M rfl rfl <| wl_mv M rfl rfl <| wl_e (e_callR Try.func104 rfl (vs := [sv u, .int .i64 a1I, .int .i64 b1I, .int .i64 p9]) rfl (partE_c e1 e2 (by have := hF.po.len; have := hF.bl; have := hF.bb; omega) (by have := hF.po.len; omega) (v := (p9).toNat) (by omega) (by omega) (by omega) M)) rfl rfl ?_
   rintro _ w55 ⟨m, ys6, rfl, ⟨hq, hqv⟩, M⟩
   refine wl_as M rfl rfl <| wl_nil ?_
   refine wc_seq ?_
   have hqa := hq.am
   have hqb := hq.mb
   have hqv9 : ys6.getD a1 0 ≤ ys5.getD (a1 - 1) 0 := by rw [hqv]; exact h87.2
   refine wc_region <| wl_mv M rfl rfl <| wl_as M rfl rfl <| wl_nil <| wc_exit rfl ?_
   refine ⟨(m, (m : Int), b1, b1I, n1I, wb, wp, ys6), ?_, ⟨(by omega), (by omega), (hF.equal (by omega) hq hqv9), (by omega), M⟩, ⟨rfl, rfl, rfl, rfl, rfl, trivial⟩, unw_look rfl (unw_hav rfl (unw_look rfl (unw_hav rfl (unw_look rfl unw_base))))⟩
   show b1 - m < b1 - a1
   omega
  refine wc_skip ?_
  refine wc_seq <| wc_region <| wl_mv M rfl rfl <| wl_mv M rfl rfl <| wl_mv M rfl rfl <| wl_mv M rfl rfl <| wl_e (e_callR Try.func105 rfl (vs := [sv u, .int .i64 a1I, .int .i64 b1I, .int .i64 p9]) rfl (partQ_c e1 e2 (by have := hF.po.len; have := hF.bl; have := hF.bb; omega) (by have := hF.po.len; omega) (v := (p9).toNat) (by omega) (by omega) (by omega) M)) rfl rfl ?_
  rintro _ w56 ⟨m, ap, ys6, rfl, hpd, M⟩
  refine wl_mv M rfl rfl <| wl_m M (q_ext rfl rfl) rfl rfl <| wl_m M (q_ext rfl rfl) rfl rfl <| wl_as M rfl rfl <| wl_as M rfl rfl <| wl_nil ?_
  refine wc_seq ?_
  have hpa := hpd.am
  have hpb := hpd.mb
  have hpl := hpd.po.len
  have hFl := hF.po.len
  have hFb := hF.bl
  have hFc := hF.bb
  refine wc_region <| wl_mv M rfl rfl <| wl_as M rfl rfl <| wl_nil ?_
  refine wc_seq <| wc_region <| wl_mv M rfl rfl <| wl_mv M rfl rfl <| wl_m M (q_sub rfl rfl (IntWalk.i64_in _ (by omega))) rfl rfl ?_
  refine wl_mv M rfl rfl <| wl_mv M rfl rfl <| wl_m M (q_sub rfl rfl (IntWalk.i64_in _ (by omega))) rfl rfl ?_
  refine wl_as M rfl rfl <| wl_as M rfl rfl <| wl_nil ?_
  refine wc_seq <| wc_region <| wl_mv M rfl rfl <| wl_m M (q_quo (z := (((b1 - a1) / 8 : Nat) : Int)) rfl rfl (by decide) (by rw [hq8]; exact IntWalk.i64_in _ (by omega))) rfl rfl ?_
  refine wl_as M rfl rfl <| wl_nil ?_
  refine wc_seq <| wc_region <| wl_mv M rfl rfl <| wl_mv M rfl rfl <| wl_m M (q_lss rfl rfl) rfl rfl <| wl_nil ?_
  refine wc_dec rfl (fun ht113 => ?_) (fun ht113 => ?_)
  ·refine wc_seq <| wc_region <| wl_mv M rfl rfl <| wl_mv M rfl rfl <| wl_m M (q_geq rfl rfl) rfl rfl <| wl_as M rfl rfl <| wl_nil ?_
   refine wc_seq <| wc_region <| wl_mv M rfl rfl <| wl_mv M rfl rfl <| wl_mv M rfl rfl <| wl_mv M rfl rfl <| wl_e (e_callR Try.func91 rfl (vs := [sv u, .int .i64 a1I, .int .i64 (m : Int), .int .i64 n1I]) rfl (ih (m - a1) (by omega) (a := a1) (b := m) (by omega) e1 rfl (by omega) (by omega) (by omega) (by omega) (hpd.lowL hF) M)) rfl rfl ?_
   rintro _ w57 ⟨ys7, hys7, M⟩
   refine wl_nil <| wc_region <| wl_mv M rfl rfl <| wl_m M (q_add rfl rfl (IntWalk.i64_in _ (by omega))) rfl rfl ?_
   refine wl_as M rfl rfl <| wl_nil ?_
   refine ⟨(m + 1, (m : Int) + 1, b1, b1I, n1I, decide ((((b1 - a1) / 8 : Nat) : Int) ≤ ((m : Int) - a1I)), ap, ys7), ?_, ⟨(by omega), (by omega), (hF.left hpd hys7), (by omega), M⟩, ⟨rfl, rfl, rfl, rfl, rfl, trivial⟩, unw_look rfl (unw_hav rfl (unw_look rfl (unw_hav rfl (unw_look rfl unw_base))))⟩
   show b1 - (m + 1) < b1 - a1
   omega
  refine wc_seq <| wc_region <| wl_mv M rfl rfl <| wl_mv M rfl rfl <| wl_m M (q_geq rfl rfl) rfl rfl <| wl_as M rfl rfl <| wl_nil ?_
  refine wc_seq <| wc_region <| wl_mv M rfl rfl <| wl_mv M rfl rfl <| wl_m M (q_add rfl rfl (IntWalk.i64_in _ (by omega))) rfl rfl ?_
  refine wl_mv M rfl rfl <| wl_mv M rfl rfl <| wl_e (e_callR Try.func91 rfl (vs := [sv u, .int .i64 ((m : Int) + 1), .int .i64 b1I, .int .i64 n1I]) rfl (ih (b1 - (m + 1)) (by omega) (a := m + 1) (b := b1) (by omega) rfl e2 (by omega) (by omega) (by omega) (by omega) hpd.lowR M)) rfl rfl ?_
  rintro _ w58 ⟨ys7, hys7, M⟩
  refine wl_nil <| wc_region <| wl_mv M rfl rfl <| wl_as M rfl rfl <| wl_nil ?_
  refine ⟨(a1, a1I, m, (m : Int), n1I, decide ((((b1 - a1) / 8 : Nat) : Int) ≤ (b1I - (m : Int))), ap, ys7), ?_, ⟨(by omega), (by omega), (hF.right hpd hys7), (by omega), M⟩, ⟨rfl, rfl, rfl, rfl, rfl, trivial⟩, unw_look rfl (unw_hav rfl (unw_look rfl (unw_hav rfl (unw_look rfl unw_base))))⟩
  show m - a1 < b1 - a1
  omega
 refine wc_skip ?_
 refine wc_seq ?_
 refine wc_seq ?_
 refine wc_join (α := Unit) [73, 74, 75, 76, 77, 78, 79, 80, 81, 82, 83, 84, 85, 86, 87] (fun _ => [(87, .bool ((decide (0 < a1I)) && (!(decide (l_0_0.getD (a1 - 1) 0 < l_0_0.getD (p9).toNat 0)))))]) (fun _ w' => Mem w0 I0 I (row ERune (sv u) l_0_0 :: Lt) w') ?_ ?_
 ·refine wc_draws (fun w' => Mem w0 I0 I (row ERune (sv u) l_0_0 :: Lt) w' ∧ True) [] fol ?_
  replace M := M.drew
  have hS := (⟨M, trivial⟩ : _ ∧ _)
  refine wa_q 0 rfl (by kernel_rfl) (q_move rfl) hS rfl rfl ?_
  refine wa_q 1 rfl (by kernel_rfl) (q_gtr rfl rfl) hS rfl rfl ?_
  refine wa_q 2 rfl (by kernel_rfl) (q_move rfl) hS rfl rfl ?_
  rcases Bool.eq_false_or_eq_true (decide (0 < a1I)) with hg75 | hg75
  ·refine wa_q 3 rfl (by kernel_rfl) (q_guard 2 rfl rfl rfl hg75 (q_move rfl)) hS rfl rfl ?_
   refine wa_q 4 rfl (by kernel_rfl) (q_guard 2 rfl rfl rfl hg75 (q_move rfl)) hS rfl rfl ?_
   refine wa_q 5 rfl (by kernel_rfl) (q_guard 2 rfl rfl rfl hg75 (q_sub rfl rfl (IntWalk.i64_in _ (by omega)))) hS rfl rfl ?_
   have ha19 : 0 < a1 := by have := of_decide_eq_true hg75; omega
   refine wa_ixSG (j := (a1 - 1)) 2 rfl rfl rfl hg75 6 hS (fun _ h => h.1.rd (i := 0) rfl) rfl (by kernel_rfl) Try.underlying40 rfl (ixe (by omega)) (PQ.at_some (by have := hF.po.len; have := hF.bl; have := hF.bb; omega)) rfl (fun b79 o79 p79 => ?_)
   refine wa_q 7 rfl (by kernel_rfl) (q_guard 2 rfl rfl rfl hg75 (q_ldp p79 rfl rfl)) hS rfl rfl ?_
   refine wa_q 8 rfl (by kernel_rfl) (q_guard 2 rfl rfl rfl hg75 (q_move rfl)) hS rfl rfl ?_
   refine wa_q 9 rfl (by kernel_rfl) (q_guard 2 rfl rfl rfl hg75 (q_move rfl)) hS rfl rfl ?_
   refine wa_ixSG (j := ((p9).toNat)) 2 rfl rfl rfl hg75 10 hS (fun _ h => h.1.rd (i := 0) rfl) rfl (by kernel_rfl) Try.underlying40 rfl (ixe (by omega)) (PQ.at_some (by have := hF.po.len; have := hF.bl; have := hF.bb; omega)) rfl (fun b83 o83 p83 => ?_)
   refine wa_q 11 rfl (by kernel_rfl) (q_guard 2 rfl rfl rfl hg75 (q_ldp p83 rfl rfl)) hS rfl rfl ?_
   refine wa_e 12 rfl (by kernel_rfl) (e_guard 2 rfl rfl rfl hg75 (e_callC M (lessR_c (l_0_0.getD (a1 - 1) 0) (l_0_0.getD (p9).toNat 0) M.imm) Try.func103 rfl rfl)) rfl rfl ?_
   rintro _ w59 ⟨J85, hJ85, rfl, M⟩
   have hS := (⟨(M.less hJ85 hoI), trivial⟩ : _ ∧ _)
   refine ⟨fun _ => hS, ?_⟩
   replace M := M.less hJ85 hoI
   refine wa_q 13 rfl (by kernel_rfl) (q_guard 2 rfl rfl rfl hg75 (q_not rfl)) hS rfl rfl ?_
   refine wa_q 14 rfl (by kernel_rfl) (q_pickT rfl hg75 rfl) hS rfl rfl ?_
   refine wa_done (by kernel_rfl) ?_
   exact ⟨(), M, ⟨(show some (Value.bool (!(decide (l_0_0.getD (a1 - 1) 0 < l_0_0.getD (p9).toNat 0)))) = some (Value.bool ((decide (0 < a1I)) && (!(decide (l_0_0.getD (a1 - 1) 0 < l_0_0.getD (p9).toNat 0))))) from by first | (simp only [hg75, bL8]; done) | (simp_all; done) | (simp_all; omega)), trivial⟩, unw_take 15 rfl rfl⟩
  refine wa_q 3 rfl (by kernel_rfl) (q_off 2 rfl rfl rfl hg75) hS rfl rfl ?_
  refine wa_q 4 rfl (by kernel_rfl) (q_off 2 rfl rfl rfl hg75) hS rfl rfl ?_
  refine wa_q 5 rfl (by kernel_rfl) (q_off 2 rfl rfl rfl hg75) hS rfl rfl ?_
  refine wa_q 6 rfl (by kernel_rfl) (q_off 2 rfl rfl rfl hg75) hS rfl rfl ?_
  refine wa_q 7 rfl (by kernel_rfl) (q_off 2 rfl rfl rfl hg75) hS rfl rfl ?_
  refine wa_q 8 rfl (by kernel_rfl) (q_off 2 rfl rfl rfl hg75) hS rfl rfl ?_
  refine wa_q 9 rfl (by kernel_rfl) (q_off 2 rfl rfl rfl hg75) hS rfl rfl ?_
  refine wa_q 10 rfl (by kernel_rfl) (q_off 2 rfl rfl rfl hg75) hS rfl rfl ?_
  refine wa_q 11 rfl (by kernel_rfl) (q_off 2 rfl rfl rfl hg75) hS rfl rfl ?_
  refine wa_q 12 rfl (by kernel_rfl) (q_off 2 rfl rfl rfl hg75) hS rfl rfl ?_
  refine wa_q 13 rfl (by kernel_rfl) (q_off 2 rfl rfl rfl hg75) hS rfl rfl ?_
  refine wa_q 14 rfl (by kernel_rfl) (q_pickF rfl hg75 rfl) hS rfl rfl ?_
  refine wa_done (by kernel_rfl) ?_
  exact ⟨(), M, ⟨(show some (Value.bool false) = some (Value.bool ((decide (0 < a1I)) && (!(decide (l_0_0.getD (a1 - 1) 0 < l_0_0.getD (p9).toNat 0))))) from by first | (simp only [hg75, bL8]; done) | (simp_all; done) | (simp_all; omega)), trivial⟩, unw_take 15 rfl rfl⟩
 rintro _ jr17 w60 M
 refine wc_cond rfl (fun ht87 => ?_) (fun ht87 => ?_)
 ·have h87 : 0 < a1I ∧ l_0_0.getD (p9).toNat 0 ≤ l_0_0.getD (a1 - 1) 0 := by simpa using ht87
  refine wc_seq <| wc_region <| wl_mv M rfl rfl <| wl_mv M rfl rfl <| wl_mv M rfl rfl <| wl_mv M rfl rfl <| wl_e (e_callR Try.func104 rfl (vs := [sv u, .int .i64 a1I, .int .i64 b1I, .int .i64 p9]) rfl (partE_c e1 e2 (by have := hF.po.len; have := hF.bl; have := hF.bb; omega) (by have := hF.po.len; omega) (v := (p9).toNat) (by omega) (by omega) (by omega) M)) rfl rfl ?_
  rintro _ w61 ⟨m, ys6, rfl, ⟨hq, hqv⟩, M⟩
  refine wl_as M rfl rfl <| wl_nil ?_
  refine wc_seq ?_
  have hqa := hq.am
  have hqb := hq.mb
  have hqv9 : ys6.getD a1 0 ≤ l_0_0.getD (a1 - 1) 0 := by rw [hqv]; exact h87.2
  refine wc_region <| wl_mv M rfl rfl <| wl_as M rfl rfl <| wl_nil <| wc_exit rfl ?_
  refine ⟨(m, (m : Int), b1, b1I, n1I, wb, wp, ys6), ?_, ⟨(by omega), (by omega), (hF.equal (by omega) hq hqv9), (by omega), M⟩, ⟨rfl, rfl, rfl, rfl, rfl, trivial⟩, unw_look rfl (unw_hav rfl (unw_look rfl (unw_hav rfl (unw_look rfl unw_base))))⟩
  show b1 - m < b1 - a1
  omega
 refine wc_skip ?_
 refine wc_seq <| wc_region <| wl_mv M rfl rfl <| wl_mv M rfl rfl <| wl_mv M rfl rfl <| wl_mv M rfl rfl <| wl_e (e_callR Try.func105 rfl (vs := [sv u, .int .i64 a1I, .int .i64 b1I, .int .i64 p9]) rfl (partQ_c e1 e2 (by have := hF.po.len; have := hF.bl; have := hF.bb; omega) (by have := hF.po.len; omega) (v := (p9).toNat) (by omega) (by omega) (by omega) M)) rfl rfl ?_
 rintro _ w62 ⟨m, ap, ys6, rfl, hpd, M⟩
 refine wl_mv M rfl rfl <| wl_m M (q_ext rfl rfl) rfl rfl <| wl_m M (q_ext rfl rfl) rfl rfl <| wl_as M rfl rfl <| wl_as M rfl rfl <| wl_nil ?_
 refine wc_seq ?_
 have hpa := hpd.am
 have hpb := hpd.mb
 have hpl := hpd.po.len
 have hFl := hF.po.len
 have hFb := hF.bl
 have hFc := hF.bb
 refine wc_region <| wl_mv M rfl rfl <| wl_as M rfl rfl <| wl_nil ?_
 refine wc_seq <| wc_region <| wl_mv M rfl rfl <| wl_mv M rfl rfl <| wl_m M (q_sub rfl rfl (IntWalk.i64_in _ (by omega))) rfl rfl ?_
 refine wl_mv M rfl rfl <| wl_mv M rfl rfl <| wl_m M (q_sub rfl rfl (IntWalk.i64_in _ (by omega))) rfl rfl ?_
 refine wl_as M rfl rfl <| wl_as M rfl rfl <| wl_nil ?_
 refine wc_seq <| wc_region <| wl_mv M rfl rfl <| wl_m M (q_quo (z := (((b1 - a1) / 8 : Nat) : Int)) rfl rfl (by decide) (by rw [hq8]; exact IntWalk.i64_in _ (by omega))) rfl rfl ?_
 refine wl_as M rfl rfl <| wl_nil ?_
 refine wc_seq <| wc_region <| wl_mv M rfl rfl <| wl_mv M rfl rfl <| wl_m M (q_lss rfl rfl) rfl rfl <| wl_nil ?_
 refine wc_dec rfl (fun ht113 => ?_) (fun ht113 => ?_)
 ·refine wc_seq <| wc_region <| wl_mv M rfl rfl <| wl_mv M rfl rfl <| wl_m M (q_geq rfl rfl) rfl rfl <| wl_as M rfl rfl <| wl_nil ?_
  refine wc_seq <| wc_region <| wl_mv M rfl rfl <| wl_mv M rfl rfl <| wl_mv M rfl rfl <| wl_mv M rfl rfl <| wl_e (e_callR Try.func91 rfl (vs := [sv u, .int .i64 a1I, .int .i64 (m : Int), .int .i64 n1I]) rfl (ih (m - a1) (by omega) (a := a1) (b := m) (by omega) e1 rfl (by omega) (by omega) (by omega) (by omega) (hpd.lowL hF) M)) rfl rfl ?_
  rintro _ w63 ⟨ys7, hys7, M⟩
  refine wl_nil <| wc_region <| wl_mv M rfl rfl <| wl_m M (q_add rfl rfl (IntWalk.i64_in _ (by omega))) rfl rfl ?_
  refine wl_as M rfl rfl <| wl_nil ?_
  refine ⟨(m + 1, (m : Int) + 1, b1, b1I, n1I, decide ((((b1 - a1) / 8 : Nat) : Int) ≤ ((m : Int) - a1I)), ap, ys7), ?_, ⟨(by omega), (by omega), (hF.left hpd hys7), (by omega), M⟩, ⟨rfl, rfl, rfl, rfl, rfl, trivial⟩, unw_look rfl (unw_hav rfl (unw_look rfl (unw_hav rfl (unw_look rfl unw_base))))⟩
  show b1 - (m + 1) < b1 - a1
  omega
 refine wc_seq <| wc_region <| wl_mv M rfl rfl <| wl_mv M rfl rfl <| wl_m M (q_geq rfl rfl) rfl rfl <| wl_as M rfl rfl <| wl_nil ?_
 refine wc_seq <| wc_region <| wl_mv M rfl rfl <| wl_mv M rfl rfl <| wl_m M (q_add rfl rfl (IntWalk.i64_in _ (by omega))) rfl rfl ?_
 refine wl_mv M rfl rfl <| wl_mv M rfl rfl <| wl_e (e_callR Try.func91 rfl (vs := [sv u, .int .i64 ((m : Int) + 1), .int .i64 b1I, .int .i64 n1I]) rfl (ih (b1 - (m + 1)) (by omega) (a := m + 1) (b := b1) (by omega) rfl e2 (by omega) (by omega) (by omega) (by omega) hpd.lowR M)) rfl rfl ?_
 rintro _ w64 ⟨ys7, hys7, M⟩
 refine wl_nil <| wc_region <| wl_mv M rfl rfl <| wl_as M rfl rfl <| wl_nil ?_
 refine ⟨(a1, a1I, m, (m : Int), n1I, decide ((((b1 - a1) / 8 : Nat) : Int) ≤ (b1I - (m : Int))), ap, ys7), ?_, ⟨(by omega), (by omega), (hF.right hpd hys7), (by omega), M⟩, ⟨rfl, rfl, rfl, rfl, rfl, trivial⟩, unw_look rfl (unw_hav rfl (unw_look rfl (unw_hav rfl (unw_look rfl unw_base))))⟩
 show m - a1 < b1 - a1
 omega
end Go.Proofs.Ytfepjcmjkaolgaa.G
