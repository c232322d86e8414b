/- Walks of the program's functions. -/
import Derived.Test.YtfepjcmjkaolgaaWA
import Derived.Test.YtfepjcmjkaolgaaGBit
import Derived.Test.YtfepjcmjkaolgaaGBln
import Derived.Test.YtfepjcmjkaolgaaGSqA
set_option linter.all false
namespace Go.Proofs.Ytfepjcmjkaolgaa.G
open Go Go.RowKit
theorem lessR_c (x y : Int) {I : Heap} {w : World} (hI : hle I (hp w)) : Calls A 103 #[.int .i32 x, .int .i32 y] w (Ret w I fun r _ => r = .bool (decide (x < y))) := by
 have M := Mem.start hI
 refine enter Try.func103 rfl 17 Try.ntmps103 [_, _] rfl ?_
 refine wc_seq <| wc_region <| wl_as M rfl rfl <| wl_nil ?_
 refine wc_seq ?_
 refine wc_join (α := Unit) [4, 5, 6, 7, 8, 9, 10, 11, 12, 13, 14, 15, 16] (fun _ => [(4, .bool (((false || false) && (!(false || false))) || (decide (x < y))))]) (fun _ w' => Mem w I I ([]) w') ?_ ?_
 ·refine wc_region <| wl_mv M rfl rfl <| wl_e (e_callC M (isNaN_rune x M.imm) Try.func74 rfl rfl) rfl rfl ?_
  rintro _ w1 ⟨J6, hJ6, rfl, M⟩
  replace M := M.less hJ6 (fun _ _ => rfl)
  refine wl_mv M rfl rfl ?_
  rcases Bool.eq_false_or_eq_true ((false || false)) with hg7 | hg7
  ·refine wl_m M (q_guard 2 rfl rfl rfl hg7 (q_move rfl)) rfl rfl <| wl_e (e_guard 2 rfl rfl rfl hg7 (e_callC M (isNaN_rune y M.imm) Try.func74 rfl rfl)) rfl rfl ?_
   rintro _ w2 ⟨J9, hJ9, rfl, M⟩
   replace M := M.less hJ9 (fun _ _ => rfl)
   refine wl_m M (q_guard 2 rfl rfl rfl hg7 (q_not rfl)) rfl rfl <| wl_m M (q_pickT rfl hg7 rfl) rfl rfl <| wl_mv M rfl rfl ?_
   rcases Bool.eq_false_or_eq_true (!(false || false)) with hg12 | hg12
   ·refine wl_m M (q_off 7 rfl rfl rfl hg12) rfl rfl <| wl_m M (q_off 7 rfl rfl rfl hg12) rfl rfl <| wl_m M (q_off 7 rfl rfl rfl hg12) rfl rfl <| wl_m M (q_pickT rfl hg12 rfl) rfl rfl <| wl_as M rfl rfl <| wl_nil ?_
    exact ⟨(), M, ⟨(show some (Value.bool true) = some (Value.bool (((false || false) && (!(false || false))) || (decide (x < y)))) from by first | (simp only [hg12, hg7, bL8]; done) | (simp_all; done) | (simp_all; omega)), trivial⟩, unw_take 13 rfl rfl⟩
   refine wl_m M (q_guard 7 rfl rfl rfl hg12 (q_move rfl)) rfl rfl <| wl_m M (q_guard 7 rfl rfl rfl hg12 (q_move rfl)) rfl rfl <| wl_m M (q_guard 7 rfl rfl rfl hg12 (q_lss rfl rfl)) rfl rfl <| wl_m M (q_pickF rfl hg12 rfl) rfl rfl <| wl_as M rfl rfl <| wl_nil ?_
   exact ⟨(), M, ⟨(show some (Value.bool (decide (x < y))) = some (Value.bool (((false || false) && (!(false || false))) || (decide (x < y)))) from by first | (simp only [hg12, hg7, bL8]; done) | (simp_all; done) | (simp_all; omega)), trivial⟩, unw_take 13 rfl rfl⟩
  refine wl_m M (q_off 2 rfl rfl rfl hg7) rfl rfl <| wl_m M (q_off 2 rfl rfl rfl hg7) rfl rfl <| wl_m M (q_off 2 rfl rfl rfl hg7) rfl rfl <| wl_m M (q_pickF rfl hg7 rfl) rfl rfl <| wl_mv M rfl rfl <| wl_m M (q_guard 7 rfl rfl rfl rfl (q_move rfl)) rfl rfl <| wl_m M (q_guard 7 rfl rfl rfl rfl (q_move rfl)) rfl rfl <| wl_m M (q_guard 7 rfl rfl rfl rfl (q_lss rfl rfl)) rfl rfl <| wl_m M (q_pickF rfl rfl rfl) rfl rfl <| wl_as M rfl rfl <| wl_nil ?_
  exact ⟨(), M, ⟨(show some (Value.bool (decide (x < y))) = some (Value.bool (((false || false) && (!(false || false))) || (decide (x < y)))) from by first | (simp only [hg7, bL8]; done) | (simp_all; done) | (simp_all; omega)), trivial⟩, unw_take 13 rfl rfl⟩
 rintro _ jr1 w3 M
 refine wc_ret ?_
 exact out1 rfl rfl ⟨_, _, rfl, M.grow, by simp⟩
set_option maxRecDepth 4000 in
set_option maxHeartbeats 1000000 in
theorem insQ_c {u : SV} {xs : List Int} {w0 w : World} {I0 I : Heap} {Lt : List Res} {a b : Nat} {aI bI : Int} (ea : aI = (a : Int)) (eb : bI = (b : Int)) (hb : b ≤ xs.length) (hl : xs.length ≤ 1099511627776) (hab : a ≤ b) (M : Mem w0 I0 I (row ERune (sv u) xs :: Lt) w) :
    Calls A 97 #[sv u, .int .i64 aI, .int .i64 bI] w fun e w' => ∃ v, e = .returned v ∧ ∃ ys : List Int, (PQ.PO xs ys a b ∧ PQ.Srt ys a b) ∧ Mem w0 I0 I (row ERune (sv u) ys :: Lt) w' := by
 have hoI := M.old
 refine enter Try.func97 rfl 49 Try.ntmps97 [_, _, _] rfl ?_
 refine wc_seq <| wc_region <| wl_mv M rfl rfl <| wl_m M (q_add rfl rfl (IntWalk.i64_in _ (by omega))) rfl rfl ?_
 refine wl_as M rfl rfl <| wl_nil <| wc_block ?_
 refine wc_loop (α := Nat × Int × (List Int)) [6, 7, 10, 11, 12, 13, 14, 15, 16, 17, 18, 19, 20, 21, 22, 23, 24, 25, 26, 27, 28, 29, 30, 31, 32, 33, 34, 35, 36, 37, 38, 39, 40, 41, 42, 43, 44, 45, 46, 47, 48] (fun ((i, iI, l_0_0) : Nat × Int × (List Int)) => [(6, .int .i64 iI)])
   (fun ((i, iI, l_0_0) : Nat × Int × (List Int)) w' => (iI = (i : Int)) ∧ (PQ.PO xs l_0_0 a b ∧ PQ.Srt l_0_0 a i) ∧ (a < i) ∧ Mem w0 I0 I (row ERune (sv u) l_0_0 :: Lt) w')
   (fun ((i, iI, l_0_0) : Nat × Int × (List Int)) => b - i) (a + 1, aI + 1, xs) ⟨rfl, trivial⟩ ?_ ?_
 ·refine ⟨(by omega), ⟨PQ.PO.refl _ _ _, PQ.Srt.one (by omega)⟩, (by omega), ?_⟩
  exact M
 rintro ⟨i, iI, l_0_0⟩ jj0 w1 ⟨hiI, hA, hai, M⟩
 refine wc_seq ?_
 refine wc_seq <| wc_region <| wl_mv M rfl rfl <| wl_mv M rfl rfl <| wl_m M (q_lss rfl rfl) rfl rfl <| wl_nil ?_
 refine wc_dec rfl (fun ht12 => ?_) (fun ht12 => ?_)
 ·have hi12 : iI < bI := by simpa using ht12
  refine wc_skip ?_
  refine wc_seq <| wc_block ?_
  refine wc_seq <| wc_region <| wl_mv M rfl rfl <| wl_as M rfl rfl <| wl_nil <| wc_block ?_
  refine wc_loop (α := Nat × Int × (List Int)) [7, 16, 17, 18, 19, 20, 21, 22, 23, 24, 25, 26, 27, 28, 29, 30, 31, 32, 33, 34, 35, 36, 37, 38, 39, 40, 41, 42, 43, 44, 45, 46, 47, 48] (fun ((j, jI, l_0_2) : Nat × Int × (List Int)) => [(7, .int .i64 jI)])
    (fun ((j, jI, l_0_2) : Nat × Int × (List Int)) w' => (jI = (j : Int)) ∧ (PQ.InB xs l_0_2 a b i j) ∧ Mem w0 I0 I (row ERune (sv u) l_0_2 :: Lt) w')
    (fun ((j, jI, l_0_2) : Nat × Int × (List Int)) => j) (i, iI, l_0_0) ⟨rfl, trivial⟩ ?_ ?_
  ·refine ⟨hiI, (PQ.InB.opn hA.1 hA.2 (by omega) (by omega) hb), ?_⟩
   exact M
  rintro ⟨j, jI, l_0_2⟩ jj2 w2 ⟨hjI, hB, M⟩
  have hBl := hB.po.len
  have hBj := hB.ji
  have hBi := hB.ib
  have hBb := hB.bl
  have hBa := hB.aj
  refine wc_seq ?_
  refine wc_seq ?_
  refine wc_join (α := Unit) [16, 17, 18, 19, 20, 21, 22, 23, 24, 25, 26, 27, 28, 29, 30] (fun _ => [(30, .bool ((decide (aI < jI)) && (decide (l_0_2.getD j 0 < l_0_2.getD (j - 1) 0))))]) (fun _ w' => Mem w0 I0 I (row ERune (sv u) l_0_2 :: Lt) w') ?_ ?_
  ·refine wc_draws (fun w' => Mem w0 I0 I (row ERune (sv u) l_0_2 :: Lt) w' ∧ True) [] fol ?_
   replace M := M.drew
   have hS := (⟨M, trivial⟩ : _ ∧ _)
   refine wa_q 0 rfl (by kernel_rfl) (q_move rfl) hS rfl rfl ?_
   refine wa_q 1 rfl (by kernel_rfl) (q_move rfl) hS rfl rfl ?_
   refine wa_q 2 rfl (by kernel_rfl) (q_gtr rfl rfl) hS rfl rfl ?_
   refine wa_q 3 rfl (by kernel_rfl) (q_move rfl) hS rfl rfl ?_
   rcases Bool.eq_false_or_eq_true (decide (aI < jI)) with hg19 | hg19
   ·refine wa_q 4 rfl (by kernel_rfl) (q_guard 3 rfl rfl rfl hg19 (q_move rfl)) hS rfl rfl ?_
    refine wa_q 5 rfl (by kernel_rfl) (q_guard 3 rfl rfl rfl hg19 (q_move rfl)) hS rfl rfl ?_
    have hj0 : a < j := by have := of_decide_eq_true hg19; omega
    refine wa_ixSG (j := j) 3 rfl rfl rfl hg19 6 hS (fun _ h => h.1.rd (i := 0) rfl) rfl (by kernel_rfl) Try.underlying40 rfl (ixe (by omega)) (PQ.at_some (by omega)) rfl (fun b22 o22 p22 => ?_)
    refine wa_q 7 rfl (by kernel_rfl) (q_guard 3 rfl rfl rfl hg19 (q_ldp p22 rfl rfl)) hS rfl rfl ?_
    refine wa_q 8 rfl (by kernel_rfl) (q_guard 3 rfl rfl rfl hg19 (q_move rfl)) hS rfl rfl ?_
    refine wa_q 9 rfl (by kernel_rfl) (q_guard 3 rfl rfl rfl hg19 (q_move rfl)) hS rfl rfl ?_
    refine wa_q 10 rfl (by kernel_rfl) (q_guard 3 rfl rfl rfl hg19 (q_sub rfl rfl (IntWalk.i64_in _ (by omega)))) hS rfl rfl ?_
    refine wa_ixSG (j := (j - 1)) 3 rfl rfl rfl hg19 11 hS (fun _ h => h.1.rd (i := 0) rfl) rfl (by kernel_rfl) Try.underlying40 rfl (ixe (by omega)) (PQ.at_some (by omega)) rfl (fun b27 o27 p27 => ?_)
    refine wa_q 12 rfl (by kernel_rfl) (q_guard 3 rfl rfl rfl hg19 (q_ldp p27 rfl rfl)) hS rfl rfl ?_
    refine wa_e 13 rfl (by kernel_rfl) (e_guard 3 rfl rfl rfl hg19 (e_callC M (lessR_c (l_0_2.getD j 0) (l_0_2.getD (j - 1) 0) M.imm) Try.func103 rfl rfl)) rfl rfl ?_
    rintro _ w3 ⟨J29, hJ29, rfl, M⟩
    have hS := (⟨(M.less hJ29 hoI), trivial⟩ : _ ∧ _)
    refine ⟨fun _ => hS, ?_⟩
    replace M := M.less hJ29 hoI
    refine wa_q 14 rfl (by kernel_rfl) (q_pickT rfl hg19 rfl) hS rfl rfl ?_
    refine wa_done (by kernel_rfl) ?_
    exact ⟨(), M, ⟨(show some (Value.bool (decide (l_0_2.getD j 0 < l_0_2.getD (j - 1) 0))) = some (Value.bool ((decide (aI < jI)) && (decide (l_0_2.getD j 0 < l_0_2.getD (j - 1) 0)))) from by first | (simp only [hg19, bL8]; done) | (simp_all; done) | (simp_all; omega)), trivial⟩, unw_take 15 rfl rfl⟩
   refine wa_q 4 rfl (by kernel_rfl) (q_off 3 rfl rfl rfl hg19) hS rfl rfl ?_
   refine wa_q 5 rfl (by kernel_rfl) (q_off 3 rfl rfl rfl hg19) hS rfl rfl ?_
   refine wa_q 6 rfl (by kernel_rfl) (q_off 3 rfl rfl rfl hg19) hS rfl rfl ?_
   refine wa_q 7 rfl (by kernel_rfl) (q_off 3 rfl rfl rfl hg19) hS rfl rfl ?_
   refine wa_q 8 rfl (by kernel_rfl) (q_off 3 rfl rfl rfl hg19) hS rfl rfl ?_
   refine wa_q 9 rfl (by kernel_rfl) (q_off 3 rfl rfl rfl hg19) hS rfl rfl ?_
   refine wa_q 10 rfl (by kernel_rfl) (q_off 3 rfl rfl rfl hg19) hS rfl rfl ?_
   refine wa_q 11 rfl (by kernel_rfl) (q_off 3 rfl rfl rfl hg19) hS rfl rfl ?_
   refine wa_q 12 rfl (by kernel_rfl) (q_off 3 rfl rfl rfl hg19) hS rfl rfl ?_
   refine wa_q 13 rfl (by kernel_rfl) (q_off 3 rfl rfl rfl hg19) hS rfl rfl ?_
   refine wa_q 14 rfl (by kernel_rfl) (q_pickF rfl hg19 rfl) hS rfl rfl ?_
   refine wa_done (by kernel_rfl) ?_
   exact ⟨(), M, ⟨(show some (Value.bool false) = some (Value.bool ((decide (aI < jI)) && (decide (l_0_2.getD j 0 < l_0_2.getD (j - 1) 0)))) from by first | (simp only [hg19, bL8]; done) | (simp_all; done) | (simp_all; omega)), trivial⟩, unw_take 15 rfl rfl⟩
  rintro _ jr4 w4 M
  refine wc_cond rfl (fun ht30 => ?_) (fun ht30 => ?_)
  ·have h30 : aI < jI ∧ l_0_2.getD j 0 < l_0_2.getD (j - 1) 0 := by simpa using ht30
   obtain ⟨hji0, hlt⟩ := h30
   have hj0 : a < j := by omega
   refine wc_skip ?_
   refine wc_seq <| wc_block ?_
   refine wc_draws (fun w' => Mem w0 I0 I (row ERune (sv u) l_0_2 :: Lt) w' ∧ True) [15, 17] fol ?_
   replace M := M.drew
   have hS := (⟨M, trivial⟩ : _ ∧ _)
   refine wa_q 0 rfl (by kernel_rfl) (q_move rfl) hS rfl rfl ?_
   refine wa_q 1 rfl (by kernel_rfl) (q_move rfl) hS rfl rfl ?_
   refine wa_w 2 rfl (by kernel_rfl) (q_move rfl) (fun _ => hS) rfl rfl ?_
   refine wa_w 3 rfl (by kernel_rfl) (q_move rfl) (fun _ => hS) rfl rfl ?_
   refine wa_w 4 rfl (by kernel_rfl) (q_sub rfl rfl (IntWalk.i64_in _ (by omega))) (fun _ => hS) rfl rfl ?_
   refine wa_q 5 rfl (by kernel_rfl) (q_move rfl) hS rfl rfl ?_
   refine wa_q 6 rfl (by kernel_rfl) (q_move rfl) hS rfl rfl ?_
   refine wa_q 7 rfl (by kernel_rfl) (q_sub rfl rfl (IntWalk.i64_in _ (by omega))) hS rfl rfl ?_
   refine wa_ixS (j := (j - 1)) 8 hS (fun _ h => h.1.rd (i := 0) rfl) rfl (by kernel_rfl) Try.underlying40 rfl (ixe (by omega)) (PQ.at_some (by omega)) rfl (fun b41 o41 p41 => ?_)
   refine wa_q 9 rfl (by kernel_rfl) (q_ldp p41 rfl rfl) hS rfl rfl ?_
   refine wa_w 10 rfl (by kernel_rfl) (q_move rfl) (fun _ => hS) rfl rfl ?_
   refine wa_w 11 rfl (by kernel_rfl) (q_move rfl) (fun _ => hS) rfl rfl ?_
   refine wa_ixSw (j := j) 12 hS (fun _ h => h.1.rd (i := 0) rfl) rfl (by kernel_rfl) Try.underlying40 rfl (ixe (by omega)) (PQ.at_some (by omega)) rfl (fun b45 o45 p45 => ?_)
   refine wa_q 13 rfl (by kernel_rfl) (q_ldp p45 rfl rfl) hS rfl rfl ?_
   refine wa_ixw (j := j) 14 0 M hS rfl rfl (by kernel_rfl) Try.underlying40 rfl (ixe (by omega)) (by first | omega | (simp only [List.length_set]; omega)) rfl (fun b47 o47 p47 => ?_)
   refine wa_e0 15 rfl (by kernel_rfl) (e_str (u := (l_0_2.getD (j - 1) 0)) 0 M rfl rfl rfl p47 (by first | omega | (simp only [List.length_set]; omega)) rfl) rfl ?_
   intro _ w5 M
   simp only [sC0, sCS] at M
   refine ⟨nofun, ?_⟩
   refine wa_ixw1 (j := (j - 1)) 16 0 M rfl rfl (by kernel_rfl) Try.underlying40 rfl (ixe (by omega)) (by first | omega | (simp only [List.length_set]; omega)) rfl nofun (fun b48 o48 p48 => ?_)
   refine wa_e0 17 rfl (by kernel_rfl) (e_str (u := (l_0_2.getD j 0)) 0 M rfl rfl rfl p48 (by first | omega | (simp only [List.length_set]; omega)) rfl) rfl ?_
   intro _ w6 M
   simp only [sC0, sCS] at M
   refine ⟨nofun, ?_⟩
   refine wa_done (by kernel_rfl) ?_
   refine wc_region <| wl_mv M rfl rfl <| wl_m M (q_sub rfl rfl (IntWalk.i64_in _ (by omega))) rfl rfl ?_
   refine wl_as M rfl rfl <| wl_nil ?_
   refine ⟨(j - 1, jI - 1, (l_0_2.set j (l_0_2.getD (j - 1) 0)).set (j - 1) (l_0_2.getD j 0)), ?_, ⟨(by omega), (hB.step hj0 hlt), M⟩, ⟨rfl, trivial⟩, unw_look rfl (unw_hav rfl (unw_look rfl unw_base))⟩
   show (j - 1) < j
   omega
  have hBd := hB.done (by
    by_cases hj0 : a < j
    · right
      have h1 : (decide (aI < jI)) = true := decide_eq_true (by omega)
      rw [h1, Bool.true_and] at ht30
      have := of_decide_eq_false ht30
      omega
    · left; omega)
  refine wc_exit rfl <| wc_region <| wl_mv M rfl rfl <| wl_m M (q_add rfl rfl (IntWalk.i64_in _ (by omega))) rfl rfl ?_
  refine wl_as M rfl rfl <| wl_nil ?_
  refine ⟨(i + 1, iI + 1, l_0_2), ?_, ⟨(by omega), hBd, (by omega), M⟩, ⟨rfl, trivial⟩, unw_look rfl (unw_hav rfl (unw_look rfl (unw_hav rfl (unw_look rfl unw_base))))⟩
  show b - (i + 1) < b - i
  omega
 have hi12 : ¬ iI < bI := by simpa using ht12
 refine wc_exit rfl ?_
 exact out0 rfl ⟨_, rfl, _, ⟨hA.1, fun p q h1 h2 h3 => hA.2 p q h1 h2 (by omega)⟩, M⟩
set_option maxRecDepth 4000 in
set_option maxHeartbeats 1000000 in
theorem siftQ_c {u : SV} {xs : List Int} {w0 w : World} {I0 I : Heap} {Lt : List Res} {lo hi f : Nat} {loI hiI fI : Int} (e1 : loI = (lo : Int)) (e2 : hiI = (hi : Int)) (e3 : fI = (f : Int)) (hlo : lo ≤ 1099511627776) (hb : f + hi ≤ xs.length) (hl : xs.length ≤ 1099511627776) (hh : PQ.Hp xs f (lo + 1) hi) (M : Mem w0 I0 I (row ERune (sv u) xs :: Lt) w) :
    Calls A 107 #[sv u, .int .i64 loI, .int .i64 hiI, .int .i64 fI] w fun e w' => ∃ v, e = .returned v ∧ ∃ ys : List Int, (PQ.PO xs ys (f + lo) (f + hi) ∧ PQ.Hp ys f lo hi) ∧ Mem w0 I0 I (row ERune (sv u) ys :: Lt) w' := by
 have hoI := M.old
 refine enter Try.func107 rfl 76 Try.ntmps107 [_, _, _, _] rfl ?_
 refine wc_seq <| wc_region <| wl_mv M rfl rfl <| wl_as M rfl rfl <| wl_nil <| wc_block ?_
 refine wc_loop (α := Nat × Int × (List Int)) [8, 9, 11, 12, 13, 14, 15, 16, 17, 18, 19, 20, 21, 22, 23, 24, 25, 26, 27, 28, 29, 30, 31, 32, 33, 34, 35, 36, 37, 38, 39, 40, 41, 42, 43, 44, 45, 46, 47, 48, 49, 50, 51, 52, 53, 54, 55, 56, 57, 58, 59, 60, 61, 62, 63, 64, 65, 66, 67, 68, 69, 70, 71, 72, 73, 74, 75] (fun ((r, rI, l_0_0) : Nat × Int × (List Int)) => [(8, .int .i64 rI)])
   (fun ((r, rI, l_0_0) : Nat × Int × (List Int)) w' => (rI = (r : Int)) ∧ (PQ.HpX xs l_0_0 f lo hi r) ∧ Mem w0 I0 I (row ERune (sv u) l_0_0 :: Lt) w')
   (fun ((r, rI, l_0_0) : Nat × Int × (List Int)) => hi - r) (lo, loI, xs) ⟨rfl, trivial⟩ ?_ ?_
 ·refine ⟨e1, (PQ.HpX.opn hh hb), ?_⟩
  exact M
 rintro ⟨r, rI, l_0_0⟩ jj0 w1 ⟨hrI, hX, M⟩
 have hXl := hX.po.len
 have hXr := hX.lr
 have hXh := hX.rh
 refine wc_block ?_
 refine wc_seq <| wc_region <| wl_mv M rfl rfl <| wl_m M (q_mul rfl rfl (IntWalk.i64_in _ (by omega))) rfl rfl ?_
 refine wl_m M (q_add rfl rfl (IntWalk.i64_in _ (by omega))) rfl rfl ?_
 refine wl_as M rfl rfl <| wl_nil ?_
 refine wc_seq ?_
 refine wc_seq <| wc_region <| wl_mv M rfl rfl <| wl_mv M rfl rfl <| wl_m M (q_geq rfl rfl) rfl rfl <| wl_nil ?_
 refine wc_dec rfl (fun ht16 => ?_) (fun ht16 => ?_)
 ·refine wc_exit rfl ?_
  exact out0 rfl ⟨_, rfl, _, hX.none (by omega), M⟩
 have h16 : 2 * r + 1 < hi := by omega
 refine wc_skip ?_
 refine wc_seq ?_
 refine wc_seq ?_
 refine wc_join (α := Unit) [17, 18, 19, 20, 21, 22, 23, 24, 25, 26, 27, 28, 29, 30, 31, 32, 33, 34, 35, 36] (fun _ => [(36, .bool ((decide ((((2 * rI) + 1) + 1) < hiI)) && (decide (l_0_0.getD (f + (2 * r + 1)) 0 < l_0_0.getD (f + (2 * r + 2)) 0))))]) (fun _ w' => Mem w0 I0 I (row ERune (sv u) l_0_0 :: Lt) w') ?_ ?_
 ·refine wc_draws (fun w' => Mem w0 I0 I (row ERune (sv u) l_0_0 :: Lt) w' ∧ True) [] fol ?_
  replace M := M.drew
  have hS := (⟨M, trivial⟩ : _ ∧ _)
  refine wa_q 0 rfl (by kernel_rfl) (q_move rfl) hS rfl rfl ?_
  refine wa_q 1 rfl (by kernel_rfl) (q_add rfl rfl (IntWalk.i64_in _ (by omega))) hS rfl rfl ?_
  refine wa_q 2 rfl (by kernel_rfl) (q_move rfl) hS rfl rfl ?_
  refine wa_q 3 rfl (by kernel_rfl) (q_lss rfl rfl) hS rfl rfl ?_
  refine wa_q 4 rfl (by kernel_rfl) (q_move rfl) hS rfl rfl ?_
  rcases Bool.eq_false_or_eq_true (decide ((((2 * rI) + 1) + 1) < hiI)) with hg21 | hg21
  ·refine wa_q 5 rfl (by kernel_rfl) (q_guard 4 rfl rfl rfl hg21 (q_move rfl)) hS rfl rfl ?_
   refine wa_q 6 rfl (by kernel_rfl) (q_guard 4 rfl rfl rfl hg21 (q_move rfl)) hS rfl rfl ?_
   refine wa_q 7 rfl (by kernel_rfl) (q_guard 4 rfl rfl rfl hg21 (q_move rfl)) hS rfl rfl ?_
   refine wa_q 8 rfl (by kernel_rfl) (q_guard 4 rfl rfl rfl hg21 (q_add rfl rfl (IntWalk.i64_in _ (by omega)))) hS rfl rfl ?_
   have hc36 : 2 * r + 2 < hi := by have := of_decide_eq_true hg21; omega
   refine wa_ixSG (j := (f + (2 * r + 1))) 4 rfl rfl rfl hg21 9 hS (fun _ h => h.1.rd (i := 0) rfl) rfl (by kernel_rfl) Try.underlying40 rfl (ixe (by omega)) (PQ.at_some (by omega)) rfl (fun b26 o26 p26 => ?_)
   refine wa_q 10 rfl (by kernel_rfl) (q_guard 4 rfl rfl rfl hg21 (q_ldp p26 rfl rfl)) hS rfl rfl ?_
   refine wa_q 11 rfl (by kernel_rfl) (q_guard 4 rfl rfl rfl hg21 (q_move rfl)) hS rfl rfl ?_
   refine wa_q 12 rfl (by kernel_rfl) (q_guard 4 rfl rfl rfl hg21 (q_move rfl)) hS rfl rfl ?_
   refine wa_q 13 rfl (by kernel_rfl) (q_guard 4 rfl rfl rfl hg21 (q_move rfl)) hS rfl rfl ?_
   refine wa_q 14 rfl (by kernel_rfl) (q_guard 4 rfl rfl rfl hg21 (q_add rfl rfl (IntWalk.i64_in _ (by omega)))) hS rfl rfl ?_
   refine wa_q 15 rfl (by kernel_rfl) (q_guard 4 rfl rfl rfl hg21 (q_add rfl rfl (IntWalk.i64_in _ (by omega)))) hS rfl rfl ?_
   refine wa_ixSG (j := (f + (2 * r + 2))) 4 rfl rfl rfl hg21 16 hS (fun _ h => h.1.rd (i := 0) rfl) rfl (by kernel_rfl) Try.underlying40 rfl (ixe (by omega)) (PQ.at_some (by omega)) rfl (fun b33 o33 p33 => ?_)
   refine wa_q 17 rfl (by kernel_rfl) (q_guard 4 rfl rfl rfl hg21 (q_ldp p33 rfl rfl)) hS rfl rfl ?_
   refine wa_e 18 rfl (by kernel_rfl) (e_guard 4 rfl rfl rfl hg21 (e_callC M (lessR_c (l_0_0.getD (f + (2 * r + 1)) 0) (l_0_0.getD (f + (2 * r + 2)) 0) M.imm) Try.func103 rfl rfl)) rfl rfl ?_
   rintro _ w2 ⟨J35, hJ35, rfl, M⟩
   have hS := (⟨(M.less hJ35 hoI), trivial⟩ : _ ∧ _)
   refine ⟨fun _ => hS, ?_⟩
   replace M := M.less hJ35 hoI
   refine wa_q 19 rfl (by kernel_rfl) (q_pickT rfl hg21 rfl) hS rfl rfl ?_
   refine wa_done (by kernel_rfl) ?_
   exact ⟨(), M, ⟨(show some (Value.bool (decide (l_0_0.getD (f + (2 * r + 1)) 0 < l_0_0.getD (f + (2 * r + 2)) 0))) = some (Value.bool ((decide ((((2 * rI) + 1) + 1) < hiI)) && (decide (l_0_0.getD (f + (2 * r + 1)) 0 < l_0_0.getD (f + (2 * r + 2)) 0)))) from by first | (simp only [hg21, bL8]; done) | (simp_all; done) | (simp_all; omega)), trivial⟩, unw_take 20 rfl rfl⟩
  refine wa_q 5 rfl (by kernel_rfl) (q_off 4 rfl rfl rfl hg21) hS rfl rfl ?_
  refine wa_q 6 rfl (by kernel_rfl) (q_off 4 rfl rfl rfl hg21) hS rfl rfl ?_
  refine wa_q 7 rfl (by kernel_rfl) (q_off 4 rfl rfl rfl hg21) hS rfl rfl ?_
  refine wa_q 8 rfl (by kernel_rfl) (q_off 4 rfl rfl rfl hg21) hS rfl rfl ?_
  refine wa_q 9 rfl (by kernel_rfl) (q_off 4 rfl rfl rfl hg21) hS rfl rfl ?_
  refine wa_q 10 rfl (by kernel_rfl) (q_off 4 rfl rfl rfl hg21) hS rfl rfl ?_
  refine wa_q 11 rfl (by kernel_rfl) (q_off 4 rfl rfl rfl hg21) hS rfl rfl ?_
  refine wa_q 12 rfl (by kernel_rfl) (q_off 4 rfl rfl rfl hg21) hS rfl rfl ?_
  refine wa_q 13 rfl (by kernel_rfl) (q_off 4 rfl rfl rfl hg21) hS rfl rfl ?_
  refine wa_q 14 rfl (by kernel_rfl) (q_off 4 rfl rfl rfl hg21) hS rfl rfl ?_
  refine wa_q 15 rfl (by kernel_rfl) (q_off 4 rfl rfl rfl hg21) hS rfl rfl ?_
  refine wa_q 16 rfl (by kernel_rfl) (q_off 4 rfl rfl rfl hg21) hS rfl rfl ?_
  refine wa_q 17 rfl (by kernel_rfl) (q_off 4 rfl rfl rfl hg21) hS rfl rfl ?_
  refine wa_q 18 rfl (by kernel_rfl) (q_off 4 rfl rfl rfl hg21) hS rfl rfl ?_
  refine wa_q 19 rfl (by kernel_rfl) (q_pickF rfl hg21 rfl) hS rfl rfl ?_
  refine wa_done (by kernel_rfl) ?_
  exact ⟨(), M, ⟨(show some (Value.bool false) = some (Value.bool ((decide ((((2 * rI) + 1) + 1) < hiI)) && (decide (l_0_0.getD (f + (2 * r + 1)) 0 < l_0_0.getD (f + (2 * r + 2)) 0)))) from by first | (simp only [hg21, bL8]; done) | (simp_all; done) | (simp_all; omega)), trivial⟩, unw_take 20 rfl rfl⟩
 rintro _ jr3 w3 M
 refine wc_cond rfl (fun ht36 => ?_) (fun ht36 => ?_)
 ·have h36 : (2 * rI + 1) + 1 < hiI ∧ l_0_0.getD (f + (2 * r + 1)) 0 < l_0_0.getD (f + (2 * r + 2)) 0 := by simpa using ht36
  have hch : 2 * r + 2 < hi := by omega
  have hcc : (2 * r + 2) = 2 * r + 1 ∨ (2 * r + 2) = 2 * r + 2 := .inr rfl
  have hmx : ∀ c, c = 2 * r + 1 ∨ c = 2 * r + 2 → c < hi → l_0_0.getD (f + c) 0 ≤ l_0_0.getD (f + (2 * r + 2)) 0 := fun c hc _ => by
    rcases hc with rfl | rfl
    · exact Int.le_of_lt h36.2
    · exact Int.le_refl _
  refine wc_region <| wl_mv M rfl rfl <| wl_m M (q_add rfl rfl (IntWalk.i64_in _ (by omega))) rfl rfl ?_
  refine wl_as M rfl rfl <| wl_nil ?_
  refine wc_seq ?_
  refine wc_seq ?_
  refine wc_draws (fun w' => Mem w0 I0 I (row ERune (sv u) l_0_0 :: Lt) w' ∧ True) [] fol ?_
  replace M := M.drew
  have hS := (⟨M, trivial⟩ : _ ∧ _)
  refine wa_q 0 rfl (by kernel_rfl) (q_move rfl) hS rfl rfl ?_
  refine wa_q 1 rfl (by kernel_rfl) (q_move rfl) hS rfl rfl ?_
  refine wa_q 2 rfl (by kernel_rfl) (q_move rfl) hS rfl rfl ?_
  refine wa_q 3 rfl (by kernel_rfl) (q_add rfl rfl (IntWalk.i64_in _ (by omega))) hS rfl rfl ?_
  refine wa_ixS (j := (f + r)) 4 hS (fun _ h => h.1.rd (i := 0) rfl) rfl (by kernel_rfl) Try.underlying40 rfl (ixe (by omega)) (PQ.at_some (by omega)) rfl (fun b43 o43 p43 => ?_)
  refine wa_q 5 rfl (by kernel_rfl) (q_ldp p43 rfl rfl) hS rfl rfl ?_
  refine wa_q 6 rfl (by kernel_rfl) (q_move rfl) hS rfl rfl ?_
  refine wa_q 7 rfl (by kernel_rfl) (q_move rfl) hS rfl rfl ?_
  refine wa_q 8 rfl (by kernel_rfl) (q_move rfl) hS rfl rfl ?_
  refine wa_q 9 rfl (by kernel_rfl) (q_add rfl rfl (IntWalk.i64_in _ (by omega))) hS rfl rfl ?_
  refine wa_ixS (j := (f + (2 * r + 2))) 10 hS (fun _ h => h.1.rd (i := 0) rfl) rfl (by kernel_rfl) Try.underlying40 rfl (ixe (by omega)) (PQ.at_some (by omega)) rfl (fun b49 o49 p49 => ?_)
  refine wa_q 11 rfl (by kernel_rfl) (q_ldp p49 rfl rfl) hS rfl rfl ?_
  refine wa_e 12 rfl (by kernel_rfl) (e_callC M (lessR_c (l_0_0.getD (f + r) 0) (l_0_0.getD (f + (2 * r + 2)) 0) M.imm) Try.func103 rfl rfl) rfl rfl ?_
  rintro _ w4 ⟨J51, hJ51, rfl, M⟩
  have hS := (⟨(M.less hJ51 hoI), trivial⟩ : _ ∧ _)
  refine ⟨fun _ => hS, ?_⟩
  replace M := M.less hJ51 hoI
  refine wa_q 13 rfl (by kernel_rfl) (q_not rfl) hS rfl rfl ?_
  refine wa_done (by kernel_rfl) ?_
  refine wc_cond rfl (fun ht52 => ?_) (fun ht52 => ?_)
  ·have hge := nd_t ht52
   refine wc_ret ?_
   exact out0 rfl ⟨_, rfl, _, hX.fin hmx (by omega), M⟩
  have hlt := nd_f ht52
  refine wc_skip ?_
  refine wc_seq ?_
  refine wc_draws (fun w' => Mem w0 I0 I (row ERune (sv u) l_0_0 :: Lt) w' ∧ True) [21, 23] fol ?_
  replace M := M.drew
  have hS := (⟨M, trivial⟩ : _ ∧ _)
  refine wa_q 0 rfl (by kernel_rfl) (q_move rfl) hS rfl rfl ?_
  refine wa_q 1 rfl (by kernel_rfl) (q_move rfl) hS rfl rfl ?_
  refine wa_q 2 rfl (by kernel_rfl) (q_move rfl) hS rfl rfl ?_
  refine wa_q 3 rfl (by kernel_rfl) (q_add rfl rfl (IntWalk.i64_in _ (by omega))) hS rfl rfl ?_
  refine wa_w 4 rfl (by kernel_rfl) (q_move rfl) (fun _ => hS) rfl rfl ?_
  refine wa_w 5 rfl (by kernel_rfl) (q_move rfl) (fun _ => hS) rfl rfl ?_
  refine wa_w 6 rfl (by kernel_rfl) (q_move rfl) (fun _ => hS) rfl rfl ?_
  refine wa_w 7 rfl (by kernel_rfl) (q_add rfl rfl (IntWalk.i64_in _ (by omega))) (fun _ => hS) rfl rfl ?_
  refine wa_q 8 rfl (by kernel_rfl) (q_move rfl) hS rfl rfl ?_
  refine wa_q 9 rfl (by kernel_rfl) (q_move rfl) hS rfl rfl ?_
  refine wa_q 10 rfl (by kernel_rfl) (q_move rfl) hS rfl rfl ?_
  refine wa_q 11 rfl (by kernel_rfl) (q_add rfl rfl (IntWalk.i64_in _ (by omega))) hS rfl rfl ?_
  refine wa_ixS (j := (f + (2 * r + 2))) 12 hS (fun _ h => h.1.rd (i := 0) rfl) rfl (by kernel_rfl) Try.underlying40 rfl (ixe (by omega)) (PQ.at_some (by omega)) rfl (fun b65 o65 p65 => ?_)
  refine wa_q 13 rfl (by kernel_rfl) (q_ldp p65 rfl rfl) hS rfl rfl ?_
  refine wa_w 14 rfl (by kernel_rfl) (q_move rfl) (fun _ => hS) rfl rfl ?_
  refine wa_w 15 rfl (by kernel_rfl) (q_move rfl) (fun _ => hS) rfl rfl ?_
  refine wa_w 16 rfl (by kernel_rfl) (q_move rfl) (fun _ => hS) rfl rfl ?_
  refine wa_w 17 rfl (by kernel_rfl) (q_add rfl rfl (IntWalk.i64_in _ (by omega))) (fun _ => hS) rfl rfl ?_
  refine wa_ixSw (j := (f + r)) 18 hS (fun _ h => h.1.rd (i := 0) rfl) rfl (by kernel_rfl) Try.underlying40 rfl (ixe (by omega)) (PQ.at_some (by omega)) rfl (fun b71 o71 p71 => ?_)
  refine wa_q 19 rfl (by kernel_rfl) (q_ldp p71 rfl rfl) hS rfl rfl ?_
  refine wa_ixw (j := (f + r)) 20 0 M hS rfl rfl (by kernel_rfl) Try.underlying40 rfl (ixe (by omega)) (by first | omega | (simp only [List.length_set]; omega)) rfl (fun b73 o73 p73 => ?_)
  refine wa_e0 21 rfl (by kernel_rfl) (e_str (u := (l_0_0.getD (f + (2 * r + 2)) 0)) 0 M rfl rfl rfl p73 (by first | omega | (simp only [List.length_set]; omega)) rfl) rfl ?_
  intro _ w5 M
  simp only [sC0, sCS] at M
  refine ⟨nofun, ?_⟩
  refine wa_ixw1 (j := (f + (2 * r + 2))) 22 0 M rfl rfl (by kernel_rfl) Try.underlying40 rfl (ixe (by omega)) (by first | omega | (simp only [List.length_set]; omega)) rfl nofun (fun b74 o74 p74 => ?_)
  refine wa_e0 23 rfl (by kernel_rfl) (e_str (u := (l_0_0.getD (f + r) 0)) 0 M rfl rfl rfl p74 (by first | omega | (simp only [List.length_set]; omega)) rfl) rfl ?_
  intro _ w6 M
  simp only [sC0, sCS] at M
  refine ⟨nofun, ?_⟩
  refine wa_done (by kernel_rfl) ?_
  refine wc_region <| wl_mv M rfl rfl <| wl_as M rfl rfl <| wl_nil ?_
  refine ⟨(2 * r + 2, (2 * rI + 1) + 1, (l_0_0.set (f + r) (l_0_0.getD (f + (2 * r + 2)) 0)).set (f + (2 * r + 2)) (l_0_0.getD (f + r) 0)), ?_, ⟨(by omega), (hX.step hmx hcc hch hlt), M⟩, ⟨rfl, trivial⟩, unw_look rfl (unw_hav rfl (unw_look rfl unw_base))⟩
  show hi - (2 * r + 2) < hi - r
  omega
 have hch : 2 * r + 1 < hi := h16
 have hcc : (2 * r + 1) = 2 * r + 1 ∨ (2 * r + 1) = 2 * r + 2 := .inl rfl
 have hmx : ∀ c, c = 2 * r + 1 ∨ c = 2 * r + 2 → c < hi → l_0_0.getD (f + c) 0 ≤ l_0_0.getD (f + (2 * r + 1)) 0 := fun c hc h9 => by
   rcases hc with rfl | rfl
   · exact Int.le_refl _
   · have h1 : (decide ((2 * rI + 1) + 1 < hiI)) = true := decide_eq_true (by omega)
     rw [h1, Bool.true_and] at ht36
     have := of_decide_eq_false ht36
     omega
 refine wc_skip ?_
 refine wc_seq ?_
 refine wc_seq ?_
 refine wc_draws (fun w' => Mem w0 I0 I (row ERune (sv u) l_0_0 :: Lt) w' ∧ True) [] fol ?_
 replace M := M.drew
 have hS := (⟨M, trivial⟩ : _ ∧ _)
 refine wa_q 0 rfl (by kernel_rfl) (q_move rfl) hS rfl rfl ?_
 refine wa_q 1 rfl (by kernel_rfl) (q_move rfl) hS rfl rfl ?_
 refine wa_q 2 rfl (by kernel_rfl) (q_move rfl) hS rfl rfl ?_
 refine wa_q 3 rfl (by kernel_rfl) (q_add rfl rfl (IntWalk.i64_in _ (by omega))) hS rfl rfl ?_
 refine wa_ixS (j := (f + r)) 4 hS (fun _ h => h.1.rd (i := 0) rfl) rfl (by kernel_rfl) Try.underlying40 rfl (ixe (by omega)) (PQ.at_some (by omega)) rfl (fun b43 o43 p43 => ?_)
 refine wa_q 5 rfl (by kernel_rfl) (q_ldp p43 rfl rfl) hS rfl rfl ?_
 refine wa_q 6 rfl (by kernel_rfl) (q_move rfl) hS rfl rfl ?_
 refine wa_q 7 rfl (by kernel_rfl) (q_move rfl) hS rfl rfl ?_
 refine wa_q 8 rfl (by kernel_rfl) (q_move rfl) hS rfl rfl ?_
 refine wa_q 9 rfl (by kernel_rfl) (q_add rfl rfl (IntWalk.i64_in _ (by omega))) hS rfl rfl ?_
 refine wa_ixS (j := (f + (2 * r + 1))) 10 hS (fun _ h => h.1.rd (i := 0) rfl) rfl (by kernel_rfl) Try.underlying40 rfl (ixe (by omega)) (PQ.at_some (by omega)) rfl (fun b49 o49 p49 => ?_)
 refine wa_q 11 rfl (by kernel_rfl) (q_ldp p49 rfl rfl) hS rfl rfl ?_
 refine wa_e 12 rfl (by kernel_rfl) (e_callC M (lessR_c (l_0_0.getD (f + r) 0) (l_0_0.getD (f + (2 * r + 1)) 0) M.imm) Try.func103 rfl rfl) rfl rfl ?_
 rintro _ w7 ⟨J51, hJ51, rfl, M⟩
 have hS := (⟨(M.less hJ51 hoI), trivial⟩ : _ ∧ _)
 refine ⟨fun _ => hS, ?_⟩
 replace M := M.less hJ51 hoI
 refine wa_q 13 rfl (by kernel_rfl) (q_not rfl) hS rfl rfl ?_
 refine wa_done (by kernel_rfl) ?_
 refine wc_cond rfl (fun ht52 => ?_) (fun ht52 => ?_)
 ·have hge := nd_t ht52
  refine wc_ret ?_
  exact out0 rfl ⟨_, rfl, _, hX.fin hmx (by omega), M⟩
 have hlt := nd_f ht52
 refine wc_skip ?_
 refine wc_seq ?_
 refine wc_draws (fun w' => Mem w0 I0 I (row ERune (sv u) l_0_0 :: Lt) w' ∧ True) [21, 23] fol ?_
 replace M := M.drew
 have hS := (⟨M, trivial⟩ : _ ∧ _)
 refine wa_q 0 rfl (by kernel_rfl) (q_move rfl) hS rfl rfl ?_
 refine wa_q 1 rfl (by kernel_rfl) (q_move rfl) hS rfl rfl ?_
 refine wa_q 2 rfl (by kernel_rfl) (q_move rfl) hS rfl rfl ?_
 refine wa_q 3 rfl (by kernel_rfl) (q_add rfl rfl (IntWalk.i64_in _ (by omega))) hS rfl rfl ?_
 refine wa_w 4 rfl (by kernel_rfl) (q_move rfl) (fun _ => hS) rfl rfl ?_
 refine wa_w 5 rfl (by kernel_rfl) (q_move rfl) (fun _ => hS) rfl rfl ?_
 refine wa_w 6 rfl (by kernel_rfl) (q_move rfl) (fun _ => hS) rfl rfl ?_
 refine wa_w 7 rfl (by kernel_rfl) (q_add rfl rfl (IntWalk.i64_in _ (by omega))) (fun _ => hS) rfl rfl ?_
 refine wa_q 8 rfl (by kernel_rfl) (q_move rfl) hS rfl rfl ?_
 refine wa_q 9 rfl (by kernel_rfl) (q_move rfl) hS rfl rfl ?_
 refine wa_q 10 rfl (by kernel_rfl) (q_move rfl) hS rfl rfl ?_
 refine wa_q 11 rfl (by kernel_rfl) (q_add rfl rfl (IntWalk.i64_in _ (by omega))) hS rfl rfl ?_
 refine wa_ixS (j := (f + (2 * r + 1))) 12 hS (fun _ h => h.1.rd (i := 0) rfl) rfl (by kernel_rfl) Try.underlying40 rfl (ixe (by omega)) (PQ.at_some (by omega)) rfl (fun b65 o65 p65 => ?_)
 refine wa_q 13 rfl (by kernel_rfl) (q_ldp p65 rfl rfl) hS rfl rfl ?_
 refine wa_w 14 rfl (by kernel_rfl) (q_move rfl) (fun _ => hS) rfl rfl ?_
 refine wa_w 15 rfl (by kernel_rfl) (q_move rfl) (fun _ => hS) rfl rfl ?_
 refine wa_w 16 rfl (by kernel_rfl) (q_move rfl) (fun _ => hS) rfl rfl ?_
 refine wa_w 17 rfl (by kernel_rfl) (q_add rfl rfl (IntWalk.i64_in _ (by omega))) (fun _ => hS) rfl rfl ?_
 refine wa_ixSw (j := (f + r)) 18 hS (fun _ h => h.1.rd (i := 0) rfl) rfl (by kernel_rfl) Try.underlying40 rfl (ixe (by omega)) (PQ.at_some (by omega)) rfl (fun b71 o71 p71 => ?_)
 refine wa_q 19 rfl (by kernel_rfl) (q_ldp p71 rfl rfl) hS rfl rfl ?_
 refine wa_ixw (j := (f + r)) 20 0 M hS rfl rfl (by kernel_rfl) Try.underlying40 rfl (ixe (by omega)) (by first | omega | (simp only [List.length_set]; omega)) rfl (fun b73 o73 p73 => ?_)
 refine wa_e0 21 rfl (by kernel_rfl) (e_str (u := (l_0_0.getD (f + (2 * r + 1)) 0)) 0 M rfl rfl rfl p73 (by first | omega | (simp only [List.length_set]; omega)) rfl) rfl ?_
 intro _ w8 M
 simp only [sC0, sCS] at M
 refine ⟨nofun, ?_⟩
 refine wa_ixw1 (j := (f + (2 * r + 1))) 22 0 M rfl rfl (by kernel_rfl) Try.underlying40 rfl (ixe (by omega)) (by first | omega | (simp only [List.length_set]; omega)) rfl nofun (fun b74 o74 p74 => ?_)
 refine wa_e0 23 rfl (by kernel_rfl) (e_str (u := (l_0_0.getD (f + r) 0)) 0 M rfl rfl rfl p74 (by first | omega | (simp only [List.length_set]; omega)) rfl) rfl ?_
 intro _ w9 M
 simp only [sC0, sCS] at M
 refine ⟨nofun, ?_⟩
 refine wa_done (by kernel_rfl) ?_
 refine wc_region <| wl_mv M rfl rfl <| wl_as M rfl rfl <| wl_nil ?_
 refine ⟨(2 * r + 1, 2 * rI + 1, (l_0_0.set (f + r) (l_0_0.getD (f + (2 * r + 1)) 0)).set (f + (2 * r + 1)) (l_0_0.getD (f + r) 0)), ?_, ⟨(by omega), (hX.step hmx hcc hch hlt), M⟩, ⟨rfl, trivial⟩, unw_look rfl (unw_hav rfl (unw_look rfl unw_base))⟩
 show hi - (2 * r + 1) < hi - r
 omega
set_option maxRecDepth 4000 in
set_option maxHeartbeats 1000000 in
theorem heapQ_c {u : SV} {xs : List Int} {w0 w : World} {I0 I : Heap} {Lt : List Res} {a b : Nat} {aI bI : Int} (ea : aI = (a : Int)) (eb : bI = (b : Int)) (hb : b ≤ xs.length) (hl : xs.length ≤ 1099511627776) (hab : a < b) (M : Mem w0 I0 I (row ERune (sv u) xs :: Lt) w) :
    Calls A 98 #[sv u, .int .i64 aI, .int .i64 bI] w fun e w' => ∃ v, e = .returned v ∧ ∃ ys : List Int, (PQ.PO xs ys a b ∧ PQ.Srt ys a b) ∧ Mem w0 I0 I (row ERune (sv u) ys :: Lt) w' := by
 have hq : (bI - aI - 1).tdiv 2 = (((b - a - 1) / 2 : Nat) : Int) := tdivN (k := 2) (by omega)
 have hoI := M.old
 refine enter Try.func98 rfl 56 Try.ntmps98 [_, _, _] rfl ?_
 refine wc_seq <| wc_region <| wl_mv M rfl rfl <| wl_as M rfl rfl <| wl_nil ?_
 refine wc_seq <| wc_region <| wl_as M rfl rfl <| wl_nil ?_
 refine wc_seq <| wc_region <| wl_mv M rfl rfl <| wl_mv M rfl rfl <| wl_m M (q_sub rfl rfl (IntWalk.i64_in _ (by omega))) rfl rfl ?_
 refine wl_as M rfl rfl <| wl_nil ?_
 refine wc_seq ?_
 refine wc_seq <| wc_region <| wl_mv M rfl rfl <| wl_m M (q_sub rfl rfl (IntWalk.i64_in _ (by omega))) rfl rfl ?_
 refine wl_m M (q_quo (z := (((b - a - 1) / 2 : Nat) : Int)) rfl rfl (by decide) (by rw [hq]; exact IntWalk.i64_in _ (by omega))) rfl rfl ?_
 refine wl_as M rfl rfl <| wl_nil <| wc_block ?_
 refine wc_loop (α := Nat × Int × (List Int)) [9, 18, 19, 20, 21, 22, 23, 24, 25, 26] (fun ((k, iI, l_0_0) : Nat × Int × (List Int)) => [(9, .int .i64 iI)])
   (fun ((k, iI, l_0_0) : Nat × Int × (List Int)) w' => (iI = (k : Int) - 1) ∧ (PQ.PO xs l_0_0 a b) ∧ (PQ.Hp l_0_0 a k (b - a)) ∧ (k ≤ b) ∧ Mem w0 I0 I (row ERune (sv u) l_0_0 :: Lt) w')
   (fun ((k, iI, l_0_0) : Nat × Int × (List Int)) => k) ((b - a - 1) / 2 + 1, (((b - a - 1) / 2 : Nat) : Int), xs) ⟨rfl, trivial⟩ ?_ ?_
 ·refine ⟨(by omega), (PQ.PO.refl _ _ _), (fun k_ h1_ c_ h2_ h3_ => by omega), (by omega), ?_⟩
  exact M
 rintro ⟨k, iI, l_0_0⟩ jj0 w1 ⟨hiI, hP, hH, hk, M⟩
 have hPl := hP.len
 refine wc_seq ?_
 refine wc_seq <| wc_region <| wl_mv M rfl rfl <| wl_m M (q_geq rfl rfl) rfl rfl <| wl_nil ?_
 refine wc_dec rfl (fun ht19 => ?_) (fun ht19 => ?_)
 ·have hk1 : 0 < k := by omega
  refine wc_skip ?_
  refine wc_seq <| wc_block <| wc_region <| wl_mv M rfl rfl <| wl_mv M rfl rfl <| wl_mv M rfl rfl <| wl_mv M rfl rfl <| wl_e (e_callR Try.func107 rfl (vs := [sv u, .int .i64 iI, .int .i64 (bI - aI), .int .i64 aI]) rfl (siftQ_c (lo := (k - 1)) (hi := (b - a)) (f := a) (by omega) (by omega) ea (by omega) (by rw [hPl]; omega) (by omega) (by rw [show k - 1 + 1 = k by omega]; exact hH) M)) rfl rfl ?_
  rintro _ w2 ⟨ys, hys, M⟩
  refine wl_nil <| wc_region <| wl_mv M rfl rfl <| wl_m M (q_sub rfl rfl (IntWalk.i64_in _ (by omega))) rfl rfl ?_
  refine wl_as M rfl rfl <| wl_nil ?_
  refine ⟨(k - 1, iI - 1, ys), ?_, ⟨(by omega), (hP.trans (hys.1.sub (by omega) (by omega))), hys.2, (by omega), M⟩, ⟨rfl, trivial⟩, unw_look rfl unw_base⟩
  show (k - 1) < k
  omega
 refine wc_exit rfl ?_
 refine wc_seq <| wc_region <| wl_mv M rfl rfl <| wl_m M (q_sub rfl rfl (IntWalk.i64_in _ (by omega))) rfl rfl ?_
 refine wl_as M rfl rfl <| wl_nil <| wc_block ?_
 refine wc_loop (α := Nat × Int × (List Int)) [10, 29, 30, 31, 32, 33, 34, 35, 36, 37, 38, 39, 40, 41, 42, 43, 44, 45, 46, 47, 48, 49, 50, 51, 52, 53, 54, 55] (fun ((k2, i2, l_0_2) : Nat × Int × (List Int)) => [(10, .int .i64 i2)])
   (fun ((k2, i2, l_0_2) : Nat × Int × (List Int)) w' => (i2 = (k2 : Int) - 1) ∧ (PQ.Pop xs l_0_2 a b k2) ∧ Mem w0 I0 I (row ERune (sv u) l_0_2 :: Lt) w')
   (fun ((k2, i2, l_0_2) : Nat × Int × (List Int)) => k2) (b - a, (bI - aI) - 1, l_0_0) ⟨rfl, trivial⟩ ?_ ?_
 ·refine ⟨(by omega), (PQ.Pop.opn hP (by rw [show k = 0 by omega] at hH; exact hH) hb (by omega)), ?_⟩
  exact M
 rintro ⟨k2, i2, l_0_2⟩ jj2 w3 ⟨hi2, hPop, M⟩
 have hPl2 := hPop.po.len
 have hPi := hPop.ib
 refine wc_seq ?_
 refine wc_seq <| wc_region <| wl_mv M rfl rfl <| wl_m M (q_geq rfl rfl) rfl rfl <| wl_nil ?_
 refine wc_dec rfl (fun ht30 => ?_) (fun ht30 => ?_)
 ·have hk2 : 0 < k2 := by omega
  have hP9 : PQ.Pop xs l_0_2 a b ((k2 - 1) + 1) := by rw [show k2 - 1 + 1 = k2 by omega]; exact hPop
  refine wc_skip ?_
  refine wc_seq <| wc_block ?_
  refine wc_seq ?_
  refine wc_draws (fun w' => Mem w0 I0 I (row ERune (sv u) l_0_2 :: Lt) w' ∧ True) [17, 19] fol ?_
  replace M := M.drew
  have hS := (⟨M, trivial⟩ : _ ∧ _)
  refine wa_q 0 rfl (by kernel_rfl) (q_move rfl) hS rfl rfl ?_
  refine wa_q 1 rfl (by kernel_rfl) (q_move rfl) hS rfl rfl ?_
  refine wa_w 2 rfl (by kernel_rfl) (q_move rfl) (fun _ => hS) rfl rfl ?_
  refine wa_w 3 rfl (by kernel_rfl) (q_move rfl) (fun _ => hS) rfl rfl ?_
  refine wa_w 4 rfl (by kernel_rfl) (q_move rfl) (fun _ => hS) rfl rfl ?_
  refine wa_w 5 rfl (by kernel_rfl) (q_add rfl rfl (IntWalk.i64_in _ (by omega))) (fun _ => hS) rfl rfl ?_
  refine wa_q 6 rfl (by kernel_rfl) (q_move rfl) hS rfl rfl ?_
  refine wa_q 7 rfl (by kernel_rfl) (q_move rfl) hS rfl rfl ?_
  refine wa_q 8 rfl (by kernel_rfl) (q_move rfl) hS rfl rfl ?_
  refine wa_q 9 rfl (by kernel_rfl) (q_add rfl rfl (IntWalk.i64_in _ (by omega))) hS rfl rfl ?_
  refine wa_ixS (j := (a + (k2 - 1))) 10 hS (fun _ h => h.1.rd (i := 0) rfl) rfl (by kernel_rfl) Try.underlying40 rfl (ixe (by omega)) (PQ.at_some (by omega)) rfl (fun b43 o43 p43 => ?_)
  refine wa_q 11 rfl (by kernel_rfl) (q_ldp p43 rfl rfl) hS rfl rfl ?_
  refine wa_w 12 rfl (by kernel_rfl) (q_move rfl) (fun _ => hS) rfl rfl ?_
  refine wa_w 13 rfl (by kernel_rfl) (q_move rfl) (fun _ => hS) rfl rfl ?_
  refine wa_ixSw (j := a) 14 hS (fun _ h => h.1.rd (i := 0) rfl) rfl (by kernel_rfl) Try.underlying40 rfl (ixe (by omega)) (PQ.at_some (by omega)) rfl (fun b47 o47 p47 => ?_)
  refine wa_q 15 rfl (by kernel_rfl) (q_ldp p47 rfl rfl) hS rfl rfl ?_
  refine wa_ixw (j := a) 16 0 M hS rfl rfl (by kernel_rfl) Try.underlying40 rfl (ixe (by omega)) (by first | omega | (simp only [List.length_set]; omega)) rfl (fun b49 o49 p49 => ?_)
  refine wa_e0 17 rfl (by kernel_rfl) (e_str (u := (l_0_2.getD (a + (k2 - 1)) 0)) 0 M rfl rfl rfl p49 (by first | omega | (simp only [List.length_set]; omega)) rfl) rfl ?_
  intro _ w4 M
  simp only [sC0, sCS] at M
  refine ⟨nofun, ?_⟩
  refine wa_ixw1 (j := (a + (k2 - 1))) 18 0 M rfl rfl (by kernel_rfl) Try.underlying40 rfl (ixe (by omega)) (by first | omega | (simp only [List.length_set]; omega)) rfl nofun (fun b50 o50 p50 => ?_)
  refine wa_e0 19 rfl (by kernel_rfl) (e_str (u := (l_0_2.getD a 0)) 0 M rfl rfl rfl p50 (by first | omega | (simp only [List.length_set]; omega)) rfl) rfl ?_
  intro _ w5 M
  simp only [sC0, sCS] at M
  refine ⟨nofun, ?_⟩
  refine wa_done (by kernel_rfl) ?_
  replace M : Mem w0 I0 I (row ERune (sv u) (PQ.sw l_0_2 a (a + (k2 - 1))) :: Lt) w5 := M
  refine wc_region <| wl_mv M rfl rfl <| wl_mv M rfl rfl <| wl_mv M rfl rfl <| wl_mv M rfl rfl <| wl_e (e_callR Try.func107 rfl (vs := [sv u, .int .i64 0, .int .i64 i2, .int .i64 aI]) rfl (siftQ_c (lo := 0) (hi := (k2 - 1)) (f := a) rfl (by omega) ea (by omega) (by rw [PQ.sw_len]; omega) (by rw [PQ.sw_len]; omega) (PQ.Pop.pre hP9) M)) rfl rfl ?_
  rintro _ w6 ⟨ys, hys, M⟩
  refine wl_nil <| wc_region <| wl_mv M rfl rfl <| wl_m M (q_sub rfl rfl (IntWalk.i64_in _ (by omega))) rfl rfl ?_
  refine wl_as M rfl rfl <| wl_nil ?_
  refine ⟨(k2 - 1, i2 - 1, ys), ?_, ⟨(by omega), (PQ.Pop.next hP9 hys), M⟩, ⟨rfl, trivial⟩, unw_look rfl unw_base⟩
  show (k2 - 1) < k2
  omega
 obtain rfl : k2 = 0 := by omega
 refine wc_exit rfl ?_
 exact out0 rfl ⟨_, rfl, _, hPop.fin, M⟩
set_option maxRecDepth 4000 in
set_option maxHeartbeats 1000000 in
theorem partQ_c {u : SV} {xs : List Int} {w0 w : World} {I0 I : Heap} {Lt : List Res} {a b : Nat} {aI bI : Int} (ea : aI = (a : Int)) (eb : bI = (b : Int)) (hb : b ≤ xs.length) (hl : xs.length ≤ 1099511627776) {v : Nat} {vI : Int} (ev : vI = (v : Int)) (hv1 : a ≤ v) (hv2 : v < b) (M : Mem w0 I0 I (row ERune (sv u) xs :: Lt) w) :
    Calls A 105 #[sv u, .int .i64 aI, .int .i64 bI, .int .i64 vI] w (fun e w' => ∃ v, e = .returned v ∧ ∃ (m : Nat) (ap : Bool) (ys : List Int), v = .tuple #[.int .i64 (m : Int), .bool ap] ∧ PQ.Pd xs ys a b m ∧ Mem w0 I0 I (row ERune (sv u) ys :: Lt) w') := by
 have hoI := M.old
 refine enter Try.func105 rfl 168 Try.ntmps105 [_, _, _, _] rfl ?_
 refine wc_seq <| wc_region <| wl_as M rfl rfl <| wl_as M rfl rfl <| wl_nil ?_
 refine wc_seq ?_
 refine wc_draws (fun w' => Mem w0 I0 I (row ERune (sv u) xs :: Lt) w' ∧ True) [13, 15] fol ?_
 replace M := M.drew
 have hS := (⟨M, trivial⟩ : _ ∧ _)
 refine wa_q 0 rfl (by kernel_rfl) (q_move rfl) hS rfl rfl ?_
 refine wa_q 1 rfl (by kernel_rfl) (q_move rfl) hS rfl rfl ?_
 refine wa_w 2 rfl (by kernel_rfl) (q_move rfl) (fun _ => hS) rfl rfl ?_
 refine wa_w 3 rfl (by kernel_rfl) (q_move rfl) (fun _ => hS) rfl rfl ?_
 refine wa_q 4 rfl (by kernel_rfl) (q_move rfl) hS rfl rfl ?_
 refine wa_q 5 rfl (by kernel_rfl) (q_move rfl) hS rfl rfl ?_
 refine wa_ixS (j := v) 6 hS (fun _ h => h.1.rd (i := 0) rfl) rfl (by kernel_rfl) Try.underlying40 rfl (ixe (by omega)) (PQ.at_some (by omega)) rfl (fun b18 o18 p18 => ?_)
 refine wa_q 7 rfl (by kernel_rfl) (q_ldp p18 rfl rfl) hS rfl rfl ?_
 refine wa_w 8 rfl (by kernel_rfl) (q_move rfl) (fun _ => hS) rfl rfl ?_
 refine wa_w 9 rfl (by kernel_rfl) (q_move rfl) (fun _ => hS) rfl rfl ?_
 refine wa_ixSw (j := a) 10 hS (fun _ h => h.1.rd (i := 0) rfl) rfl (by kernel_rfl) Try.underlying40 rfl (ixe (by omega)) (PQ.at_some (by omega)) rfl (fun b22 o22 p22 => ?_)
 refine wa_q 11 rfl (by kernel_rfl) (q_ldp p22 rfl rfl) hS rfl rfl ?_
 refine wa_ixw (j := a) 12 0 M hS rfl rfl (by kernel_rfl) Try.underlying40 rfl (ixe (by omega)) (by first | omega | (simp only [List.length_set]; omega)) rfl (fun b24 o24 p24 => ?_)
 refine wa_e0 13 rfl (by kernel_rfl) (e_str (u := (xs.getD v 0)) 0 M rfl rfl rfl p24 (by first | omega | (simp only [List.length_set]; omega)) rfl) rfl ?_
 intro _ w1 M
 simp only [sC0, sCS] at M
 refine ⟨nofun, ?_⟩
 refine wa_ixw1 (j := v) 14 0 M rfl rfl (by kernel_rfl) Try.underlying40 rfl (ixe (by omega)) (by first | omega | (simp only [List.length_set]; omega)) rfl nofun (fun b25 o25 p25 => ?_)
 refine wa_e0 15 rfl (by kernel_rfl) (e_str (u := (xs.getD a 0)) 0 M rfl rfl rfl p25 (by first | omega | (simp only [List.length_set]; omega)) rfl) rfl ?_
 intro _ w2 M
 simp only [sC0, sCS] at M
 refine ⟨nofun, ?_⟩
 refine wa_done (by kernel_rfl) ?_
 refine wc_seq ?_
 obtain ⟨l1, hl1⟩ : ∃ l_ : List Int, l_ = PQ.sw xs a v := ⟨_, rfl⟩
 replace M : Mem w0 I0 I (row ERune (sv u) l1 :: Lt) w2 := by rw [hl1]; exact M
 have hP0 : PQ.Pt xs l1 a b (a + 1) (b - 1) := by rw [hl1]; exact PQ.Pt.opn hv1 hv2 hb
 refine wc_region <| wl_mv M rfl rfl <| wl_m M (q_add rfl rfl (IntWalk.i64_in _ (by omega))) rfl rfl ?_
 refine wl_mv M rfl rfl <| wl_m M (q_sub rfl rfl (IntWalk.i64_in _ (by omega))) rfl rfl ?_
 refine wl_as M rfl rfl <| wl_as M rfl rfl <| wl_nil ?_
 refine wc_seq <| wc_block ?_
 refine wc_loop (α := Nat × Int) [10, 30, 31, 32, 33, 34, 35, 36, 37, 38, 39, 40, 41, 42, 43, 44, 45] (fun ((i, iI) : Nat × Int) => [(10, .int .i64 iI)])
   (fun ((i, iI) : Nat × Int) w' => (iI = (i : Int)) ∧ (PQ.Pt xs l1 a b i (b - 1)) ∧ Mem w0 I0 I (row ERune (sv u) l1 :: Lt) w')
   (fun ((i, iI) : Nat × Int) => b - i) (a + 1, aI + 1) ⟨rfl, trivial⟩ ?_ ?_
 ·refine ⟨(by omega), hP0, ?_⟩
  exact M
 rintro ⟨i, iI⟩ jj0 w3 ⟨hiI, hP, M⟩
 have hPl := hP.po.len
 have hPa := hP.ai
 have hPi := hP.ij
 have hPb := hP.jb
 refine wc_seq ?_
 refine wc_seq ?_
 refine wc_join (α := Unit) [30, 31, 32, 33, 34, 35, 36, 37, 38, 39, 40, 41, 42, 43] (fun _ => [(43, .bool ((decide (iI ≤ (bI - 1))) && (decide (l1.getD i 0 < l1.getD a 0))))]) (fun _ w' => Mem w0 I0 I (row ERune (sv u) l1 :: Lt) w') ?_ ?_
 ·refine wc_draws (fun w' => Mem w0 I0 I (row ERune (sv u) l1 :: Lt) w' ∧ True) [] fol ?_
  replace M := M.drew
  have hS := (⟨M, trivial⟩ : _ ∧ _)
  refine wa_q 0 rfl (by kernel_rfl) (q_move rfl) hS rfl rfl ?_
  refine wa_q 1 rfl (by kernel_rfl) (q_move rfl) hS rfl rfl ?_
  refine wa_q 2 rfl (by kernel_rfl) (q_leq rfl rfl) hS rfl rfl ?_
  refine wa_q 3 rfl (by kernel_rfl) (q_move rfl) hS rfl rfl ?_
  rcases Bool.eq_false_or_eq_true (decide (iI ≤ (bI - 1))) with hg33 | hg33
  ·refine wa_q 4 rfl (by kernel_rfl) (q_guard 3 rfl rfl rfl hg33 (q_move rfl)) hS rfl rfl ?_
   refine wa_q 5 rfl (by kernel_rfl) (q_guard 3 rfl rfl rfl hg33 (q_move rfl)) hS rfl rfl ?_
   have hij9 : i ≤ b - 1 := by have := of_decide_eq_true hg33; omega
   refine wa_ixSG (j := i) 3 rfl rfl rfl hg33 6 hS (fun _ h => h.1.rd (i := 0) rfl) rfl (by kernel_rfl) Try.underlying40 rfl (ixe (by omega)) (PQ.at_some (by omega)) rfl (fun b36 o36 p36 => ?_)
   refine wa_q 7 rfl (by kernel_rfl) (q_guard 3 rfl rfl rfl hg33 (q_ldp p36 rfl rfl)) hS rfl rfl ?_
   refine wa_q 8 rfl (by kernel_rfl) (q_guard 3 rfl rfl rfl hg33 (q_move rfl)) hS rfl rfl ?_
   refine wa_q 9 rfl (by kernel_rfl) (q_guard 3 rfl rfl rfl hg33 (q_move rfl)) hS rfl rfl ?_
   refine wa_ixSG (j := a) 3 rfl rfl rfl hg33 10 hS (fun _ h => h.1.rd (i := 0) rfl) rfl (by kernel_rfl) Try.underlying40 rfl (ixe (by omega)) (PQ.at_some (by omega)) rfl (fun b40 o40 p40 => ?_)
   refine wa_q 11 rfl (by kernel_rfl) (q_guard 3 rfl rfl rfl hg33 (q_ldp p40 rfl rfl)) hS rfl rfl ?_
   refine wa_e 12 rfl (by kernel_rfl) (e_guard 3 rfl rfl rfl hg33 (e_callC M (lessR_c (l1.getD i 0) (l1.getD a 0) M.imm) Try.func103 rfl rfl)) rfl rfl ?_
   rintro _ w4 ⟨J42, hJ42, rfl, M⟩
   have hS := (⟨(M.less hJ42 hoI), trivial⟩ : _ ∧ _)
   refine ⟨fun _ => hS, ?_⟩
   replace M := M.less hJ42 hoI
   refine wa_q 13 rfl (by kernel_rfl) (q_pickT rfl hg33 rfl) hS rfl rfl ?_
   refine wa_done (by kernel_rfl) ?_
   exact ⟨(), M, ⟨(show some (Value.bool (decide (l1.getD i 0 < l1.getD a 0))) = some (Value.bool ((decide (iI ≤ (bI - 1))) && (decide (l1.getD i 0 < l1.getD a 0)))) from by first | (simp only [hg33, bL8]; done) | (simp_all; done) | (simp_all; omega)), trivial⟩, unw_take 14 rfl rfl⟩
  refine wa_q 4 rfl (by kernel_rfl) (q_off 3 rfl rfl rfl hg33) hS rfl rfl ?_
  refine wa_q 5 rfl (by kernel_rfl) (q_off 3 rfl rfl rfl hg33) hS rfl rfl ?_
  refine wa_q 6 rfl (by kernel_rfl) (q_off 3 rfl rfl rfl hg33) hS rfl rfl ?_
  refine wa_q 7 rfl (by kernel_rfl) (q_off 3 rfl rfl rfl hg33) hS rfl rfl ?_
  refine wa_q 8 rfl (by kernel_rfl) (q_off 3 rfl rfl rfl hg33) hS rfl rfl ?_
  refine wa_q 9 rfl (by kernel_rfl) (q_off 3 rfl rfl rfl hg33) hS rfl rfl ?_
  refine wa_q 10 rfl (by kernel_rfl) (q_off 3 rfl rfl rfl hg33) hS rfl rfl ?_
  refine wa_q 11 rfl (by kernel_rfl) (q_off 3 rfl rfl rfl hg33) hS rfl rfl ?_
  refine wa_q 12 rfl (by kernel_rfl) (q_off 3 rfl rfl rfl hg33) hS rfl rfl ?_
  refine wa_q 13 rfl (by kernel_rfl) (q_pickF rfl hg33 rfl) hS rfl rfl ?_
  refine wa_done (by kernel_rfl) ?_
  exact ⟨(), M, ⟨(show some (Value.bool false) = some (Value.bool ((decide (iI ≤ (bI - 1))) && (decide (l1.getD i 0 < l1.getD a 0)))) from by first | (simp only [hg33, bL8]; done) | (simp_all; done) | (simp_all; omega)), trivial⟩, unw_take 14 rfl rfl⟩
 rintro _ jr3 w5 M
 refine wc_cond rfl (fun ht43 => ?_) (fun ht43 => ?_)
 ·have h43 : iI ≤ bI - 1 ∧ l1.getD i 0 < l1.getD a 0 := by simpa using ht43
  have hlt := h43.2
  have hij : i ≤ b - 1 := by omega
  refine wc_skip <| wc_block <| wc_region <| wl_mv M rfl rfl <| wl_m M (q_add rfl rfl (IntWalk.i64_in _ (by omega))) rfl rfl ?_
  refine wl_as M rfl rfl <| wl_nil ?_
  refine ⟨(i + 1, iI + 1), ?_, ⟨(by omega), (hP.up hij hlt), M⟩, ⟨rfl, trivial⟩, unw_look rfl (unw_hav rfl (unw_look rfl unw_base))⟩
  show b - (i + 1) < b - i
  omega
 have hE1 : b - 1 < i ∨ l1.getD a 0 ≤ l1.getD i 0 := by
   by_cases h : iI ≤ bI - 1
   · right; rw [decide_eq_true h, Bool.true_and] at ht43; have := of_decide_eq_false ht43; omega
   · left; omega
 refine wc_exit rfl ?_
 refine wc_seq <| wc_block ?_
 refine wc_loop (α := Nat × Int) [11, 46, 47, 48, 49, 50, 51, 52, 53, 54, 55, 56, 57, 58, 59, 60, 61, 62] (fun ((j, jI) : Nat × Int) => [(11, .int .i64 jI)])
   (fun ((j, jI) : Nat × Int) w' => (jI = (j : Int)) ∧ (PQ.Pt xs l1 a b i j) ∧ (j < i ∨ l1.getD a 0 ≤ l1.getD i 0) ∧ Mem w0 I0 I (row ERune (sv u) l1 :: Lt) w')
   (fun ((j, jI) : Nat × Int) => j) (b - 1, bI - 1) ⟨rfl, trivial⟩ ?_ ?_
 ·refine ⟨(by omega), hP, hE1, ?_⟩
  exact M
 rintro ⟨j, jI⟩ jj2 w6 ⟨hjI, hP2, hE, M⟩
 have hP2l := hP2.po.len
 have hP2a := hP2.ai
 have hP2i := hP2.ij
 have hP2b := hP2.jb
 refine wc_seq ?_
 refine wc_seq ?_
 refine wc_join (α := Unit) [46, 47, 48, 49, 50, 51, 52, 53, 54, 55, 56, 57, 58, 59, 60] (fun _ => [(60, .bool ((decide (iI ≤ jI)) && (!(decide (l1.getD j 0 < l1.getD a 0)))))]) (fun _ w' => Mem w0 I0 I (row ERune (sv u) l1 :: Lt) w') ?_ ?_
 ·refine wc_draws (fun w' => Mem w0 I0 I (row ERune (sv u) l1 :: Lt) w' ∧ True) [] fol ?_
  replace M := M.drew
  have hS := (⟨M, trivial⟩ : _ ∧ _)
  refine wa_q 0 rfl (by kernel_rfl) (q_move rfl) hS rfl rfl ?_
  refine wa_q 1 rfl (by kernel_rfl) (q_move rfl) hS rfl rfl ?_
  refine wa_q 2 rfl (by kernel_rfl) (q_leq rfl rfl) hS rfl rfl ?_
  refine wa_q 3 rfl (by kernel_rfl) (q_move rfl) hS rfl rfl ?_
  rcases Bool.eq_false_or_eq_true (decide (iI ≤ jI)) with hg49 | hg49
  ·refine wa_q 4 rfl (by kernel_rfl) (q_guard 3 rfl rfl rfl hg49 (q_move rfl)) hS rfl rfl ?_
   refine wa_q 5 rfl (by kernel_rfl) (q_guard 3 rfl rfl rfl hg49 (q_move rfl)) hS rfl rfl ?_
   have hij9 : i ≤ j := by have := of_decide_eq_true hg49; omega
   refine wa_ixSG (j := j) 3 rfl rfl rfl hg49 6 hS (fun _ h => h.1.rd (i := 0) rfl) rfl (by kernel_rfl) Try.underlying40 rfl (ixe (by omega)) (PQ.at_some (by omega)) rfl (fun b52 o52 p52 => ?_)
   refine wa_q 7 rfl (by kernel_rfl) (q_guard 3 rfl rfl rfl hg49 (q_ldp p52 rfl rfl)) hS rfl rfl ?_
   refine wa_q 8 rfl (by kernel_rfl) (q_guard 3 rfl rfl rfl hg49 (q_move rfl)) hS rfl rfl ?_
   refine wa_q 9 rfl (by kernel_rfl) (q_guard 3 rfl rfl rfl hg49 (q_move rfl)) hS rfl rfl ?_
   refine wa_ixSG (j := a) 3 rfl rfl rfl hg49 10 hS (fun _ h => h.1.rd (i := 0) rfl) rfl (by kernel_rfl) Try.underlying40 rfl (ixe (by omega)) (PQ.at_some (by omega)) rfl (fun b56 o56 p56 => ?_)
   refine wa_q 11 rfl (by kernel_rfl) (q_guard 3 rfl rfl rfl hg49 (q_ldp p56 rfl rfl)) hS rfl rfl ?_
   refine wa_e 12 rfl (by kernel_rfl) (e_guard 3 rfl rfl rfl hg49 (e_callC M (lessR_c (l1.getD j 0) (l1.getD a 0) M.imm) Try.func103 rfl rfl)) rfl rfl ?_
   rintro _ w7 ⟨J58, hJ58, rfl, M⟩
   have hS := (⟨(M.less hJ58 hoI), trivial⟩ : _ ∧ _)
   refine ⟨fun _ => hS, ?_⟩
   replace M := M.less hJ58 hoI
   refine wa_q 13 rfl (by kernel_rfl) (q_guard 3 rfl rfl rfl hg49 (q_not rfl)) hS rfl rfl ?_
   refine wa_q 14 rfl (by kernel_rfl) (q_pickT rfl hg49 rfl) hS rfl rfl ?_
   refine wa_done (by kernel_rfl) ?_
   exact ⟨(), M, ⟨(show some (Value.bool (!(decide (l1.getD j 0 < l1.getD a 0)))) = some (Value.bool ((decide (iI ≤ jI)) && (!(decide (l1.getD j 0 < l1.getD a 0))))) from by first | (simp only [hg49, bL8]; done) | (simp_all; done) | (simp_all; omega)), trivial⟩, unw_take 15 rfl rfl⟩
  refine wa_q 4 rfl (by kernel_rfl) (q_off 3 rfl rfl rfl hg49) hS rfl rfl ?_
  refine wa_q 5 rfl (by kernel_rfl) (q_off 3 rfl rfl rfl hg49) hS rfl rfl ?_
  refine wa_q 6 rfl (by kernel_rfl) (q_off 3 rfl rfl rfl hg49) hS rfl rfl ?_
  refine wa_q 7 rfl (by kernel_rfl) (q_off 3 rfl rfl rfl hg49) hS rfl rfl ?_
  refine wa_q 8 rfl (by kernel_rfl) (q_off 3 rfl rfl rfl hg49) hS rfl rfl ?_
  refine wa_q 9 rfl (by kernel_rfl) (q_off 3 rfl rfl rfl hg49) hS rfl rfl ?_
  refine wa_q 10 rfl (by kernel_rfl) (q_off 3 rfl rfl rfl hg49) hS rfl rfl ?_
  refine wa_q 11 rfl (by kernel_rfl) (q_off 3 rfl rfl rfl hg49) hS rfl rfl ?_
  refine wa_q 12 rfl (by kernel_rfl) (q_off 3 rfl rfl rfl hg49) hS rfl rfl ?_
  refine wa_q 13 rfl (by kernel_rfl) (q_off 3 rfl rfl rfl hg49) hS rfl rfl ?_
  refine wa_q 14 rfl (by kernel_rfl) (q_pickF rfl hg49 rfl) hS rfl rfl ?_
  refine wa_done (by kernel_rfl) ?_
  exact ⟨(), M, ⟨(show some (Value.bool false) = some (Value.bool ((decide (iI ≤ jI)) && (!(decide (l1.getD j 0 < l1.getD a 0))))) from by first | (simp only [hg49, bL8]; done) | (simp_all; done) | (simp_all; omega)), trivial⟩, unw_take 15 rfl rfl⟩
 rintro _ jr5 w8 M
 refine wc_cond rfl (fun ht60 => ?_) (fun ht60 => ?_)
 ·have h60 : iI ≤ jI ∧ l1.getD a 0 ≤ l1.getD j 0 := by simpa using ht60
  have hge := h60.2
  have hij : i ≤ j := by omega
  refine wc_skip <| wc_block <| wc_region <| wl_mv M rfl rfl <| wl_m M (q_sub rfl rfl (IntWalk.i64_in _ (by omega))) rfl rfl ?_
  refine wl_as M rfl rfl <| wl_nil ?_
  refine ⟨(j - 1, jI - 1), ?_, ⟨(by omega), (hP2.down hij hge), (hE.imp (fun _ => by omega) id), M⟩, ⟨rfl, trivial⟩, unw_look rfl (unw_hav rfl (unw_look rfl unw_base))⟩
  show (j - 1) < j
  omega
 have hE2 : j < i ∨ l1.getD j 0 < l1.getD a 0 := by
   by_cases h : iI ≤ jI
   · right; rw [decide_eq_true h, Bool.true_and] at ht60; exact of_decide_eq_true (by simpa using ht60)
   · left; omega
 refine wc_exit rfl ?_
 refine wc_seq ?_
 refine wc_seq <| wc_region <| wl_mv M rfl rfl <| wl_mv M rfl rfl <| wl_m M (q_gtr rfl rfl) rfl rfl <| wl_nil ?_
 refine wc_dec rfl (fun ht65 => ?_) (fun ht65 => ?_)
 ·refine wc_seq ?_
  refine wc_draws (fun w' => Mem w0 I0 I (row ERune (sv u) l1 :: Lt) w' ∧ True) [13, 15] fol ?_
  replace M := M.drew
  have hS := (⟨M, trivial⟩ : _ ∧ _)
  refine wa_q 0 rfl (by kernel_rfl) (q_move rfl) hS rfl rfl ?_
  refine wa_q 1 rfl (by kernel_rfl) (q_move rfl) hS rfl rfl ?_
  refine wa_w 2 rfl (by kernel_rfl) (q_move rfl) (fun _ => hS) rfl rfl ?_
  refine wa_w 3 rfl (by kernel_rfl) (q_move rfl) (fun _ => hS) rfl rfl ?_
  refine wa_q 4 rfl (by kernel_rfl) (q_move rfl) hS rfl rfl ?_
  refine wa_q 5 rfl (by kernel_rfl) (q_move rfl) hS rfl rfl ?_
  refine wa_ixS (j := a) 6 hS (fun _ h => h.1.rd (i := 0) rfl) rfl (by kernel_rfl) Try.underlying40 rfl (ixe (by omega)) (PQ.at_some (by omega)) rfl (fun b72 o72 p72 => ?_)
  refine wa_q 7 rfl (by kernel_rfl) (q_ldp p72 rfl rfl) hS rfl rfl ?_
  refine wa_w 8 rfl (by kernel_rfl) (q_move rfl) (fun _ => hS) rfl rfl ?_
  refine wa_w 9 rfl (by kernel_rfl) (q_move rfl) (fun _ => hS) rfl rfl ?_
  refine wa_ixSw (j := j) 10 hS (fun _ h => h.1.rd (i := 0) rfl) rfl (by kernel_rfl) Try.underlying40 rfl (ixe (by omega)) (PQ.at_some (by omega)) rfl (fun b76 o76 p76 => ?_)
  refine wa_q 11 rfl (by kernel_rfl) (q_ldp p76 rfl rfl) hS rfl rfl ?_
  refine wa_ixw (j := j) 12 0 M hS rfl rfl (by kernel_rfl) Try.underlying40 rfl (ixe (by omega)) (by first | omega | (simp only [List.length_set]; omega)) rfl (fun b78 o78 p78 => ?_)
  refine wa_e0 13 rfl (by kernel_rfl) (e_str (u := (l1.getD a 0)) 0 M rfl rfl rfl p78 (by first | omega | (simp only [List.length_set]; omega)) rfl) rfl ?_
  intro _ w9 M
  simp only [sC0, sCS] at M
  refine ⟨nofun, ?_⟩
  refine wa_ixw1 (j := a) 14 0 M rfl rfl (by kernel_rfl) Try.underlying40 rfl (ixe (by omega)) (by first | omega | (simp only [List.length_set]; omega)) rfl nofun (fun b79 o79 p79 => ?_)
  refine wa_e0 15 rfl (by kernel_rfl) (e_str (u := (l1.getD j 0)) 0 M rfl rfl rfl p79 (by first | omega | (simp only [List.length_set]; omega)) rfl) rfl ?_
  intro _ w10 M
  simp only [sC0, sCS] at M
  refine ⟨nofun, ?_⟩
  refine wa_done (by kernel_rfl) ?_
  refine wc_seq <| wc_region <| wl_mv M rfl rfl <| wl_as M rfl rfl <| wl_as M rfl rfl <| wl_nil <| wc_ret ?_
  exact out2 rfl rfl rfl ⟨_, rfl, j, true, _, by rw [hjI], hP2.fin (by omega), M⟩
 refine wc_skip ?_
 refine wc_seq ?_
 refine wc_draws (fun w' => Mem w0 I0 I (row ERune (sv u) l1 :: Lt) w' ∧ True) [13, 15] fol ?_
 replace M := M.drew
 have hS := (⟨M, trivial⟩ : _ ∧ _)
 refine wa_q 0 rfl (by kernel_rfl) (q_move rfl) hS rfl rfl ?_
 refine wa_q 1 rfl (by kernel_rfl) (q_move rfl) hS rfl rfl ?_
 refine wa_w 2 rfl (by kernel_rfl) (q_move rfl) (fun _ => hS) rfl rfl ?_
 refine wa_w 3 rfl (by kernel_rfl) (q_move rfl) (fun _ => hS) rfl rfl ?_
 refine wa_q 4 rfl (by kernel_rfl) (q_move rfl) hS rfl rfl ?_
 refine wa_q 5 rfl (by kernel_rfl) (q_move rfl) hS rfl rfl ?_
 refine wa_ixS (j := j) 6 hS (fun _ h => h.1.rd (i := 0) rfl) rfl (by kernel_rfl) Try.underlying40 rfl (ixe (by omega)) (PQ.at_some (by omega)) rfl (fun b87 o87 p87 => ?_)
 refine wa_q 7 rfl (by kernel_rfl) (q_ldp p87 rfl rfl) hS rfl rfl ?_
 refine wa_w 8 rfl (by kernel_rfl) (q_move rfl) (fun _ => hS) rfl rfl ?_
 refine wa_w 9 rfl (by kernel_rfl) (q_move rfl) (fun _ => hS) rfl rfl ?_
 refine wa_ixSw (j := i) 10 hS (fun _ h => h.1.rd (i := 0) rfl) rfl (by kernel_rfl) Try.underlying40 rfl (ixe (by omega)) (PQ.at_some (by omega)) rfl (fun b91 o91 p91 => ?_)
 refine wa_q 11 rfl (by kernel_rfl) (q_ldp p91 rfl rfl) hS rfl rfl ?_
 refine wa_ixw (j := i) 12 0 M hS rfl rfl (by kernel_rfl) Try.underlying40 rfl (ixe (by omega)) (by first | omega | (simp only [List.length_set]; omega)) rfl (fun b93 o93 p93 => ?_)
 refine wa_e0 13 rfl (by kernel_rfl) (e_str (u := (l1.getD j 0)) 0 M rfl rfl rfl p93 (by first | omega | (simp only [List.length_set]; omega)) rfl) rfl ?_
 intro _ w11 M
 simp only [sC0, sCS] at M
 refine ⟨nofun, ?_⟩
 refine wa_ixw1 (j := j) 14 0 M rfl rfl (by kernel_rfl) Try.underlying40 rfl (ixe (by omega)) (by first | omega | (simp only [List.length_set]; omega)) rfl nofun (fun b94 o94 p94 => ?_)
 refine wa_e0 15 rfl (by kernel_rfl) (e_str (u := (l1.getD i 0)) 0 M rfl rfl rfl p94 (by first | omega | (simp only [List.length_set]; omega)) rfl) rfl ?_
 intro _ w12 M
 simp only [sC0, sCS] at M
 refine ⟨nofun, ?_⟩
 refine wa_done (by kernel_rfl) ?_
 refine wc_seq ?_
 obtain ⟨l2, hl2⟩ : ∃ l_ : List Int, l_ = PQ.sw l1 i j := ⟨_, rfl⟩
 replace M : Mem w0 I0 I (row ERune (sv u) l2 :: Lt) w12 := by rw [hl2]; exact M
 obtain ⟨hP30, hlt3⟩ := hP2.swap (by omega) (hE.resolve_left (by omega)) (hE2.resolve_left (by omega))
 have hP3 : PQ.Pt xs l2 a b (i + 1) (j - 1) := by rw [hl2]; exact hP30
 refine wc_region <| wl_mv M rfl rfl <| wl_m M (q_add rfl rfl (IntWalk.i64_in _ (by omega))) rfl rfl ?_
 refine wl_as M rfl rfl <| wl_nil ?_
 refine wc_seq <| wc_region <| wl_mv M rfl rfl <| wl_m M (q_sub rfl rfl (IntWalk.i64_in _ (by omega))) rfl rfl ?_
 refine wl_as M rfl rfl <| wl_nil ?_
 refine wc_seq <| wc_block ?_
 refine wc_loop (α := Nat × Int × Nat × Int × (List Int)) [10, 11, 99, 100, 101, 102, 103, 104, 105, 106, 107, 108, 109, 110, 111, 112, 113, 114, 115, 116, 117, 118, 119, 120, 121, 122, 123, 124, 125, 126, 127, 128, 129, 130, 131, 132, 133, 134, 135, 136, 137, 138, 139, 140, 141, 142, 143, 144, 145, 146, 147, 148, 149, 150, 151, 152] (fun ((i4, i4I, j4, j4I, l_0_4) : Nat × Int × Nat × Int × (List Int)) => [(10, .int .i64 i4I), (11, .int .i64 j4I)])
   (fun ((i4, i4I, j4, j4I, l_0_4) : Nat × Int × Nat × Int × (List Int)) w' => (i4I = (i4 : Int)) ∧ (j4I = (j4 : Int)) ∧ (PQ.Pt xs l_0_4 a b i4 j4) ∧ Mem w0 I0 I (row ERune (sv u) l_0_4 :: Lt) w')
   (fun ((i4, i4I, j4, j4I, l_0_4) : Nat × Int × Nat × Int × (List Int)) => j4 + 1 - i4) (i + 1, iI + 1, j - 1, jI - 1, l2) ⟨rfl, rfl, trivial⟩ ?_ ?_
 ·refine ⟨(by omega), (by omega), hP3, ?_⟩
  exact M
 rintro ⟨i4, i4I, j4, j4I, l_0_4⟩ jj4 w13 ⟨hi4, hj4, hP4, M⟩
 have hP4l := hP4.po.len
 have hP4a := hP4.ai
 have hP4i := hP4.ij
 have hP4b := hP4.jb
 refine wc_block ?_
 refine wc_seq <| wc_block ?_
 refine wc_loop (α := Nat × Int) [10, 99, 100, 101, 102, 103, 104, 105, 106, 107, 108, 109, 110, 111, 112, 113, 114] (fun ((i6, i6I) : Nat × Int) => [(10, .int .i64 i6I)])
   (fun ((i6, i6I) : Nat × Int) w' => (i6I = (i6 : Int)) ∧ (PQ.Pt xs l_0_4 a b i6 j4) ∧ (i4 ≤ i6) ∧ Mem w0 I0 I (row ERune (sv u) l_0_4 :: Lt) w')
   (fun ((i6, i6I) : Nat × Int) => b - i6) (i4, i4I) ⟨rfl, trivial⟩ ?_ ?_
 ·refine ⟨(by omega), hP4, (Nat.le_refl _), ?_⟩
  exact M
 rintro ⟨i6, i6I⟩ jj6 w14 ⟨hi6, hP6, hi46, M⟩
 have hP6l := hP6.po.len
 have hP6a := hP6.ai
 have hP6i := hP6.ij
 have hP6b := hP6.jb
 refine wc_seq ?_
 refine wc_seq ?_
 refine wc_join (α := Unit) [99, 100, 101, 102, 103, 104, 105, 106, 107, 108, 109, 110, 111, 112] (fun _ => [(112, .bool ((decide (i6I ≤ j4I)) && (decide (l_0_4.getD i6 0 < l_0_4.getD a 0))))]) (fun _ w' => Mem w0 I0 I (row ERune (sv u) l_0_4 :: Lt) w') ?_ ?_
 ·refine wc_draws (fun w' => Mem w0 I0 I (row ERune (sv u) l_0_4 :: Lt) w' ∧ True) [] fol ?_
  replace M := M.drew
  have hS := (⟨M, trivial⟩ : _ ∧ _)
  refine wa_q 0 rfl (by kernel_rfl) (q_move rfl) hS rfl rfl ?_
  refine wa_q 1 rfl (by kernel_rfl) (q_move rfl) hS rfl rfl ?_
  refine wa_q 2 rfl (by kernel_rfl) (q_leq rfl rfl) hS rfl rfl ?_
  refine wa_q 3 rfl (by kernel_rfl) (q_move rfl) hS rfl rfl ?_
  rcases Bool.eq_false_or_eq_true (decide (i6I ≤ j4I)) with hg102 | hg102
  ·refine wa_q 4 rfl (by kernel_rfl) (q_guard 3 rfl rfl rfl hg102 (q_move rfl)) hS rfl rfl ?_
   refine wa_q 5 rfl (by kernel_rfl) (q_guard 3 rfl rfl rfl hg102 (q_move rfl)) hS rfl rfl ?_
   have hij9 : i6 ≤ j4 := by have := of_decide_eq_true hg102; omega
   refine wa_ixSG (j := i6) 3 rfl rfl rfl hg102 6 hS (fun _ h => h.1.rd (i := 0) rfl) rfl (by kernel_rfl) Try.underlying40 rfl (ixe (by omega)) (PQ.at_some (by omega)) rfl (fun b105 o105 p105 => ?_)
   refine wa_q 7 rfl (by kernel_rfl) (q_guard 3 rfl rfl rfl hg102 (q_ldp p105 rfl rfl)) hS rfl rfl ?_
   refine wa_q 8 rfl (by kernel_rfl) (q_guard 3 rfl rfl rfl hg102 (q_move rfl)) hS rfl rfl ?_
   refine wa_q 9 rfl (by kernel_rfl) (q_guard 3 rfl rfl rfl hg102 (q_move rfl)) hS rfl rfl ?_
   refine wa_ixSG (j := a) 3 rfl rfl rfl hg102 10 hS (fun _ h => h.1.rd (i := 0) rfl) rfl (by kernel_rfl) Try.underlying40 rfl (ixe (by omega)) (PQ.at_some (by omega)) rfl (fun b109 o109 p109 => ?_)
   refine wa_q 11 rfl (by kernel_rfl) (q_guard 3 rfl rfl rfl hg102 (q_ldp p109 rfl rfl)) hS rfl rfl ?_
   refine wa_e 12 rfl (by kernel_rfl) (e_guard 3 rfl rfl rfl hg102 (e_callC M (lessR_c (l_0_4.getD i6 0) (l_0_4.getD a 0) M.imm) Try.func103 rfl rfl)) rfl rfl ?_
   rintro _ w15 ⟨J111, hJ111, rfl, M⟩
   have hS := (⟨(M.less hJ111 hoI), trivial⟩ : _ ∧ _)
   refine ⟨fun _ => hS, ?_⟩
   replace M := M.less hJ111 hoI
   refine wa_q 13 rfl (by kernel_rfl) (q_pickT rfl hg102 rfl) hS rfl rfl ?_
   refine wa_done (by kernel_rfl) ?_
   exact ⟨(), M, ⟨(show some (Value.bool (decide (l_0_4.getD i6 0 < l_0_4.getD a 0))) = some (Value.bool ((decide (i6I ≤ j4I)) && (decide (l_0_4.getD i6 0 < l_0_4.getD a 0)))) from by first | (simp only [hg102, bL8]; done) | (simp_all; done) | (simp_all; omega)), trivial⟩, unw_take 14 rfl rfl⟩
  refine wa_q 4 rfl (by kernel_rfl) (q_off 3 rfl rfl rfl hg102) hS rfl rfl ?_
  refine wa_q 5 rfl (by kernel_rfl) (q_off 3 rfl rfl rfl hg102) hS rfl rfl ?_
  refine wa_q 6 rfl (by kernel_rfl) (q_off 3 rfl rfl rfl hg102) hS rfl rfl ?_
  refine wa_q 7 rfl (by kernel_rfl) (q_off 3 rfl rfl rfl hg102) hS rfl rfl ?_
  refine wa_q 8 rfl (by kernel_rfl) (q_off 3 rfl rfl rfl hg102) hS rfl rfl ?_
  refine wa_q 9 rfl (by kernel_rfl) (q_off 3 rfl rfl rfl hg102) hS rfl rfl ?_
  refine wa_q 10 rfl (by kernel_rfl) (q_off 3 rfl rfl rfl hg102) hS rfl rfl ?_
  refine wa_q 11 rfl (by kernel_rfl) (q_off 3 rfl rfl rfl hg102) hS rfl rfl ?_
  refine wa_q 12 rfl (by kernel_rfl) (q_off 3 rfl rfl rfl hg102) hS rfl rfl ?_
  refine wa_q 13 rfl (by kernel_rfl) (q_pickF rfl hg102 rfl) hS rfl rfl ?_
  refine wa_done (by kernel_rfl) ?_
  exact ⟨(), M, ⟨(show some (Value.bool false) = some (Value.bool ((decide (i6I ≤ j4I)) && (decide (l_0_4.getD i6 0 < l_0_4.getD a 0)))) from by first | (simp only [hg102, bL8]; done) | (simp_all; done) | (simp_all; omega)), trivial⟩, unw_take 14 rfl rfl⟩
 rintro _ jr13 w16 M
 refine wc_cond rfl (fun ht112 => ?_) (fun ht112 => ?_)
 ·have h112 : i6I ≤ j4I ∧ l_0_4.getD i6 0 < l_0_4.getD a 0 := by simpa using ht112
  have hlt := h112.2
  have hij : i6 ≤ j4 := by omega
  refine wc_skip <| wc_block <| wc_region <| wl_mv M rfl rfl <| wl_m M (q_add rfl rfl (IntWalk.i64_in _ (by omega))) rfl rfl ?_
  refine wl_as M rfl rfl <| wl_nil ?_
  refine ⟨(i6 + 1, i6I + 1), ?_, ⟨(by omega), (hP6.up hij hlt), (by omega), M⟩, ⟨rfl, trivial⟩, unw_look rfl (unw_hav rfl (unw_look rfl unw_base))⟩
  show b - (i6 + 1) < b - i6
  omega
 have hE7 : j4 < i6 ∨ l_0_4.getD a 0 ≤ l_0_4.getD i6 0 := by
   by_cases h : i6I ≤ j4I
   · right; rw [decide_eq_true h, Bool.true_and] at ht112; have := of_decide_eq_false ht112; omega
   · left; omega
 refine wc_exit rfl ?_
 refine wc_seq <| wc_block ?_
 refine wc_loop (α := Nat × Int) [11, 115, 116, 117, 118, 119, 120, 121, 122, 123, 124, 125, 126, 127, 128, 129, 130, 131] (fun ((j8, j8I) : Nat × Int) => [(11, .int .i64 j8I)])
   (fun ((j8, j8I) : Nat × Int) w' => (j8I = (j8 : Int)) ∧ (PQ.Pt xs l_0_4 a b i6 j8) ∧ (j8 < i6 ∨ l_0_4.getD a 0 ≤ l_0_4.getD i6 0) ∧ (j8 ≤ j4) ∧ Mem w0 I0 I (row ERune (sv u) l_0_4 :: Lt) w')
   (fun ((j8, j8I) : Nat × Int) => j8) (j4, j4I) ⟨rfl, trivial⟩ ?_ ?_
 ·refine ⟨(by omega), hP6, hE7, (Nat.le_refl _), ?_⟩
  exact M
 rintro ⟨j8, j8I⟩ jj8 w17 ⟨hj8, hP8, hE8, hj48, M⟩
 have hP8l := hP8.po.len
 have hP8a := hP8.ai
 have hP8i := hP8.ij
 have hP8b := hP8.jb
 refine wc_seq ?_
 refine wc_seq ?_
 refine wc_join (α := Unit) [115, 116, 117, 118, 119, 120, 121, 122, 123, 124, 125, 126, 127, 128, 129] (fun _ => [(129, .bool ((decide (i6I ≤ j8I)) && (!(decide (l_0_4.getD j8 0 < l_0_4.getD a 0)))))]) (fun _ w' => Mem w0 I0 I (row ERune (sv u) l_0_4 :: Lt) w') ?_ ?_
 ·refine wc_draws (fun w' => Mem w0 I0 I (row ERune (sv u) l_0_4 :: Lt) w' ∧ True) [] fol ?_
  replace M := M.drew
  have hS := (⟨M, trivial⟩ : _ ∧ _)
  refine wa_q 0 rfl (by kernel_rfl) (q_move rfl) hS rfl rfl ?_
  refine wa_q 1 rfl (by kernel_rfl) (q_move rfl) hS rfl rfl ?_
  refine wa_q 2 rfl (by kernel_rfl) (q_leq rfl rfl) hS rfl rfl ?_
  refine wa_q 3 rfl (by kernel_rfl) (q_move rfl) hS rfl rfl ?_
  rcases Bool.eq_false_or_eq_true (decide (i6I ≤ j8I)) with hg118 | hg118
  ·refine wa_q 4 rfl (by kernel_rfl) (q_guard 3 rfl rfl rfl hg118 (q_move rfl)) hS rfl rfl ?_
   refine wa_q 5 rfl (by kernel_rfl) (q_guard 3 rfl rfl rfl hg118 (q_move rfl)) hS rfl rfl ?_
   have hij9 : i6 ≤ j8 := by have := of_decide_eq_true hg118; omega
   refine wa_ixSG (j := j8) 3 rfl rfl rfl hg118 6 hS (fun _ h => h.1.rd (i := 0) rfl) rfl (by kernel_rfl) Try.underlying40 rfl (ixe (by omega)) (PQ.at_some (by omega)) rfl (fun b121 o121 p121 => ?_)
   refine wa_q 7 rfl (by kernel_rfl) (q_guard 3 rfl rfl rfl hg118 (q_ldp p121 rfl rfl)) hS rfl rfl ?_
   refine wa_q 8 rfl (by kernel_rfl) (q_guard 3 rfl rfl rfl hg118 (q_move rfl)) hS rfl rfl ?_
   refine wa_q 9 rfl (by kernel_rfl) (q_guard 3 rfl rfl rfl hg118 (q_move rfl)) hS rfl rfl ?_
   refine wa_ixSG (j := a) 3 rfl rfl rfl hg118 10 hS (fun _ h => h.1.rd (i := 0) rfl) rfl (by kernel_rfl) Try.underlying40 rfl (ixe (by omega)) (PQ.at_some (by omega)) rfl (fun b125 o125 p125 => ?_)
   refine wa_q 11 rfl (by kernel_rfl) (q_guard 3 rfl rfl rfl hg118 (q_ldp p125 rfl rfl)) hS rfl rfl ?_
   refine wa_e 12 rfl (by kernel_rfl) (e_guard 3 rfl rfl rfl hg118 (e_callC M (lessR_c (l_0_4.getD j8 0) (l_0_4.getD a 0) M.imm) Try.func103 rfl rfl)) rfl rfl ?_
   rintro _ w18 ⟨J127, hJ127, rfl, M⟩
   have hS := (⟨(M.less hJ127 hoI), trivial⟩ : _ ∧ _)
   refine ⟨fun _ => hS, ?_⟩
   replace M := M.less hJ127 hoI
   refine wa_q 13 rfl (by kernel_rfl) (q_guard 3 rfl rfl rfl hg118 (q_not rfl)) hS rfl rfl ?_
   refine wa_q 14 rfl (by kernel_rfl) (q_pickT rfl hg118 rfl) hS rfl rfl ?_
   refine wa_done (by kernel_rfl) ?_
   exact ⟨(), M, ⟨(show some (Value.bool (!(decide (l_0_4.getD j8 0 < l_0_4.getD a 0)))) = some (Value.bool ((decide (i6I ≤ j8I)) && (!(decide (l_0_4.getD j8 0 < l_0_4.getD a 0))))) from by first | (simp only [hg118, bL8]; done) | (simp_all; done) | (simp_all; omega)), trivial⟩, unw_take 15 rfl rfl⟩
  refine wa_q 4 rfl (by kernel_rfl) (q_off 3 rfl rfl rfl hg118) hS rfl rfl ?_
  refine wa_q 5 rfl (by kernel_rfl) (q_off 3 rfl rfl rfl hg118) hS rfl rfl ?_
  refine wa_q 6 rfl (by kernel_rfl) (q_off 3 rfl rfl rfl hg118) hS rfl rfl ?_
  refine wa_q 7 rfl (by kernel_rfl) (q_off 3 rfl rfl rfl hg118) hS rfl rfl ?_
  refine wa_q 8 rfl (by kernel_rfl) (q_off 3 rfl rfl rfl hg118) hS rfl rfl ?_
  refine wa_q 9 rfl (by kernel_rfl) (q_off 3 rfl rfl rfl hg118) hS rfl rfl ?_
  refine wa_q 10 rfl (by kernel_rfl) (q_off 3 rfl rfl rfl hg118) hS rfl rfl ?_
  refine wa_q 11 rfl (by kernel_rfl) (q_off 3 rfl rfl rfl hg118) hS rfl rfl ?_
  refine wa_q 12 rfl (by kernel_rfl) (q_off 3 rfl rfl rfl hg118) hS rfl rfl ?_
  refine wa_q 13 rfl (by kernel_rfl) (q_off 3 rfl rfl rfl hg118) hS rfl rfl ?_
  refine wa_q 14 rfl (by kernel_rfl) (q_pickF rfl hg118 rfl) hS rfl rfl ?_
  refine wa_done (by kernel_rfl) ?_
  exact ⟨(), M, ⟨(show some (Value.bool false) = some (Value.bool ((decide (i6I ≤ j8I)) && (!(decide (l_0_4.getD j8 0 < l_0_4.getD a 0))))) from by first | (simp only [hg118, bL8]; done) | (simp_all; done) | (simp_all; omega)), trivial⟩, unw_take 15 rfl rfl⟩
 rintro _ jr15 w19 M
 refine wc_cond rfl (fun ht129 => ?_) (fun ht129 => ?_)
 ·have h129 : i6I ≤ j8I ∧ l_0_4.getD a 0 ≤ l_0_4.getD j8 0 := by simpa using ht129
  have hge := h129.2
  have hij : i6 ≤ j8 := by omega
  refine wc_skip <| wc_block <| wc_region <| wl_mv M rfl rfl <| wl_m M (q_sub rfl rfl (IntWalk.i64_in _ (by omega))) rfl rfl ?_
  refine wl_as M rfl rfl <| wl_nil ?_
  refine ⟨(j8 - 1, j8I - 1), ?_, ⟨(by omega), (hP8.down hij hge), (hE8.imp (fun _ => by omega) id), (by omega), M⟩, ⟨rfl, trivial⟩, unw_look rfl (unw_hav rfl (unw_look rfl unw_base))⟩
  show (j8 - 1) < j8
  omega
 have hE9 : j8 < i6 ∨ l_0_4.getD j8 0 < l_0_4.getD a 0 := by
   by_cases h : i6I ≤ j8I
   · right; rw [decide_eq_true h, Bool.true_and] at ht129; exact of_decide_eq_true (by simpa using ht129)
   · left; omega
 refine wc_exit rfl ?_
 refine wc_seq ?_
 refine wc_seq <| wc_region <| wl_mv M rfl rfl <| wl_mv M rfl rfl <| wl_m M (q_gtr rfl rfl) rfl rfl <| wl_nil ?_
 refine wc_dec rfl (fun ht134 => ?_) (fun ht134 => ?_)
 ·refine wc_exit rfl ?_
  refine wc_seq ?_
  refine wc_draws (fun w' => Mem w0 I0 I (row ERune (sv u) l_0_4 :: Lt) w' ∧ True) [13, 15] fol ?_
  replace M := M.drew
  have hS := (⟨M, trivial⟩ : _ ∧ _)
  refine wa_q 0 rfl (by kernel_rfl) (q_move rfl) hS rfl rfl ?_
  refine wa_q 1 rfl (by kernel_rfl) (q_move rfl) hS rfl rfl ?_
  refine wa_w 2 rfl (by kernel_rfl) (q_move rfl) (fun _ => hS) rfl rfl ?_
  refine wa_w 3 rfl (by kernel_rfl) (q_move rfl) (fun _ => hS) rfl rfl ?_
  refine wa_q 4 rfl (by kernel_rfl) (q_move rfl) hS rfl rfl ?_
  refine wa_q 5 rfl (by kernel_rfl) (q_move rfl) hS rfl rfl ?_
  refine wa_ixS (j := a) 6 hS (fun _ h => h.1.rd (i := 0) rfl) rfl (by kernel_rfl) Try.underlying40 rfl (ixe (by omega)) (PQ.at_some (by omega)) rfl (fun b159 o159 p159 => ?_)
  refine wa_q 7 rfl (by kernel_rfl) (q_ldp p159 rfl rfl) hS rfl rfl ?_
  refine wa_w 8 rfl (by kernel_rfl) (q_move rfl) (fun _ => hS) rfl rfl ?_
  refine wa_w 9 rfl (by kernel_rfl) (q_move rfl) (fun _ => hS) rfl rfl ?_
  refine wa_ixSw (j := j8) 10 hS (fun _ h => h.1.rd (i := 0) rfl) rfl (by kernel_rfl) Try.underlying40 rfl (ixe (by omega)) (PQ.at_some (by omega)) rfl (fun b163 o163 p163 => ?_)
  refine wa_q 11 rfl (by kernel_rfl) (q_ldp p163 rfl rfl) hS rfl rfl ?_
  refine wa_ixw (j := j8) 12 0 M hS rfl rfl (by kernel_rfl) Try.underlying40 rfl (ixe (by omega)) (by first | omega | (simp only [List.length_set]; omega)) rfl (fun b165 o165 p165 => ?_)
  refine wa_e0 13 rfl (by kernel_rfl) (e_str (u := (l_0_4.getD a 0)) 0 M rfl rfl rfl p165 (by first | omega | (simp only [List.length_set]; omega)) rfl) rfl ?_
  intro _ w20 M
  simp only [sC0, sCS] at M
  refine ⟨nofun, ?_⟩
  refine wa_ixw1 (j := a) 14 0 M rfl rfl (by kernel_rfl) Try.underlying40 rfl (ixe (by omega)) (by first | omega | (simp only [List.length_set]; omega)) rfl nofun (fun b166 o166 p166 => ?_)
  refine wa_e0 15 rfl (by kernel_rfl) (e_str (u := (l_0_4.getD j8 0)) 0 M rfl rfl rfl p166 (by first | omega | (simp only [List.length_set]; omega)) rfl) rfl ?_
  intro _ w21 M
  simp only [sC0, sCS] at M
  refine ⟨nofun, ?_⟩
  refine wa_done (by kernel_rfl) ?_
  refine wc_seq <| wc_region <| wl_mv M rfl rfl <| wl_as M rfl rfl <| wl_as M rfl rfl <| wl_nil <| wc_ret ?_
  exact out2 rfl rfl rfl ⟨_, rfl, j8, false, _, by rw [hj8], hP8.fin (by omega), M⟩
 refine wc_skip ?_
 refine wc_seq ?_
 refine wc_draws (fun w' => Mem w0 I0 I (row ERune (sv u) l_0_4 :: Lt) w' ∧ True) [13, 15] fol ?_
 replace M := M.drew
 have hS := (⟨M, trivial⟩ : _ ∧ _)
 refine wa_q 0 rfl (by kernel_rfl) (q_move rfl) hS rfl rfl ?_
 refine wa_q 1 rfl (by kernel_rfl) (q_move rfl) hS rfl rfl ?_
 refine wa_w 2 rfl (by kernel_rfl) (q_move rfl) (fun _ => hS) rfl rfl ?_
 refine wa_w 3 rfl (by kernel_rfl) (q_move rfl) (fun _ => hS) rfl rfl ?_
 refine wa_q 4 rfl (by kernel_rfl) (q_move rfl) hS rfl rfl ?_
 refine wa_q 5 rfl (by kernel_rfl) (q_move rfl) hS rfl rfl ?_
 refine wa_ixS (j := j8) 6 hS (fun _ h => h.1.rd (i := 0) rfl) rfl (by kernel_rfl) Try.underlying40 rfl (ixe (by omega)) (PQ.at_some (by omega)) rfl (fun b141 o141 p141 => ?_)
 refine wa_q 7 rfl (by kernel_rfl) (q_ldp p141 rfl rfl) hS rfl rfl ?_
 refine wa_w 8 rfl (by kernel_rfl) (q_move rfl) (fun _ => hS) rfl rfl ?_
 refine wa_w 9 rfl (by kernel_rfl) (q_move rfl) (fun _ => hS) rfl rfl ?_
 refine wa_ixSw (j := i6) 10 hS (fun _ h => h.1.rd (i := 0) rfl) rfl (by kernel_rfl) Try.underlying40 rfl (ixe (by omega)) (PQ.at_some (by omega)) rfl (fun b145 o145 p145 => ?_)
 refine wa_q 11 rfl (by kernel_rfl) (q_ldp p145 rfl rfl) hS rfl rfl ?_
 refine wa_ixw (j := i6) 12 0 M hS rfl rfl (by kernel_rfl) Try.underlying40 rfl (ixe (by omega)) (by first | omega | (simp only [List.length_set]; omega)) rfl (fun b147 o147 p147 => ?_)
 refine wa_e0 13 rfl (by kernel_rfl) (e_str (u := (l_0_4.getD j8 0)) 0 M rfl rfl rfl p147 (by first | omega | (simp only [List.length_set]; omega)) rfl) rfl ?_
 intro _ w22 M
 simp only [sC0, sCS] at M
 refine ⟨nofun, ?_⟩
 refine wa_ixw1 (j := j8) 14 0 M rfl rfl (by kernel_rfl) Try.underlying40 rfl (ixe (by omega)) (by first | omega | (simp only [List.length_set]; omega)) rfl nofun (fun b148 o148 p148 => ?_)
 refine wa_e0 15 rfl (by kernel_rfl) (e_str (u := (l_0_4.getD i6 0)) 0 M rfl rfl rfl p148 (by first | omega | (simp only [List.length_set]; omega)) rfl) rfl ?_
 intro _ w23 M
 simp only [sC0, sCS] at M
 refine ⟨nofun, ?_⟩
 refine wa_done (by kernel_rfl) ?_
 refine wc_seq <| wc_region <| wl_mv M rfl rfl <| wl_m M (q_add rfl rfl (IntWalk.i64_in _ (by omega))) rfl rfl ?_
 refine wl_as M rfl rfl <| wl_nil <| wc_region <| wl_mv M rfl rfl <| wl_m M (q_sub rfl rfl (IntWalk.i64_in _ (by omega))) rfl rfl ?_
 refine wl_as M rfl rfl <| wl_nil ?_
 refine ⟨(i6 + 1, i6I + 1, j8 - 1, j8I - 1, (l_0_4.set i6 (l_0_4.getD j8 0)).set j8 (l_0_4.getD i6 0)), ?_, ⟨(by omega), (by omega), (hP8.swap (by omega) (hE8.resolve_left (by omega)) (hE9.resolve_left (by omega))).1, M⟩, ⟨rfl, rfl, trivial⟩, unw_look rfl (unw_hav rfl (unw_look rfl (unw_hav rfl (unw_look rfl (unw_hav rfl (unw_look rfl (unw_hav rfl (unw_look rfl unw_base))))))))⟩
 show (j8 - 1) + 1 - (i6 + 1) < j4 + 1 - i4
 have hlt9 := (hP8.swap (by omega) (hE8.resolve_left (by omega)) (hE9.resolve_left (by omega))).2
 omega
set_option maxRecDepth 4000 in
set_option maxHeartbeats 1000000 in
theorem partE_c {u : SV} {xs : List Int} {w0 w : World} {I0 I : Heap} {Lt : List Res} {a b : Nat} {aI bI : Int} (ea : aI = (a : Int)) (eb : bI = (b : Int)) (hb : b ≤ xs.length) (hl : xs.length ≤ 1099511627776) {v : Nat} {vI : Int} (ev : vI = (v : Int)) (hv1 : a ≤ v) (hv2 : v < b) (M : Mem w0 I0 I (row ERune (sv u) xs :: Lt) w) :
    Calls A 104 #[sv u, .int .i64 aI, .int .i64 bI, .int .i64 vI] w (fun e w' => ∃ v_, e = .returned v_ ∧ ∃ (m : Nat) (ys : List Int), v_ = .int .i64 (m : Int) ∧ (PQ.Pq xs ys a b m ∧ ys.getD a 0 = xs.getD v 0) ∧ Mem w0 I0 I (row ERune (sv u) ys :: Lt) w') := by
 have hoI := M.old
 refine enter Try.func104 rfl 84 Try.ntmps104 [_, _, _, _] rfl ?_
 refine wc_seq <| wc_region <| wl_as M rfl rfl <| wl_nil ?_
 refine wc_seq ?_
 refine wc_draws (fun w' => Mem w0 I0 I (row ERune (sv u) xs :: Lt) w' ∧ True) [13, 15] fol ?_
 replace M := M.drew
 have hS := (⟨M, trivial⟩ : _ ∧ _)
 refine wa_q 0 rfl (by kernel_rfl) (q_move rfl) hS rfl rfl ?_
 refine wa_q 1 rfl (by kernel_rfl) (q_move rfl) hS rfl rfl ?_
 refine wa_w 2 rfl (by kernel_rfl) (q_move rfl) (fun _ => hS) rfl rfl ?_
 refine wa_w 3 rfl (by kernel_rfl) (q_move rfl) (fun _ => hS) rfl rfl ?_
 refine wa_q 4 rfl (by kernel_rfl) (q_move rfl) hS rfl rfl ?_
 refine wa_q 5 rfl (by kernel_rfl) (q_move rfl) hS rfl rfl ?_
 refine wa_ixS (j := v) 6 hS (fun _ h => h.1.rd (i := 0) rfl) rfl (by kernel_rfl) Try.underlying40 rfl (ixe (by omega)) (PQ.at_some (by omega)) rfl (fun b17 o17 p17 => ?_)
 refine wa_q 7 rfl (by kernel_rfl) (q_ldp p17 rfl rfl) hS rfl rfl ?_
 refine wa_w 8 rfl (by kernel_rfl) (q_move rfl) (fun _ => hS) rfl rfl ?_
 refine wa_w 9 rfl (by kernel_rfl) (q_move rfl) (fun _ => hS) rfl rfl ?_
 refine wa_ixSw (j := a) 10 hS (fun _ h => h.1.rd (i := 0) rfl) rfl (by kernel_rfl) Try.underlying40 rfl (ixe (by omega)) (PQ.at_some (by omega)) rfl (fun b21 o21 p21 => ?_)
 refine wa_q 11 rfl (by kernel_rfl) (q_ldp p21 rfl rfl) hS rfl rfl ?_
 refine wa_ixw (j := a) 12 0 M hS rfl rfl (by kernel_rfl) Try.underlying40 rfl (ixe (by omega)) (by first | omega | (simp only [List.length_set]; omega)) rfl (fun b23 o23 p23 => ?_)
 refine wa_e0 13 rfl (by kernel_rfl) (e_str (u := (xs.getD v 0)) 0 M rfl rfl rfl p23 (by first | omega | (simp only [List.length_set]; omega)) rfl) rfl ?_
 intro _ w1 M
 simp only [sC0, sCS] at M
 refine ⟨nofun, ?_⟩
 refine wa_ixw1 (j := v) 14 0 M rfl rfl (by kernel_rfl) Try.underlying40 rfl (ixe (by omega)) (by first | omega | (simp only [List.length_set]; omega)) rfl nofun (fun b24 o24 p24 => ?_)
 refine wa_e0 15 rfl (by kernel_rfl) (e_str (u := (xs.getD a 0)) 0 M rfl rfl rfl p24 (by first | omega | (simp only [List.length_set]; omega)) rfl) rfl ?_
 intro _ w2 M
 simp only [sC0, sCS] at M
 refine ⟨nofun, ?_⟩
 refine wa_done (by kernel_rfl) ?_
 refine wc_seq ?_
 obtain ⟨l1, hl1⟩ : ∃ l_ : List Int, l_ = PQ.sw xs a v := ⟨_, rfl⟩
 replace M : Mem w0 I0 I (row ERune (sv u) l1 :: Lt) w2 := by rw [hl1]; exact M
 have hP0 : PQ.Pe xs l1 a b (a + 1) (b - 1) := by rw [hl1]; exact PQ.Pe.opn hv1 hv2 hb
 have hv0 : l1.getD a 0 = xs.getD v 0 := by rw [hl1, PQ.sw_at (by omega) (by omega)]; split <;> simp_all
 refine wc_region <| wl_mv M rfl rfl <| wl_m M (q_add rfl rfl (IntWalk.i64_in _ (by omega))) rfl rfl ?_
 refine wl_mv M rfl rfl <| wl_m M (q_sub rfl rfl (IntWalk.i64_in _ (by omega))) rfl rfl ?_
 refine wl_as M rfl rfl <| wl_as M rfl rfl <| wl_nil ?_
 refine wc_seq <| wc_block ?_
 refine wc_loop (α := Nat × Int × Nat × Int × (List Int)) [9, 10, 29, 30, 31, 32, 33, 34, 35, 36, 37, 38, 39, 40, 41, 42, 43, 44, 45, 46, 47, 48, 49, 50, 51, 52, 53, 54, 55, 56, 57, 58, 59, 60, 61, 62, 63, 64, 65, 66, 67, 68, 69, 70, 71, 72, 73, 74, 75, 76, 77, 78, 79, 80, 81, 82] (fun ((i4, i4I, j4, j4I, l_0_0) : Nat × Int × Nat × Int × (List Int)) => [(9, .int .i64 i4I), (10, .int .i64 j4I)])
   (fun ((i4, i4I, j4, j4I, l_0_0) : Nat × Int × Nat × Int × (List Int)) w' => (i4I = (i4 : Int)) ∧ (j4I = (j4 : Int)) ∧ (PQ.Pe xs l_0_0 a b i4 j4) ∧ (l_0_0.getD a 0 = xs.getD v 0) ∧ Mem w0 I0 I (row ERune (sv u) l_0_0 :: Lt) w')
   (fun ((i4, i4I, j4, j4I, l_0_0) : Nat × Int × Nat × Int × (List Int)) => j4 + 1 - i4) (a + 1, aI + 1, b - 1, bI - 1, l1) ⟨rfl, rfl, trivial⟩ ?_ ?_
 ·refine ⟨(by omega), (by omega), hP0, hv0, ?_⟩
  exact M
 rintro ⟨i4, i4I, j4, j4I, l_0_0⟩ jj0 w3 ⟨hi4, hj4, hP4, hv4, M⟩
 have hP4l := hP4.po.len
 have hP4a := hP4.ai
 have hP4i := hP4.ij
 have hP4b := hP4.jb
 refine wc_block ?_
 refine wc_seq <| wc_block ?_
 refine wc_loop (α := Nat × Int) [9, 29, 30, 31, 32, 33, 34, 35, 36, 37, 38, 39, 40, 41, 42, 43, 44, 45] (fun ((i6, i6I) : Nat × Int) => [(9, .int .i64 i6I)])
   (fun ((i6, i6I) : Nat × Int) w' => (i6I = (i6 : Int)) ∧ (PQ.Pe xs l_0_0 a b i6 j4) ∧ (i4 ≤ i6) ∧ Mem w0 I0 I (row ERune (sv u) l_0_0 :: Lt) w')
   (fun ((i6, i6I) : Nat × Int) => b - i6) (i4, i4I) ⟨rfl, trivial⟩ ?_ ?_
 ·refine ⟨(by omega), hP4, (Nat.le_refl _), ?_⟩
  exact M
 rintro ⟨i6, i6I⟩ jj2 w4 ⟨hi6, hP6, hi46, M⟩
 have hP6l := hP6.po.len
 have hP6a := hP6.ai
 have hP6i := hP6.ij
 have hP6b := hP6.jb
 refine wc_seq ?_
 refine wc_seq ?_
 refine wc_join (α := Unit) [29, 30, 31, 32, 33, 34, 35, 36, 37, 38, 39, 40, 41, 42, 43] (fun _ => [(43, .bool ((decide (i6I ≤ j4I)) && (!(decide (l_0_0.getD a 0 < l_0_0.getD i6 0)))))]) (fun _ w' => Mem w0 I0 I (row ERune (sv u) l_0_0 :: Lt) w') ?_ ?_
 ·refine wc_draws (fun w' => Mem w0 I0 I (row ERune (sv u) l_0_0 :: Lt) w' ∧ True) [] fol ?_
  replace M := M.drew
  have hS := (⟨M, trivial⟩ : _ ∧ _)
  refine wa_q 0 rfl (by kernel_rfl) (q_move rfl) hS rfl rfl ?_
  refine wa_q 1 rfl (by kernel_rfl) (q_move rfl) hS rfl rfl ?_
  refine wa_q 2 rfl (by kernel_rfl) (q_leq rfl rfl) hS rfl rfl ?_
  refine wa_q 3 rfl (by kernel_rfl) (q_move rfl) hS rfl rfl ?_
  rcases Bool.eq_false_or_eq_true (decide (i6I ≤ j4I)) with hg32 | hg32
  ·refine wa_q 4 rfl (by kernel_rfl) (q_guard 3 rfl rfl rfl hg32 (q_move rfl)) hS rfl rfl ?_
   refine wa_q 5 rfl (by kernel_rfl) (q_guard 3 rfl rfl rfl hg32 (q_move rfl)) hS rfl rfl ?_
   have hij9 : i6 ≤ j4 := by have := of_decide_eq_true hg32; omega
   refine wa_ixSG (j := a) 3 rfl rfl rfl hg32 6 hS (fun _ h => h.1.rd (i := 0) rfl) rfl (by kernel_rfl) Try.underlying40 rfl (ixe (by omega)) (PQ.at_some (by omega)) rfl (fun b35 o35 p35 => ?_)
   refine wa_q 7 rfl (by kernel_rfl) (q_guard 3 rfl rfl rfl hg32 (q_ldp p35 rfl rfl)) hS rfl rfl ?_
   refine wa_q 8 rfl (by kernel_rfl) (q_guard 3 rfl rfl rfl hg32 (q_move rfl)) hS rfl rfl ?_
   refine wa_q 9 rfl (by kernel_rfl) (q_guard 3 rfl rfl rfl hg32 (q_move rfl)) hS rfl rfl ?_
   refine wa_ixSG (j := i6) 3 rfl rfl rfl hg32 10 hS (fun _ h => h.1.rd (i := 0) rfl) rfl (by kernel_rfl) Try.underlying40 rfl (ixe (by omega)) (PQ.at_some (by omega)) rfl (fun b39 o39 p39 => ?_)
   refine wa_q 11 rfl (by kernel_rfl) (q_guard 3 rfl rfl rfl hg32 (q_ldp p39 rfl rfl)) hS rfl rfl ?_
   refine wa_e 12 rfl (by kernel_rfl) (e_guard 3 rfl rfl rfl hg32 (e_callC M (lessR_c (l_0_0.getD a 0) (l_0_0.getD i6 0) M.imm) Try.func103 rfl rfl)) rfl rfl ?_
   rintro _ w5 ⟨J41, hJ41, rfl, M⟩
   have hS := (⟨(M.less hJ41 hoI), trivial⟩ : _ ∧ _)
   refine ⟨fun _ => hS, ?_⟩
   replace M := M.less hJ41 hoI
   refine wa_q 13 rfl (by kernel_rfl) (q_guard 3 rfl rfl rfl hg32 (q_not rfl)) hS rfl rfl ?_
   refine wa_q 14 rfl (by kernel_rfl) (q_pickT rfl hg32 rfl) hS rfl rfl ?_
   refine wa_done (by kernel_rfl) ?_
   exact ⟨(), M, ⟨(show some (Value.bool (!(decide (l_0_0.getD a 0 < l_0_0.getD i6 0)))) = some (Value.bool ((decide (i6I ≤ j4I)) && (!(decide (l_0_0.getD a 0 < l_0_0.getD i6 0))))) from by first | (simp only [hg32, bL8]; done) | (simp_all; done) | (simp_all; omega)), trivial⟩, unw_take 15 rfl rfl⟩
  refine wa_q 4 rfl (by kernel_rfl) (q_off 3 rfl rfl rfl hg32) hS rfl rfl ?_
  refine wa_q 5 rfl (by kernel_rfl) (q_off 3 rfl rfl rfl hg32) hS rfl rfl ?_
  refine wa_q 6 rfl (by kernel_rfl) (q_off 3 rfl rfl rfl hg32) hS rfl rfl ?_
  refine wa_q 7 rfl (by kernel_rfl) (q_off 3 rfl rfl rfl hg32) hS rfl rfl ?_
  refine wa_q 8 rfl (by kernel_rfl) (q_off 3 rfl rfl rfl hg32) hS rfl rfl ?_
  refine wa_q 9 rfl (by kernel_rfl) (q_off 3 rfl rfl rfl hg32) hS rfl rfl ?_
  refine wa_q 10 rfl (by kernel_rfl) (q_off 3 rfl rfl rfl hg32) hS rfl rfl ?_
  refine wa_q 11 rfl (by kernel_rfl) (q_off 3 rfl rfl rfl hg32) hS rfl rfl ?_
  refine wa_q 12 rfl (by kernel_rfl) (q_off 3 rfl rfl rfl hg32) hS rfl rfl ?_
  refine wa_q 13 rfl (by kernel_rfl) (q_off 3 rfl rfl rfl hg32) hS rfl rfl ?_
  refine wa_q 14 rfl (by kernel_rfl) (q_pickF rfl hg32 rfl) hS rfl rfl ?_
  refine wa_done (by kernel_rfl) ?_
  exact ⟨(), M, ⟨(show some (Value.bool false) = some (Value.bool ((decide (i6I ≤ j4I)) && (!(decide (l_0_0.getD a 0 < l_0_0.getD i6 0))))) from by first | (simp only [hg32, bL8]; done) | (simp_all; done) | (simp_all; omega)), trivial⟩, unw_take 15 rfl rfl⟩
 rintro _ jr3 w6 M
 refine wc_cond rfl (fun ht43 => ?_) (fun ht43 => ?_)
 ·have h43 : i6I ≤ j4I ∧ l_0_0.getD i6 0 ≤ l_0_0.getD a 0 := by simpa using ht43
  have hge := h43.2
  have hij : i6 ≤ j4 := by omega
  refine wc_skip <| wc_block <| wc_region <| wl_mv M rfl rfl <| wl_m M (q_add rfl rfl (IntWalk.i64_in _ (by omega))) rfl rfl ?_
  refine wl_as M rfl rfl <| wl_nil ?_
  refine ⟨(i6 + 1, i6I + 1), ?_, ⟨(by omega), (hP6.up hij hge), (by omega), M⟩, ⟨rfl, trivial⟩, unw_look rfl (unw_hav rfl (unw_look rfl unw_base))⟩
  show b - (i6 + 1) < b - i6
  omega
 have hE7 : j4 < i6 ∨ l_0_0.getD a 0 < l_0_0.getD i6 0 := by
   by_cases h : i6I ≤ j4I
   · right; rw [decide_eq_true h, Bool.true_and] at ht43; exact of_decide_eq_true (by simpa using ht43)
   · left; omega
 refine wc_exit rfl ?_
 refine wc_seq <| wc_block ?_
 refine wc_loop (α := Nat × Int) [10, 46, 47, 48, 49, 50, 51, 52, 53, 54, 55, 56, 57, 58, 59, 60, 61] (fun ((j8, j8I) : Nat × Int) => [(10, .int .i64 j8I)])
   (fun ((j8, j8I) : Nat × Int) w' => (j8I = (j8 : Int)) ∧ (PQ.Pe xs l_0_0 a b i6 j8) ∧ (j8 < i6 ∨ l_0_0.getD a 0 < l_0_0.getD i6 0) ∧ (j8 ≤ j4) ∧ Mem w0 I0 I (row ERune (sv u) l_0_0 :: Lt) w')
   (fun ((j8, j8I) : Nat × Int) => j8) (j4, j4I) ⟨rfl, trivial⟩ ?_ ?_
 ·refine ⟨(by omega), hP6, hE7, (Nat.le_refl _), ?_⟩
  exact M
 rintro ⟨j8, j8I⟩ jj4 w7 ⟨hj8, hP8, hE8, hj48, M⟩
 have hP8l := hP8.po.len
 have hP8a := hP8.ai
 have hP8i := hP8.ij
 have hP8b := hP8.jb
 refine wc_seq ?_
 refine wc_seq ?_
 refine wc_join (α := Unit) [46, 47, 48, 49, 50, 51, 52, 53, 54, 55, 56, 57, 58, 59] (fun _ => [(59, .bool ((decide (i6I ≤ j8I)) && (decide (l_0_0.getD a 0 < l_0_0.getD j8 0))))]) (fun _ w' => Mem w0 I0 I (row ERune (sv u) l_0_0 :: Lt) w') ?_ ?_
 ·refine wc_draws (fun w' => Mem w0 I0 I (row ERune (sv u) l_0_0 :: Lt) w' ∧ True) [] fol ?_
  replace M := M.drew
  have hS := (⟨M, trivial⟩ : _ ∧ _)
  refine wa_q 0 rfl (by kernel_rfl) (q_move rfl) hS rfl rfl ?_
  refine wa_q 1 rfl (by kernel_rfl) (q_move rfl) hS rfl rfl ?_
  refine wa_q 2 rfl (by kernel_rfl) (q_leq rfl rfl) hS rfl rfl ?_
  refine wa_q 3 rfl (by kernel_rfl) (q_move rfl) hS rfl rfl ?_
  rcases Bool.eq_false_or_eq_true (decide (i6I ≤ j8I)) with hg49 | hg49
  ·refine wa_q 4 rfl (by kernel_rfl) (q_guard 3 rfl rfl rfl hg49 (q_move rfl)) hS rfl rfl ?_
   refine wa_q 5 rfl (by kernel_rfl) (q_guard 3 rfl rfl rfl hg49 (q_move rfl)) hS rfl rfl ?_
   have hij9 : i6 ≤ j8 := by have := of_decide_eq_true hg49; omega
   refine wa_ixSG (j := a) 3 rfl rfl rfl hg49 6 hS (fun _ h => h.1.rd (i := 0) rfl) rfl (by kernel_rfl) Try.underlying40 rfl (ixe (by omega)) (PQ.at_some (by omega)) rfl (fun b52 o52 p52 => ?_)
   refine wa_q 7 rfl (by kernel_rfl) (q_guard 3 rfl rfl rfl hg49 (q_ldp p52 rfl rfl)) hS rfl rfl ?_
   refine wa_q 8 rfl (by kernel_rfl) (q_guard 3 rfl rfl rfl hg49 (q_move rfl)) hS rfl rfl ?_
   refine wa_q 9 rfl (by kernel_rfl) (q_guard 3 rfl rfl rfl hg49 (q_move rfl)) hS rfl rfl ?_
   refine wa_ixSG (j := j8) 3 rfl rfl rfl hg49 10 hS (fun _ h => h.1.rd (i := 0) rfl) rfl (by kernel_rfl) Try.underlying40 rfl (ixe (by omega)) (PQ.at_some (by omega)) rfl (fun b56 o56 p56 => ?_)
   refine wa_q 11 rfl (by kernel_rfl) (q_guard 3 rfl rfl rfl hg49 (q_ldp p56 rfl rfl)) hS rfl rfl ?_
   refine wa_e 12 rfl (by kernel_rfl) (e_guard 3 rfl rfl rfl hg49 (e_callC M (lessR_c (l_0_0.getD a 0) (l_0_0.getD j8 0) M.imm) Try.func103 rfl rfl)) rfl rfl ?_
   rintro _ w8 ⟨J58, hJ58, rfl, M⟩
   have hS := (⟨(M.less hJ58 hoI), trivial⟩ : _ ∧ _)
   refine ⟨fun _ => hS, ?_⟩
   replace M := M.less hJ58 hoI
   refine wa_q 13 rfl (by kernel_rfl) (q_pickT rfl hg49 rfl) hS rfl rfl ?_
   refine wa_done (by kernel_rfl) ?_
   exact ⟨(), M, ⟨(show some (Value.bool (decide (l_0_0.getD a 0 < l_0_0.getD j8 0))) = some (Value.bool ((decide (i6I ≤ j8I)) && (decide (l_0_0.getD a 0 < l_0_0.getD j8 0)))) from by first | (simp only [hg49, bL8]; done) | (simp_all; done) | (simp_all; omega)), trivial⟩, unw_take 14 rfl rfl⟩
  refine wa_q 4 rfl (by kernel_rfl) (q_off 3 rfl rfl rfl hg49) hS rfl rfl ?_
  refine wa_q 5 rfl (by kernel_rfl) (q_off 3 rfl rfl rfl hg49) hS rfl rfl ?_
  refine wa_q 6 rfl (by kernel_rfl) (q_off 3 rfl rfl rfl hg49) hS rfl rfl ?_
  refine wa_q 7 rfl (by kernel_rfl) (q_off 3 rfl rfl rfl hg49) hS rfl rfl ?_
  refine wa_q 8 rfl (by kernel_rfl) (q_off 3 rfl rfl rfl hg49) hS rfl rfl ?_
  refine wa_q 9 rfl (by kernel_rfl) (q_off 3 rfl rfl rfl hg49) hS rfl rfl ?_
  refine wa_q 10 rfl (by kernel_rfl) (q_off 3 rfl rfl rfl hg49) hS rfl rfl ?_
  refine wa_q 11 rfl (by kernel_rfl) (q_off 3 rfl rfl rfl hg49) hS rfl rfl ?_
  refine wa_q 12 rfl (by kernel_rfl) (q_off 3 rfl rfl rfl hg49) hS rfl rfl ?_
  refine wa_q 13 rfl (by kernel_rfl) (q_pickF rfl hg49 rfl) hS rfl rfl ?_
  refine wa_done (by kernel_rfl) ?_
  exact ⟨(), M, ⟨(show some (Value.bool false) = some (Value.bool ((decide (i6I ≤ j8I)) && (decide (l_0_0.getD a 0 < l_0_0.getD j8 0)))) from by first | (simp only [hg49, bL8]; done) | (simp_all; done) | (simp_all; omega)), trivial⟩, unw_take 14 rfl rfl⟩
 rintro _ jr5 w9 M
 refine wc_cond rfl (fun ht59 => ?_) (fun ht59 => ?_)
 ·have h59 : i6I ≤ j8I ∧ l_0_0.getD a 0 < l_0_0.getD j8 0 := by simpa using ht59
  have hlt := h59.2
  have hij : i6 ≤ j8 := by omega
  refine wc_skip <| wc_block <| wc_region <| wl_mv M rfl rfl <| wl_m M (q_sub rfl rfl (IntWalk.i64_in _ (by omega))) rfl rfl ?_
  refine wl_as M rfl rfl <| wl_nil ?_
  refine ⟨(j8 - 1, j8I - 1), ?_, ⟨(by omega), (hP8.down hij hlt), (hE8.imp (fun _ => by omega) id), (by omega), M⟩, ⟨rfl, trivial⟩, unw_look rfl (unw_hav rfl (unw_look rfl unw_base))⟩
  show (j8 - 1) < j8
  omega
 have hE9 : j8 < i6 ∨ l_0_0.getD j8 0 ≤ l_0_0.getD a 0 := by
   by_cases h : i6I ≤ j8I
   · right; rw [decide_eq_true h, Bool.true_and] at ht59; have := of_decide_eq_false ht59; omega
   · left; omega
 refine wc_exit rfl ?_
 refine wc_seq ?_
 refine wc_seq <| wc_region <| wl_mv M rfl rfl <| wl_mv M rfl rfl <| wl_m M (q_gtr rfl rfl) rfl rfl <| wl_nil ?_
 refine wc_dec rfl (fun ht64 => ?_) (fun ht64 => ?_)
 ·refine wc_exit rfl ?_
  refine wc_seq <| wc_region <| wl_mv M rfl rfl <| wl_as M rfl rfl <| wl_nil <| wc_ret ?_
  exact out1 rfl rfl ⟨_, rfl, i6, _, by rw [hi6], ⟨hP8.fin (by omega), hv4⟩, M⟩
 refine wc_skip ?_
 refine wc_seq ?_
 refine wc_draws (fun w' => Mem w0 I0 I (row ERune (sv u) l_0_0 :: Lt) w' ∧ True) [13, 15] fol ?_
 replace M := M.drew
 have hS := (⟨M, trivial⟩ : _ ∧ _)
 refine wa_q 0 rfl (by kernel_rfl) (q_move rfl) hS rfl rfl ?_
 refine wa_q 1 rfl (by kernel_rfl) (q_move rfl) hS rfl rfl ?_
 refine wa_w 2 rfl (by kernel_rfl) (q_move rfl) (fun _ => hS) rfl rfl ?_
 refine wa_w 3 rfl (by kernel_rfl) (q_move rfl) (fun _ => hS) rfl rfl ?_
 refine wa_q 4 rfl (by kernel_rfl) (q_move rfl) hS rfl rfl ?_
 refine wa_q 5 rfl (by kernel_rfl) (q_move rfl) hS rfl rfl ?_
 refine wa_ixS (j := j8) 6 hS (fun _ h => h.1.rd (i := 0) rfl) rfl (by kernel_rfl) Try.underlying40 rfl (ixe (by omega)) (PQ.at_some (by omega)) rfl (fun b71 o71 p71 => ?_)
 refine wa_q 7 rfl (by kernel_rfl) (q_ldp p71 rfl rfl) hS rfl rfl ?_
 refine wa_w 8 rfl (by kernel_rfl) (q_move rfl) (fun _ => hS) rfl rfl ?_
 refine wa_w 9 rfl (by kernel_rfl) (q_move rfl) (fun _ => hS) rfl rfl ?_
 refine wa_ixSw (j := i6) 10 hS (fun _ h => h.1.rd (i := 0) rfl) rfl (by kernel_rfl) Try.underlying40 rfl (ixe (by omega)) (PQ.at_some (by omega)) rfl (fun b75 o75 p75 => ?_)
 refine wa_q 11 rfl (by kernel_rfl) (q_ldp p75 rfl rfl) hS rfl rfl ?_
 refine wa_ixw (j := i6) 12 0 M hS rfl rfl (by kernel_rfl) Try.underlying40 rfl (ixe (by omega)) (by first | omega | (simp only [List.length_set]; omega)) rfl (fun b77 o77 p77 => ?_)
 refine wa_e0 13 rfl (by kernel_rfl) (e_str (u := (l_0_0.getD j8 0)) 0 M rfl rfl rfl p77 (by first | omega | (simp only [List.length_set]; omega)) rfl) rfl ?_
 intro _ w10 M
 simp only [sC0, sCS] at M
 refine ⟨nofun, ?_⟩
 refine wa_ixw1 (j := j8) 14 0 M rfl rfl (by kernel_rfl) Try.underlying40 rfl (ixe (by omega)) (by first | omega | (simp only [List.length_set]; omega)) rfl nofun (fun b78 o78 p78 => ?_)
 refine wa_e0 15 rfl (by kernel_rfl) (e_str (u := (l_0_0.getD i6 0)) 0 M rfl rfl rfl p78 (by first | omega | (simp only [List.length_set]; omega)) rfl) rfl ?_
 intro _ w11 M
 simp only [sC0, sCS] at M
 refine ⟨nofun, ?_⟩
 refine wa_done (by kernel_rfl) ?_
 refine wc_seq <| wc_region <| wl_mv M rfl rfl <| wl_m M (q_add rfl rfl (IntWalk.i64_in _ (by omega))) rfl rfl ?_
 refine wl_as M rfl rfl <| wl_nil <| wc_region <| wl_mv M rfl rfl <| wl_m M (q_sub rfl rfl (IntWalk.i64_in _ (by omega))) rfl rfl ?_
 refine wl_as M rfl rfl <| wl_nil ?_
 refine ⟨(i6 + 1, i6I + 1, j8 - 1, j8I - 1, (l_0_0.set i6 (l_0_0.getD j8 0)).set j8 (l_0_0.getD i6 0)), ?_, ⟨(by omega), (by omega), (hP8.swap (by omega) (hE8.resolve_left (by omega)) (hE9.resolve_left (by omega))).1, (by have h_ := PQ.sw_at (l := l_0_0) (i := i6) (j := j8) (by omega) (by omega) a; rw [if_neg (by omega), if_neg (by omega)] at h_; exact h_.trans hv4), M⟩, ⟨rfl, rfl, trivial⟩, unw_look rfl (unw_hav rfl (unw_look rfl (unw_hav rfl (unw_look rfl (unw_hav rfl (unw_look rfl (unw_hav rfl (unw_look rfl unw_base))))))))⟩
 show (j8 - 1) + 1 - (i6 + 1) < j4 + 1 - i4
 have hlt9 := (hP8.swap (by omega) (hE8.resolve_left (by omega)) (hE9.resolve_left (by omega))).2
 omega
set_option maxRecDepth 4000 in
set_option maxHeartbeats 1000000 in
theorem revQ_c {u : SV} {xs : List Int} {w0 w : World} {I0 I : Heap} {Lt : List Res} {a b : Nat} {aI bI : Int} (ea : aI = (a : Int)) (eb : bI = (b : Int)) (hb : b ≤ xs.length) (hl : xs.length ≤ 1099511627776) (hab : a < b) (M : Mem w0 I0 I (row ERune (sv u) xs :: Lt) w) :
    Calls A 101 #[sv u, .int .i64 aI, .int .i64 bI] w fun e w' => ∃ v, e = .returned v ∧ ∃ ys : List Int, (PQ.PO xs ys a b) ∧ Mem w0 I0 I (row ERune (sv u) ys :: Lt) w' := by
 have hoI := M.old
 refine enter Try.func101 rfl 32 Try.ntmps101 [_, _, _] rfl ?_
 refine wc_seq <| wc_region <| wl_mv M rfl rfl <| wl_as M rfl rfl <| wl_nil ?_
 refine wc_seq <| wc_region <| wl_mv M rfl rfl <| wl_m M (q_sub rfl rfl (IntWalk.i64_in _ (by omega))) rfl rfl ?_
 refine wl_as M rfl rfl <| wl_nil <| wc_block ?_
 refine wc_loop (α := Nat × Int × Nat × Int × (List Int)) [6, 7, 11, 12, 13, 14, 15, 16, 17, 18, 19, 20, 21, 22, 23, 24, 25, 26, 27, 28, 29, 30, 31] (fun ((i, iI, j, jI, l_0_0) : Nat × Int × Nat × Int × (List Int)) => [(6, .int .i64 iI), (7, .int .i64 jI)])
   (fun ((i, iI, j, jI, l_0_0) : Nat × Int × Nat × Int × (List Int)) w' => (iI = (i : Int)) ∧ (jI = (j : Int)) ∧ (PQ.PO xs l_0_0 a b) ∧ (a ≤ i ∧ j < b) ∧ Mem w0 I0 I (row ERune (sv u) l_0_0 :: Lt) w')
   (fun ((i, iI, j, jI, l_0_0) : Nat × Int × Nat × Int × (List Int)) => j + 1 - i) (a, aI, b - 1, bI - 1, xs) ⟨rfl, rfl, trivial⟩ ?_ ?_
 ·refine ⟨ea, (by omega), (PQ.PO.refl _ _ _), (by omega), ?_⟩
  exact M
 rintro ⟨i, iI, j, jI, l_0_0⟩ jj0 w1 ⟨hiI, hjI, hP, hai, M⟩
 have hPl := hP.len
 refine wc_seq ?_
 refine wc_seq <| wc_region <| wl_mv M rfl rfl <| wl_mv M rfl rfl <| wl_m M (q_lss rfl rfl) rfl rfl <| wl_nil ?_
 refine wc_dec rfl (fun ht13 => ?_) (fun ht13 => ?_)
 ·have h13 : i < j := by omega
  refine wc_skip <| wc_block ?_
  refine wc_seq ?_
  refine wc_draws (fun w' => Mem w0 I0 I (row ERune (sv u) l_0_0 :: Lt) w' ∧ True) [13, 15] fol ?_
  replace M := M.drew
  have hS := (⟨M, trivial⟩ : _ ∧ _)
  refine wa_q 0 rfl (by kernel_rfl) (q_move rfl) hS rfl rfl ?_
  refine wa_q 1 rfl (by kernel_rfl) (q_move rfl) hS rfl rfl ?_
  refine wa_w 2 rfl (by kernel_rfl) (q_move rfl) (fun _ => hS) rfl rfl ?_
  refine wa_w 3 rfl (by kernel_rfl) (q_move rfl) (fun _ => hS) rfl rfl ?_
  refine wa_q 4 rfl (by kernel_rfl) (q_move rfl) hS rfl rfl ?_
  refine wa_q 5 rfl (by kernel_rfl) (q_move rfl) hS rfl rfl ?_
  refine wa_ixS (j := j) 6 hS (fun _ h => h.1.rd (i := 0) rfl) rfl (by kernel_rfl) Try.underlying40 rfl (ixe (by omega)) (PQ.at_some (by omega)) rfl (fun b20 o20 p20 => ?_)
  refine wa_q 7 rfl (by kernel_rfl) (q_ldp p20 rfl rfl) hS rfl rfl ?_
  refine wa_w 8 rfl (by kernel_rfl) (q_move rfl) (fun _ => hS) rfl rfl ?_
  refine wa_w 9 rfl (by kernel_rfl) (q_move rfl) (fun _ => hS) rfl rfl ?_
  refine wa_ixSw (j := i) 10 hS (fun _ h => h.1.rd (i := 0) rfl) rfl (by kernel_rfl) Try.underlying40 rfl (ixe (by omega)) (PQ.at_some (by omega)) rfl (fun b24 o24 p24 => ?_)
  refine wa_q 11 rfl (by kernel_rfl) (q_ldp p24 rfl rfl) hS rfl rfl ?_
  refine wa_ixw (j := i) 12 0 M hS rfl rfl (by kernel_rfl) Try.underlying40 rfl (ixe (by omega)) (by first | omega | (simp only [List.length_set]; omega)) rfl (fun b26 o26 p26 => ?_)
  refine wa_e0 13 rfl (by kernel_rfl) (e_str (u := (l_0_0.getD j 0)) 0 M rfl rfl rfl p26 (by first | omega | (simp only [List.length_set]; omega)) rfl) rfl ?_
  intro _ w2 M
  simp only [sC0, sCS] at M
  refine ⟨nofun, ?_⟩
  refine wa_ixw1 (j := j) 14 0 M rfl rfl (by kernel_rfl) Try.underlying40 rfl (ixe (by omega)) (by first | omega | (simp only [List.length_set]; omega)) rfl nofun (fun b27 o27 p27 => ?_)
  refine wa_e0 15 rfl (by kernel_rfl) (e_str (u := (l_0_0.getD i 0)) 0 M rfl rfl rfl p27 (by first | omega | (simp only [List.length_set]; omega)) rfl) rfl ?_
  intro _ w3 M
  simp only [sC0, sCS] at M
  refine ⟨nofun, ?_⟩
  refine wa_done (by kernel_rfl) ?_
  refine wc_seq <| wc_region <| wl_mv M rfl rfl <| wl_m M (q_add rfl rfl (IntWalk.i64_in _ (by omega))) rfl rfl ?_
  refine wl_as M rfl rfl <| wl_nil <| wc_region <| wl_mv M rfl rfl <| wl_m M (q_sub rfl rfl (IntWalk.i64_in _ (by omega))) rfl rfl ?_
  refine wl_as M rfl rfl <| wl_nil ?_
  refine ⟨(i + 1, iI + 1, j - 1, jI - 1, (l_0_0.set i (l_0_0.getD j 0)).set j (l_0_0.getD i 0)), ?_, ⟨(by omega), (by omega), (hP.sw (by omega) (by omega) (by omega) (by omega) (by omega) (by omega)), (by omega), M⟩, ⟨rfl, rfl, trivial⟩, unw_look rfl unw_base⟩
  show (j - 1) + 1 - (i + 1) < j + 1 - i
  omega
 refine wc_exit rfl ?_
 exact out0 rfl ⟨_, rfl, _, hP, M⟩
end Go.Proofs.Ytfepjcmjkaolgaa.G
