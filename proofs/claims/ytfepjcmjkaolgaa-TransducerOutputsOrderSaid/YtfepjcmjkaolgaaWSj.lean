/- Walks of the program's functions. -/
import Derived.Test.YtfepjcmjkaolgaaGAw3
import Derived.Test.YtfepjcmjkaolgaaWSc
import Derived.Test.YtfepjcmjkaolgaaWSi
import Derived.Test.YtfepjcmjkaolgaaWOf
import Derived.Test.YtfepjcmjkaolgaaWSb
import Derived.Test.YtfepjcmjkaolgaaWE
import Derived.Test.YtfepjcmjkaolgaaWTc
import Derived.Test.YtfepjcmjkaolgaaWRa
set_option linter.all false
namespace Go.Proofs.Ytfepjcmjkaolgaa.G
open Go Go.RowKit
set_option maxRecDepth 4000 in
set_option maxHeartbeats 1000000 in
theorem awake3_c {I : Heap} {w : World} (hI : hle I (hp w)) : Calls A 12 #[] w (Ret w I fun r _ => r = .bool true) := by
 have M := Mem.start hI
 refine enter Try.func12 rfl 76 Try.ntmps12 [] rfl ?_
 refine wc_seq <| wc_region <| wl_as M rfl rfl <| wl_nil ?_
 refine wc_seq <| wc_region <| wl_e (e_bsI (E := EInt) (xs := [1]) M (bs_22_1 _) ⟨⟨rfl, rfl⟩, trivial⟩ rfl rfl (by decide)) rfl rfl ?_
 rintro _ w1 ⟨u7, J7, rfl, hJ7, R7, M⟩
 have hoJ7 := M.old
 refine wl_m M (q_build (bd_50_0_1_2_3 _ _ _ _) ⟨⟨rfl, rfl⟩, ⟨rfl, rfl⟩, ⟨rfl, rfl⟩, ⟨rfl, rfl⟩, trivial⟩) rfl rfl <| wl_m M (q_build (bd_50_0_1_2_3 _ _ _ _) ⟨⟨rfl, rfl⟩, ⟨rfl, rfl⟩, ⟨rfl, rfl⟩, ⟨rfl, rfl⟩, trivial⟩) rfl rfl <| wl_e (e_bsI (E := EArc) (xs := [(Arc.mk 0 1 97 98), (Arc.mk 1 1 97 0)]) M (bs_23_2 _ _ _ _ _ _ _ _) ⟨⟨rfl, rfl⟩, ⟨rfl, rfl⟩, trivial⟩ rfl rfl (by decide)) rfl rfl ?_
 rintro _ w2 ⟨u10, J10, rfl, hJ10, R10, M⟩
 have hoJ10 := M.old
 refine wl_m M (q_build (bd_25_0_2_3 _ _ _) ⟨⟨rfl, rfl⟩, ⟨rfl, rfl⟩, ⟨rfl, rfl⟩, trivial⟩) rfl rfl <| wl_e (e_alloc M z25) rfl rfl ?_
 rintro _ w3 ⟨b1, rfl, M⟩
 refine wl_e0 (e_stW 0 M rfl rfl rfl sz25 rfl rfl) rfl ?_
 intro _ w4 M
 try simp only [sC0, sCS] at M
 refine wl_nil ?_
 refine wc_seq <| wc_region <| wl_m M (q_ldbA 0 Try.underlying25 rfl sz25 rfl rfl rfl rfl) rfl rfl <| wl_e (e_callC M (outputs_c aw3 ⟨#[97, 97]⟩ 3 (by decide) (fun _ => by decide) (alph_few (by decide)) M.imm ⟨_, _, rfl, (R7.mono hJ10), R10⟩) Try.func14 rfl rfl) rfl rfl ?_
 rintro _ w5 ⟨J14, hJ14, ⟨u14, out, e, rfl, R14, ho⟩, M⟩
 obtain ⟨rfl, rfl⟩ := aw3_out ho
 have hoJ14 := M.old
 refine wl_mv M rfl rfl <| wl_m M (q_ext rfl rfl) rfl rfl <| wl_m M (q_ext rfl rfl) rfl rfl <| wl_as M rfl rfl <| wl_as M rfl rfl <| wl_nil ?_
 refine wc_seq <| wc_region <| wl_m M (q_ldbA 0 Try.underlying25 rfl sz25 rfl rfl rfl rfl) rfl rfl <| wl_e (e_callC M (shortest_c aw3 (fun _ => by decide) (fun _ => alph_few (by decide)) aw3_h M.imm ⟨_, _, rfl, ((R7.mono hJ10).mono hJ14), (R10.mono hJ14)⟩) Try.func13 rfl rfl) rfl rfl ?_
 rintro _ w6 ⟨J19, hJ19, ⟨x, y, b, rfl, hs⟩, M⟩
 obtain ⟨rfl, rfl, rfl⟩ := aw3_sht hs
 have hoJ19 := M.old
 refine wl_mv M rfl rfl <| wl_m M (q_ext rfl rfl) rfl rfl <| wl_m M (q_ext rfl rfl) rfl rfl <| wl_m M (q_ext rfl rfl) rfl rfl <| wl_as M rfl rfl <| wl_as M rfl rfl <| wl_as M rfl rfl <| wl_nil ?_
 refine wc_seq ?_
 refine wc_join (α := Heap) [0, 23, 24, 25, 26, 27, 28, 29, 30, 31, 32, 33, 34, 35, 36, 37, 38, 39, 40, 41, 42, 43, 44, 45, 46, 47, 48, 49, 50, 51, 52, 53, 54, 55, 56, 57, 58, 59, 60, 61, 62, 63, 64, 65, 66, 67, 68, 69, 70, 71, 72, 73, 74, 75] (fun ((I6) : Heap) => [(0, .bool true)]) (fun ((I6) : Heap) w' => hle J19 I6 ∧ Mem w I I6 (box b1 25 [.int .i64 2, .int .i64 0, sv u7, sv u10] :: []) w') ?_ ?_
 ·refine wc_draws (fun w' => Mem w I J19 (box b1 25 [.int .i64 2, .int .i64 0, sv u7, sv u10] :: []) w' ∧ True) [] fol ?_
  replace M := M.drew
  have hS := (⟨M, trivial⟩ : _ ∧ _)
  refine wa_q 0 rfl (by kernel_rfl) ((q_ldbA 0 Try.underlying25 rfl sz25 rfl rfl rfl rfl).mono fun _ h => h.1) hS rfl rfl ?_
  refine wa_e 1 rfl (by kernel_rfl) (e_callC M (bool_to aw3_valid (valid_c aw3 M.imm ⟨_, _, rfl, (((R7.mono hJ10).mono hJ14).mono hJ19), ((R10.mono hJ14).mono hJ19)⟩)) Try.func11 rfl rfl) rfl rfl ?_
  rintro _ w7 ⟨J24, hJ24, rfl, M⟩
  have hS := (⟨(M.less hJ24 hoJ19), trivial⟩ : _ ∧ _)
  refine ⟨fun _ => hS, ?_⟩
  replace M := M.less hJ24 hoJ19
  refine wa_q 2 rfl (by kernel_rfl) (q_move rfl) hS rfl rfl ?_
  refine wa_q 3 rfl (by kernel_rfl) ((q_guard 2 rfl rfl rfl rfl (q_ldbA 0 Try.underlying25 rfl sz25 rfl rfl rfl rfl)).mono fun _ h => h.1) hS rfl rfl ?_
  refine wa_e 4 rfl (by kernel_rfl) (e_guard 2 rfl rfl rfl rfl (e_callC M (bool_to aw3_r1 (relates_c aw3 ⟨#[97, 97]⟩ ⟨#[98]⟩ (by decide) (by decide) (by decide) M.imm ⟨_, _, rfl, (((R7.mono hJ10).mono hJ14).mono hJ19), ((R10.mono hJ14).mono hJ19)⟩)) Try.func15 rfl rfl)) rfl rfl ?_
  rintro _ w8 ⟨J27, hJ27, rfl, M⟩
  have hS := (⟨(M.less hJ27 hoJ19), trivial⟩ : _ ∧ _)
  refine ⟨fun _ => hS, ?_⟩
  replace M := M.less hJ27 hoJ19
  refine wa_q 5 rfl (by kernel_rfl) (q_pickT rfl rfl rfl) hS rfl rfl ?_
  refine wa_q 6 rfl (by kernel_rfl) (q_move rfl) hS rfl rfl ?_
  refine wa_q 7 rfl (by kernel_rfl) ((q_guard 6 rfl rfl rfl rfl (q_ldbA 0 Try.underlying25 rfl sz25 rfl rfl rfl rfl)).mono fun _ h => h.1) hS rfl rfl ?_
  refine wa_e 8 rfl (by kernel_rfl) (e_guard 6 rfl rfl rfl rfl (e_callC M (bool_to aw3_r2 (relates_c aw3 ⟨#[97, 97]⟩ ⟨#[98, 98]⟩ (by decide) (by decide) (by decide) M.imm ⟨_, _, rfl, (((R7.mono hJ10).mono hJ14).mono hJ19), ((R10.mono hJ14).mono hJ19)⟩)) Try.func15 rfl rfl)) rfl rfl ?_
  rintro _ w9 ⟨J31, hJ31, rfl, M⟩
  have hS := (⟨(M.less hJ31 hoJ19), trivial⟩ : _ ∧ _)
  refine ⟨fun _ => hS, ?_⟩
  replace M := M.less hJ31 hoJ19
  refine wa_q 9 rfl (by kernel_rfl) (q_guard 6 rfl rfl rfl rfl (q_not rfl)) hS rfl rfl ?_
  refine wa_q 10 rfl (by kernel_rfl) (q_pickT rfl rfl rfl) hS rfl rfl ?_
  refine wa_q 11 rfl (by kernel_rfl) (q_move rfl) hS rfl rfl ?_
  refine wa_q 12 rfl (by kernel_rfl) (q_guard 11 rfl rfl rfl rfl (q_move rfl)) hS rfl rfl ?_
  refine wa_q 13 rfl (by kernel_rfl) (q_guard 11 rfl rfl rfl rfl (q_eql rfl rfl)) hS rfl rfl ?_
  refine wa_q 14 rfl (by kernel_rfl) (q_pickT rfl rfl rfl) hS rfl rfl ?_
  refine wa_q 15 rfl (by kernel_rfl) (q_move rfl) hS rfl rfl ?_
  refine wa_q 16 rfl (by kernel_rfl) (q_guard 15 rfl rfl rfl rfl (q_move rfl)) hS rfl rfl ?_
  refine wa_e 17 rfl (by kernel_rfl) (e_guard 15 rfl rfl rfl rfl (e_bsI (E := EStr) (xs := [⟨#[98]⟩]) M (bs_30_1 _) ⟨⟨rfl, rfl⟩, trivial⟩ rfl rfl (by decide))) rfl rfl ?_
  rintro _ w10 ⟨u40, J40, rfl, hJ40, R40, M⟩
  have hoJ40 := M.old
  have hS := (⟨(M.less hJ40 hoJ19), trivial⟩ : _ ∧ _)
  refine ⟨fun _ => hS, ?_⟩
  refine wa_e 18 rfl (by kernel_rfl) (e_guard 15 rfl rfl rfl rfl (e_callC M (bool_to (decide_eq_true rfl) (texts3_c M.imm ((R14.mono hJ19).mono hJ40) R40)) Try.func23 rfl rfl)) rfl rfl ?_
  rintro _ w11 ⟨J41, hJ41, rfl, M⟩
  have hS := (⟨(M.less (hle.trans hJ40 hJ41) hoJ19), trivial⟩ : _ ∧ _)
  refine ⟨fun _ => hS, ?_⟩
  replace M := M.less hJ41 hoJ40
  refine wa_q 19 rfl (by kernel_rfl) (q_pickT rfl rfl rfl) hS rfl rfl ?_
  refine wa_q 20 rfl (by kernel_rfl) (q_move rfl) hS rfl rfl ?_
  refine wa_q 21 rfl (by kernel_rfl) (q_guard 20 rfl rfl rfl rfl (q_move rfl)) hS rfl rfl ?_
  refine wa_q 22 rfl (by kernel_rfl) (q_guard 20 rfl rfl rfl rfl (q_eqlS rfl rfl)) hS rfl rfl ?_
  refine wa_q 23 rfl (by kernel_rfl) (q_pickT rfl rfl rfl) hS rfl rfl ?_
  refine wa_q 24 rfl (by kernel_rfl) (q_move rfl) hS rfl rfl ?_
  refine wa_q 25 rfl (by kernel_rfl) (q_guard 24 rfl rfl rfl rfl (q_move rfl)) hS rfl rfl ?_
  refine wa_q 26 rfl (by kernel_rfl) (q_guard 24 rfl rfl rfl rfl (q_eqlS rfl rfl)) hS rfl rfl ?_
  refine wa_q 27 rfl (by kernel_rfl) (q_pickT rfl rfl rfl) hS rfl rfl ?_
  refine wa_q 28 rfl (by kernel_rfl) (q_move rfl) hS rfl rfl ?_
  refine wa_q 29 rfl (by kernel_rfl) (q_guard 28 rfl rfl rfl rfl (q_move rfl)) hS rfl rfl ?_
  refine wa_q 30 rfl (by kernel_rfl) (q_pickT rfl rfl rfl) hS rfl rfl ?_
  refine wa_q 31 rfl (by kernel_rfl) (q_move rfl) hS rfl rfl ?_
  refine wa_q 32 rfl (by kernel_rfl) ((q_guard 31 rfl rfl rfl rfl (q_ldbA 0 Try.underlying25 rfl sz25 rfl rfl rfl rfl)).mono fun _ h => h.1) hS rfl rfl ?_
  refine wa_e 33 rfl (by kernel_rfl) (e_guard 31 rfl rfl rfl rfl (e_callC M (bool_to aw3_ne (emptyT_c aw3 M.imm ⟨_, _, rfl, ((((R7.mono hJ10).mono hJ14).mono hJ19).mono hJ40), (((R10.mono hJ14).mono hJ19).mono hJ40)⟩)) Try.func17 rfl rfl)) rfl rfl ?_
  rintro _ w12 ⟨J56, hJ56, rfl, M⟩
  have hS := (⟨(M.less (hle.trans hJ40 hJ56) hoJ19), trivial⟩ : _ ∧ _)
  refine ⟨fun _ => hS, ?_⟩
  replace M := M.less hJ56 hoJ40
  refine wa_q 34 rfl (by kernel_rfl) (q_guard 31 rfl rfl rfl rfl (q_not rfl)) hS rfl rfl ?_
  refine wa_q 35 rfl (by kernel_rfl) (q_pickT rfl rfl rfl) hS rfl rfl ?_
  refine wa_q 36 rfl (by kernel_rfl) (q_move rfl) hS rfl rfl ?_
  refine wa_q 37 rfl (by kernel_rfl) ((q_guard 36 rfl rfl rfl rfl (q_ldbA 0 Try.underlying25 rfl sz25 rfl rfl rfl rfl)).mono fun _ h => h.1) hS rfl rfl ?_
  refine wa_e 38 rfl (by kernel_rfl) (e_guard 36 rfl rfl rfl rfl (e_callC M (bool_to aw3_seq (sequentialT_c aw3 M.imm ⟨_, _, rfl, ((((R7.mono hJ10).mono hJ14).mono hJ19).mono hJ40), (((R10.mono hJ14).mono hJ19).mono hJ40)⟩)) Try.func16 rfl rfl)) rfl rfl ?_
  rintro _ w13 ⟨J61, hJ61, rfl, M⟩
  have hS := (⟨(M.less (hle.trans hJ40 hJ61) hoJ19), trivial⟩ : _ ∧ _)
  refine ⟨fun _ => hS, ?_⟩
  replace M := M.less hJ61 hoJ40
  refine wa_q 39 rfl (by kernel_rfl) (q_pickT rfl rfl rfl) hS rfl rfl ?_
  refine wa_q 40 rfl (by kernel_rfl) (q_move rfl) hS rfl rfl ?_
  refine wa_q 41 rfl (by kernel_rfl) ((q_guard 40 rfl rfl rfl rfl (q_ldbA 0 Try.underlying25 rfl sz25 rfl rfl rfl rfl)).mono fun _ h => h.1) hS rfl rfl ?_
  refine wa_es [42, 44] (by kernel_rfl) (by decide) ⟨?_, ?_, trivial⟩
  ·refine one_e 42 rfl (e_guard 40 rfl rfl rfl rfl (e_bsI (E := EInt) (xs := [0]) M (bs_22_1 _) ⟨⟨rfl, rfl⟩, trivial⟩ rfl rfl (by decide))) rfl rfl ?_
   rintro _ w14 ⟨u65, J65, rfl, hJ65, R65, M⟩
   have hoJ65 := M.old
   have hS := (⟨(M.less (hle.trans hJ40 hJ65) hoJ19), trivial⟩ : _ ∧ _)
   refine ⟨fun _ => hS, ?_⟩
   refine wa_es [43, 44] (by kernel_rfl) (by decide) ⟨?_, ?_, trivial⟩
   ·refine one_e 43 rfl (e_guard 40 rfl rfl rfl rfl (e_callC M (stepT_c aw3 [0] 97 (by decide) M.imm ⟨_, _, rfl, (((((R7.mono hJ10).mono hJ14).mono hJ19).mono hJ40).mono hJ65), ((((R10.mono hJ14).mono hJ19).mono hJ40).mono hJ65)⟩ R65) Try.func20 rfl rfl)) rfl rfl ?_
    rintro v66 w15 ⟨J66, hJ66, ⟨out, R66, _, hs⟩, M⟩
    obtain ⟨m, b1_, b2_, ha, h1, _, h3, rfl⟩ := hs aw3_valid
    rw [aw3_step ha h1 (h3 (by decide))] at R66
    obtain ⟨u66, rfl⟩ := rdSl_slice R66
    have hoJ66 := M.old
    have hS := (⟨(M.less (hle.trans (hle.trans hJ40 hJ65) hJ66) hoJ19), trivial⟩ : _ ∧ _)
    refine ⟨fun _ => hS, ?_⟩
    refine wa_e 44 rfl (by kernel_rfl) (e_guard 40 rfl rfl rfl rfl (e_bsI (E := EInt) (xs := [1]) M (bs_22_1 _) ⟨⟨rfl, rfl⟩, trivial⟩ rfl rfl (by decide))) rfl rfl ?_
    rintro _ w16 ⟨u67, J67, rfl, hJ67, R67, M⟩
    have hoJ67 := M.old
    have hS := (⟨(M.less (hle.trans (hle.trans (hle.trans hJ40 hJ65) hJ66) hJ67) hoJ19), trivial⟩ : _ ∧ _)
    refine ⟨fun _ => hS, ?_⟩
    refine wa_e 45 rfl (by kernel_rfl) (e_guard 40 rfl rfl rfl rfl (e_callC M (bool_to (decide_eq_true rfl) (ints_c M.imm (R66.mono hJ67) R67)) Try.func25 rfl rfl)) rfl rfl ?_
    rintro _ w17 ⟨J68, hJ68, rfl, M⟩
    have hS := (⟨(M.less (hle.trans (hle.trans (hle.trans (hle.trans hJ40 hJ65) hJ66) hJ67) hJ68) hoJ19), trivial⟩ : _ ∧ _)
    refine ⟨fun _ => hS, ?_⟩
    replace M := M.less hJ68 hoJ67
    refine wa_q 46 rfl (by kernel_rfl) (q_pickT rfl rfl rfl) hS rfl rfl ?_
    refine wa_q 47 rfl (by kernel_rfl) (q_move rfl) hS rfl rfl ?_
    refine wa_q 48 rfl (by kernel_rfl) ((q_guard 47 rfl rfl rfl rfl (q_ldbA 0 Try.underlying25 rfl sz25 rfl rfl rfl rfl)).mono fun _ h => h.1) hS rfl rfl ?_
    refine wa_q 50 rfl (by kernel_rfl) ((q_guard 47 rfl rfl rfl rfl (q_ldbA 0 Try.underlying25 rfl sz25 rfl rfl rfl rfl)).mono fun _ h => h.1) hS rfl rfl ?_
    refine wa_e 49 rfl (by kernel_rfl) (e_guard 47 rfl rfl rfl rfl (e_callC M (trimP_c aw3 M.imm ⟨_, _, rfl, (((((((R7.mono hJ10).mono hJ14).mono hJ19).mono hJ40).mono hJ65).mono hJ66).mono hJ67), ((((((R10.mono hJ14).mono hJ19).mono hJ40).mono hJ65).mono hJ66).mono hJ67)⟩) Try.func19 rfl rfl)) rfl rfl ?_
    rintro _ w18 ⟨J72, hJ72, Rt72, M⟩
    rw [aw3_trim] at Rt72
    obtain ⟨fu72, au72, rfl, Rf72, Ra72⟩ := Rt72
    have hoJ72 := M.old
    have hS := (⟨(M.less (hle.trans (hle.trans (hle.trans (hle.trans hJ40 hJ65) hJ66) hJ67) hJ72) hoJ19), trivial⟩ : _ ∧ _)
    refine ⟨fun _ => hS, ?_⟩
    refine wa_e 51 rfl (by kernel_rfl) (e_guard 47 rfl rfl rfl rfl (e_callC M (bool_to (decide_eq_true rfl) (same_c aw3 aw3 M.imm ⟨_, _, rfl, Rf72, Ra72⟩ ⟨_, _, rfl, ((((((((R7.mono hJ10).mono hJ14).mono hJ19).mono hJ40).mono hJ65).mono hJ66).mono hJ67).mono hJ72), (((((((R10.mono hJ14).mono hJ19).mono hJ40).mono hJ65).mono hJ66).mono hJ67).mono hJ72)⟩)) Try.func18 rfl rfl)) rfl rfl ?_
    rintro _ w19 ⟨J74, hJ74, rfl, M⟩
    have hS := (⟨(M.less (hle.trans (hle.trans (hle.trans (hle.trans (hle.trans hJ40 hJ65) hJ66) hJ67) hJ72) hJ74) hoJ19), trivial⟩ : _ ∧ _)
    refine ⟨fun _ => hS, ?_⟩
    replace M := M.less hJ74 hoJ72
    refine wa_q 52 rfl (by kernel_rfl) (q_pickT rfl rfl rfl) hS rfl rfl ?_
    refine wa_q 53 rfl (by kernel_rfl) (q_assign rfl) hS rfl rfl ?_
    refine wa_done (by kernel_rfl) ?_
    exact ⟨(J72), ⟨(hle.trans (hle.trans (hle.trans (hle.trans hJ40 hJ65) hJ66) hJ67) hJ72), M⟩, ⟨rfl, trivial⟩, unw_take 54 rfl rfl⟩
   ·refine one_e 44 rfl (e_guard 40 rfl rfl rfl rfl (e_bsI (E := EInt) (xs := [1]) M (bs_22_1 _) ⟨⟨rfl, rfl⟩, trivial⟩ rfl rfl (by decide))) rfl rfl ?_
    rintro _ w20 ⟨u67, J67, rfl, hJ67, R67, M⟩
    have hoJ67 := M.old
    have hS := (⟨(M.less (hle.trans (hle.trans hJ40 hJ65) hJ67) hoJ19), trivial⟩ : _ ∧ _)
    refine ⟨fun _ => hS, ?_⟩
    refine wa_e 43 rfl (by kernel_rfl) (e_guard 40 rfl rfl rfl rfl (e_callC M (stepT_c aw3 [0] 97 (by decide) M.imm ⟨_, _, rfl, ((((((R7.mono hJ10).mono hJ14).mono hJ19).mono hJ40).mono hJ65).mono hJ67), (((((R10.mono hJ14).mono hJ19).mono hJ40).mono hJ65).mono hJ67)⟩ (R65.mono hJ67)) Try.func20 rfl rfl)) rfl rfl ?_
    rintro v66 w21 ⟨J66, hJ66, ⟨out, R66, _, hs⟩, M⟩
    obtain ⟨m, b1_, b2_, ha, h1, _, h3, rfl⟩ := hs aw3_valid
    rw [aw3_step ha h1 (h3 (by decide))] at R66
    obtain ⟨u66, rfl⟩ := rdSl_slice R66
    have hoJ66 := M.old
    have hS := (⟨(M.less (hle.trans (hle.trans (hle.trans hJ40 hJ65) hJ67) hJ66) hoJ19), trivial⟩ : _ ∧ _)
    refine ⟨fun _ => hS, ?_⟩
    refine wa_e 45 rfl (by kernel_rfl) (e_guard 40 rfl rfl rfl rfl (e_callC M (bool_to (decide_eq_true rfl) (ints_c M.imm R66 (R67.mono hJ66))) Try.func25 rfl rfl)) rfl rfl ?_
    rintro _ w22 ⟨J68, hJ68, rfl, M⟩
    have hS := (⟨(M.less (hle.trans (hle.trans (hle.trans (hle.trans hJ40 hJ65) hJ67) hJ66) hJ68) hoJ19), trivial⟩ : _ ∧ _)
    refine ⟨fun _ => hS, ?_⟩
    replace M := M.less hJ68 hoJ66
    refine wa_q 46 rfl (by kernel_rfl) (q_pickT rfl rfl rfl) hS rfl rfl ?_
    refine wa_q 47 rfl (by kernel_rfl) (q_move rfl) hS rfl rfl ?_
    refine wa_q 48 rfl (by kernel_rfl) ((q_guard 47 rfl rfl rfl rfl (q_ldbA 0 Try.underlying25 rfl sz25 rfl rfl rfl rfl)).mono fun _ h => h.1) hS rfl rfl ?_
    refine wa_q 50 rfl (by kernel_rfl) ((q_guard 47 rfl rfl rfl rfl (q_ldbA 0 Try.underlying25 rfl sz25 rfl rfl rfl rfl)).mono fun _ h => h.1) hS rfl rfl ?_
    refine wa_e 49 rfl (by kernel_rfl) (e_guard 47 rfl rfl rfl rfl (e_callC M (trimP_c aw3 M.imm ⟨_, _, rfl, (((((((R7.mono hJ10).mono hJ14).mono hJ19).mono hJ40).mono hJ65).mono hJ67).mono hJ66), ((((((R10.mono hJ14).mono hJ19).mono hJ40).mono hJ65).mono hJ67).mono hJ66)⟩) Try.func19 rfl rfl)) rfl rfl ?_
    rintro _ w23 ⟨J72, hJ72, Rt72, M⟩
    rw [aw3_trim] at Rt72
    obtain ⟨fu72, au72, rfl, Rf72, Ra72⟩ := Rt72
    have hoJ72 := M.old
    have hS := (⟨(M.less (hle.trans (hle.trans (hle.trans (hle.trans hJ40 hJ65) hJ67) hJ66) hJ72) hoJ19), trivial⟩ : _ ∧ _)
    refine ⟨fun _ => hS, ?_⟩
    refine wa_e 51 rfl (by kernel_rfl) (e_guard 47 rfl rfl rfl rfl (e_callC M (bool_to (decide_eq_true rfl) (same_c aw3 aw3 M.imm ⟨_, _, rfl, Rf72, Ra72⟩ ⟨_, _, rfl, ((((((((R7.mono hJ10).mono hJ14).mono hJ19).mono hJ40).mono hJ65).mono hJ67).mono hJ66).mono hJ72), (((((((R10.mono hJ14).mono hJ19).mono hJ40).mono hJ65).mono hJ67).mono hJ66).mono hJ72)⟩)) Try.func18 rfl rfl)) rfl rfl ?_
    rintro _ w24 ⟨J74, hJ74, rfl, M⟩
    have hS := (⟨(M.less (hle.trans (hle.trans (hle.trans (hle.trans (hle.trans hJ40 hJ65) hJ67) hJ66) hJ72) hJ74) hoJ19), trivial⟩ : _ ∧ _)
    refine ⟨fun _ => hS, ?_⟩
    replace M := M.less hJ74 hoJ72
    refine wa_q 52 rfl (by kernel_rfl) (q_pickT rfl rfl rfl) hS rfl rfl ?_
    refine wa_q 53 rfl (by kernel_rfl) (q_assign rfl) hS rfl rfl ?_
    refine wa_done (by kernel_rfl) ?_
    exact ⟨(J72), ⟨(hle.trans (hle.trans (hle.trans (hle.trans hJ40 hJ65) hJ67) hJ66) hJ72), M⟩, ⟨rfl, trivial⟩, unw_take 54 rfl rfl⟩
  ·refine one_e 44 rfl (e_guard 40 rfl rfl rfl rfl (e_bsI (E := EInt) (xs := [1]) M (bs_22_1 _) ⟨⟨rfl, rfl⟩, trivial⟩ rfl rfl (by decide))) rfl rfl ?_
   rintro _ w25 ⟨u67, J67, rfl, hJ67, R67, M⟩
   have hoJ67 := M.old
   have hS := (⟨(M.less (hle.trans hJ40 hJ67) hoJ19), trivial⟩ : _ ∧ _)
   refine ⟨fun _ => hS, ?_⟩
   refine wa_e 42 rfl (by kernel_rfl) (e_guard 40 rfl rfl rfl rfl (e_bsI (E := EInt) (xs := [0]) M (bs_22_1 _) ⟨⟨rfl, rfl⟩, trivial⟩ rfl rfl (by decide))) rfl rfl ?_
   rintro _ w26 ⟨u65, J65, rfl, hJ65, R65, M⟩
   have hoJ65 := M.old
   have hS := (⟨(M.less (hle.trans (hle.trans hJ40 hJ67) hJ65) hoJ19), trivial⟩ : _ ∧ _)
   refine ⟨fun _ => hS, ?_⟩
   refine wa_e 43 rfl (by kernel_rfl) (e_guard 40 rfl rfl rfl rfl (e_callC M (stepT_c aw3 [0] 97 (by decide) M.imm ⟨_, _, rfl, ((((((R7.mono hJ10).mono hJ14).mono hJ19).mono hJ40).mono hJ67).mono hJ65), (((((R10.mono hJ14).mono hJ19).mono hJ40).mono hJ67).mono hJ65)⟩ R65) Try.func20 rfl rfl)) rfl rfl ?_
   rintro v66 w27 ⟨J66, hJ66, ⟨out, R66, _, hs⟩, M⟩
   obtain ⟨m, b1_, b2_, ha, h1, _, h3, rfl⟩ := hs aw3_valid
   rw [aw3_step ha h1 (h3 (by decide))] at R66
   obtain ⟨u66, rfl⟩ := rdSl_slice R66
   have hoJ66 := M.old
   have hS := (⟨(M.less (hle.trans (hle.trans (hle.trans hJ40 hJ67) hJ65) hJ66) hoJ19), trivial⟩ : _ ∧ _)
   refine ⟨fun _ => hS, ?_⟩
   refine wa_e 45 rfl (by kernel_rfl) (e_guard 40 rfl rfl rfl rfl (e_callC M (bool_to (decide_eq_true rfl) (ints_c M.imm R66 ((R67.mono hJ65).mono hJ66))) Try.func25 rfl rfl)) rfl rfl ?_
   rintro _ w28 ⟨J68, hJ68, rfl, M⟩
   have hS := (⟨(M.less (hle.trans (hle.trans (hle.trans (hle.trans hJ40 hJ67) hJ65) hJ66) hJ68) hoJ19), trivial⟩ : _ ∧ _)
   refine ⟨fun _ => hS, ?_⟩
   replace M := M.less hJ68 hoJ66
   refine wa_q 46 rfl (by kernel_rfl) (q_pickT rfl rfl rfl) hS rfl rfl ?_
   refine wa_q 47 rfl (by kernel_rfl) (q_move rfl) hS rfl rfl ?_
   refine wa_q 48 rfl (by kernel_rfl) ((q_guard 47 rfl rfl rfl rfl (q_ldbA 0 Try.underlying25 rfl sz25 rfl rfl rfl rfl)).mono fun _ h => h.1) hS rfl rfl ?_
   refine wa_q 50 rfl (by kernel_rfl) ((q_guard 47 rfl rfl rfl rfl (q_ldbA 0 Try.underlying25 rfl sz25 rfl rfl rfl rfl)).mono fun _ h => h.1) hS rfl rfl ?_
   refine wa_e 49 rfl (by kernel_rfl) (e_guard 47 rfl rfl rfl rfl (e_callC M (trimP_c aw3 M.imm ⟨_, _, rfl, (((((((R7.mono hJ10).mono hJ14).mono hJ19).mono hJ40).mono hJ67).mono hJ65).mono hJ66), ((((((R10.mono hJ14).mono hJ19).mono hJ40).mono hJ67).mono hJ65).mono hJ66)⟩) Try.func19 rfl rfl)) rfl rfl ?_
   rintro _ w29 ⟨J72, hJ72, Rt72, M⟩
   rw [aw3_trim] at Rt72
   obtain ⟨fu72, au72, rfl, Rf72, Ra72⟩ := Rt72
   have hoJ72 := M.old
   have hS := (⟨(M.less (hle.trans (hle.trans (hle.trans (hle.trans hJ40 hJ67) hJ65) hJ66) hJ72) hoJ19), trivial⟩ : _ ∧ _)
   refine ⟨fun _ => hS, ?_⟩
   refine wa_e 51 rfl (by kernel_rfl) (e_guard 47 rfl rfl rfl rfl (e_callC M (bool_to (decide_eq_true rfl) (same_c aw3 aw3 M.imm ⟨_, _, rfl, Rf72, Ra72⟩ ⟨_, _, rfl, ((((((((R7.mono hJ10).mono hJ14).mono hJ19).mono hJ40).mono hJ67).mono hJ65).mono hJ66).mono hJ72), (((((((R10.mono hJ14).mono hJ19).mono hJ40).mono hJ67).mono hJ65).mono hJ66).mono hJ72)⟩)) Try.func18 rfl rfl)) rfl rfl ?_
   rintro _ w30 ⟨J74, hJ74, rfl, M⟩
   have hS := (⟨(M.less (hle.trans (hle.trans (hle.trans (hle.trans (hle.trans hJ40 hJ67) hJ65) hJ66) hJ72) hJ74) hoJ19), trivial⟩ : _ ∧ _)
   refine ⟨fun _ => hS, ?_⟩
   replace M := M.less hJ74 hoJ72
   refine wa_q 52 rfl (by kernel_rfl) (q_pickT rfl rfl rfl) hS rfl rfl ?_
   refine wa_q 53 rfl (by kernel_rfl) (q_assign rfl) hS rfl rfl ?_
   refine wa_done (by kernel_rfl) ?_
   exact ⟨(J72), ⟨(hle.trans (hle.trans (hle.trans (hle.trans hJ40 hJ67) hJ65) hJ66) hJ72), M⟩, ⟨rfl, trivial⟩, unw_take 54 rfl rfl⟩
 rintro I6 jr4 w31 ⟨hI6, M⟩
 have hoI6 := M.old
 refine wc_ret ?_
 exact out1 rfl rfl ⟨_, _, rfl, M.grow, rfl⟩
end Go.Proofs.Ytfepjcmjkaolgaa.G
