/- Walks of the program's functions. -/
import Derived.Test.YtmjieefhjmiagaaGreatDoorWD
import Derived.Test.YtmjieefhjmiagaaGreatDoorWT
import Derived.Test.YtmjieefhjmiagaaGreatDoorGAw5
set_option linter.all false
namespace Go.Proofs.YtmjieefhjmiagaaGreatDoor.G
open Go Go.RowKit
theorem chain0_c {I : Heap} {w : World} (hI : hle I (hp w)) : Calls A 24 #[.slice none 0 0] w (Ret w I fun r _ => r = .tuple #[.agg #[.int .i64 0, .int .i64 0, .slice none 0 0, .slice none 0 0], .int .i64 1]) := by
 have M := Mem.start hI
 refine enter Tryz.func24 rfl 48 Tryz.ntmps24 [_] rfl ?_
 refine wc_seq ?_
 refine wc_region ?_
 refine wl_e (e_alloc M z25) rfl rfl ?_
 rintro _ w1 ⟨b2, rfl, M⟩
 refine wl_as M rfl rfl ?_
 refine wl_nil ?_
 refine wc_seq ?_
 refine wc_seq ?_
 refine wc_region ?_
 refine wl_mv M rfl rfl ?_
 refine wl_m M (q_lenS Tryz.underlying54 rfl) rfl rfl ?_
 refine wl_mv M rfl rfl ?_
 refine wl_nil ?_
 refine wc_block ?_
 refine wc_loop (α := Nat) [3, 5, 12, 13, 14, 15, 16, 17, 18, 19, 20] (fun (k0 : Nat) => [(12, .int .i64 (k0 : Int))])
   (fun (k0 : Nat) w' => (k0 ≤ 0) ∧ Mem w I I (box b2 25 [.int .i64 0, .int .i64 0, .slice none 0 0, .slice none 0 0] :: []) w')
   (fun (k0 : Nat) => 0 - k0) (0) ⟨rfl, trivial⟩ ?_ ?_
 ·refine ⟨Nat.zero_le _, ?_⟩
  exact M
 rintro k0 jj0 w2 ⟨hk0, M⟩
 refine wc_seq ?_
 refine wc_region ?_
 refine wl_m M (q_lss rfl rfl) rfl rfl ?_
 refine wl_nil ?_
 refine wc_seq ?_
 refine wc_dec rfl (fun ht13 => ?_) (fun ht13 => ?_)
 ·exact absurd ht13 (by omega)
 have hke0 : k0 = 0 := by omega
 refine wc_exit rfl ?_
 refine wc_seq ?_
 refine wc_seq ?_
 refine wc_region ?_
 refine wl_mv M rfl rfl ?_
 refine wl_m M (q_lenS Tryz.underlying54 rfl) rfl rfl ?_
 refine wl_m M (q_eql rfl rfl) rfl rfl ?_
 refine wl_nil ?_
 refine wc_dec rfl (fun ht23 => ?_) (fun ht23 => ?_)
 ·refine wc_seq ?_
  refine wc_region ?_
  refine wl_m M (q_build (bd_25) trivial) rfl rfl ?_
  refine wl_e0 (e_stW 0 M rfl rfl rfl sz25 rfl rfl) rfl ?_
  intro _ w3 M
  simp only [sC0, sCS] at M
  refine wl_as M rfl rfl ?_
  refine wl_nil ?_
  refine wc_ret ?_
  exact outc2 rfl rfl (load_boxA M 0 Tryz.underlying25 rfl sz25 rfl rfl rfl) rfl ⟨_, _, rfl, M.grow, rfl⟩
 exact absurd rfl ht23
theorem awake_c {I : Heap} {w : World} (hI : hle I (hp w)) (hT : Tabs I) : Calls A 8 #[] w (Ret w I fun r _ => r = .bool true) := by
 have M := Mem.start hI
 refine enter Tryz.func8 rfl 65 Tryz.ntmps8 [] rfl ?_
 refine wc_seq ?_
 refine wc_region ?_
 refine wl_as M rfl rfl ?_
 refine wl_nil ?_
 refine wc_seq ?_
 refine wc_region ?_
 refine wl_e (e_bsI (E := EInt) (xs := [1]) M (bs_22_1 _) ⟨⟨rfl, rfl⟩, trivial⟩ rfl rfl (by decide)) rfl rfl ?_
 rintro _ w1 ⟨u9, J9, rfl, hJ9, R9, M⟩
 have hoJ9 := M.old
 refine wl_m M (q_build (bd_51_0_1_2_3 _ _ _ _) ⟨⟨rfl, rfl⟩, ⟨rfl, rfl⟩, ⟨rfl, rfl⟩, ⟨rfl, rfl⟩, trivial⟩) rfl rfl ?_
 refine wl_e (e_bsI (E := EArc) (xs := [(Arc.mk 0 1 97 98)]) M (bs_23_1 _ _ _ _) ⟨⟨rfl, rfl⟩, trivial⟩ rfl rfl (by decide)) rfl rfl ?_
 rintro _ w2 ⟨u11, J11, rfl, hJ11, R11, M⟩
 have hoJ11 := M.old
 refine wl_m M (q_build (bd_25_0_2_3 _ _ _) ⟨⟨rfl, rfl⟩, ⟨rfl, rfl⟩, ⟨rfl, rfl⟩, trivial⟩) rfl rfl ?_
 refine wl_e (e_alloc M z25) rfl rfl ?_
 rintro _ w3 ⟨b1, rfl, M⟩
 refine wl_e0 (e_stW 0 M rfl rfl rfl sz25 rfl rfl) rfl ?_
 intro _ w4 M
 simp only [sC0, sCS] at M
 refine wl_nil ?_
 refine wc_seq ?_
 refine wc_region ?_
 refine wl_e (e_bsI (E := EInt) (xs := [1]) M (bs_22_1 _) ⟨⟨rfl, rfl⟩, trivial⟩ rfl rfl (by decide)) rfl rfl ?_
 rintro _ w5 ⟨u13, J13, rfl, hJ13, R13, M⟩
 have hoJ13 := M.old
 refine wl_m M (q_build (bd_51_0_1_2_3 _ _ _ _) ⟨⟨rfl, rfl⟩, ⟨rfl, rfl⟩, ⟨rfl, rfl⟩, ⟨rfl, rfl⟩, trivial⟩) rfl rfl ?_
 refine wl_e (e_bsI (E := EArc) (xs := [(Arc.mk 0 1 98 99)]) M (bs_23_1 _ _ _ _) ⟨⟨rfl, rfl⟩, trivial⟩ rfl rfl (by decide)) rfl rfl ?_
 rintro _ w6 ⟨u15, J15, rfl, hJ15, R15, M⟩
 have hoJ15 := M.old
 refine wl_m M (q_build (bd_25_0_2_3 _ _ _) ⟨⟨rfl, rfl⟩, ⟨rfl, rfl⟩, ⟨rfl, rfl⟩, trivial⟩) rfl rfl ?_
 refine wl_e (e_alloc M z25) rfl rfl ?_
 rintro _ w7 ⟨b2, rfl, M⟩
 refine wl_e0 (e_stW 0 M rfl rfl rfl sz25 rfl rfl) rfl ?_
 intro _ w8 M
 simp only [sC0, sCS] at M
 refine wl_nil ?_
 refine wc_seq ?_
 refine wc_region ?_
 refine wl_m M (q_ldbA 1 Tryz.underlying25 rfl sz25 rfl rfl rfl rfl) rfl rfl ?_
 refine wl_m M (q_ldbA 0 Tryz.underlying25 rfl sz25 rfl rfl rfl rfl) rfl rfl ?_
 refine wl_e (e_callC M (compose_c awA awB aw_big M.imm ⟨_, _, rfl, (((R9.mono hJ11).mono hJ13).mono hJ15), ((R11.mono hJ13).mono hJ15)⟩ ⟨_, _, rfl, (R13.mono hJ15), R15⟩) Tryz.func23 rfl rfl) rfl rfl ?_
 rintro _ w9 ⟨J20, hJ20, ⟨_, t20, e20, rfl, ⟨fu20, au20, rfl, Rf20, Ra20⟩, hc20⟩, M⟩
 obtain ⟨rfl, rfl⟩ : t20 = awT ∧ e20 = 0 := by have := (cmp_S hc20).trans aw_comp; exact ⟨congrArg Prod.fst this, congrArg Prod.snd this⟩
 have hoJ20 := M.old
 refine wl_mv M rfl rfl ?_
 refine wl_m M (q_ext rfl rfl) rfl rfl ?_
 refine wl_m M (q_ext rfl rfl) rfl rfl ?_
 refine wl_e (e_alloc M z25) rfl rfl ?_
 rintro _ w10 ⟨b3, rfl, M⟩
 refine wl_e0 (e_stW 0 M rfl rfl rfl sz25 rfl rfl) rfl ?_
 intro _ w11 M
 simp only [sC0, sCS] at M
 refine wl_as M rfl rfl ?_
 refine wl_nil ?_
 refine wc_seq ?_
 refine wc_region ?_
 refine wl_m M (q_ldbA 2 Tryz.underlying25 rfl sz25 rfl rfl rfl rfl) rfl rfl ?_
 refine wl_m M (q_ldbA 1 Tryz.underlying25 rfl sz25 rfl rfl rfl rfl) rfl rfl ?_
 refine wl_e (e_callC M (through_c awA awB ⟨#[97]⟩ ⟨#[99]⟩ (by decide) (by decide) M.imm (((((hT.mono hJ9).mono hJ11).mono hJ13).mono hJ15).mono hJ20) ⟨_, _, rfl, ((((R9.mono hJ11).mono hJ13).mono hJ15).mono hJ20), (((R11.mono hJ13).mono hJ15).mono hJ20)⟩ ⟨_, _, rfl, ((R13.mono hJ15).mono hJ20), (R15.mono hJ20)⟩) Tryz.func16 rfl rfl) rfl rfl ?_
 rintro _ w12 ⟨J26, hJ26, rfl, M⟩
 rw [aw_thr]
 have hoJ26 := M.old
 refine wl_mv M rfl rfl ?_
 refine wl_m M (q_ext rfl rfl) rfl rfl ?_
 refine wl_m M (q_ext rfl rfl) rfl rfl ?_
 refine wl_as M rfl rfl ?_
 refine wl_as M rfl rfl ?_
 refine wl_nil ?_
 refine wc_seq ?_
 refine wc_region ?_
 refine wl_e (e_callC M (chain0_c M.imm) Tryz.func24 rfl rfl) rfl rfl ?_
 rintro _ w13 ⟨J30, hJ30, rfl, M⟩
 replace M := M.less hJ30 hoJ26
 refine wl_mv M rfl rfl ?_
 refine wl_m M (q_ext rfl rfl) rfl rfl ?_
 refine wl_m M (q_ext rfl rfl) rfl rfl ?_
 refine wl_e (e_alloc M z25) rfl rfl ?_
 rintro _ w14 ⟨b7, rfl, M⟩
 refine wl_e0 (e_stW 0 M rfl rfl rfl sz25 rfl rfl) rfl ?_
 intro _ w15 M
 simp only [sC0, sCS] at M
 refine wl_as M rfl rfl ?_
 refine wl_nil ?_
 refine wc_seq ?_
 refine wc_join (α := Unit) [0, 33, 34, 35, 36, 37, 38, 39, 40, 41, 42, 43, 44, 45, 46, 47, 48, 49, 50, 51, 52, 53, 54, 55, 56, 57, 58, 59, 60, 61, 62, 63, 64] (fun _ => [(0, .bool (((((((decide (0 = 0)) && (decide (awT.states = 2))) && (decide ((awT.arcs.length : Int) = 1))) && (decide ((Arc.mk 0 1 97 99) = (Arc.mk 0 1 97 99)))) && true) && (decide (0 = 0))) && (decide (1 = 1))))]) (fun _ w' => Mem w I J26 (box b7 25 [.int .i64 0, .int .i64 0, .slice none 0 0, .slice none 0 0] :: box b3 25 [.int .i64 awT.states, .int .i64 awT.start, sv fu20, sv au20] :: box b2 25 [.int .i64 2, .int .i64 0, sv u13, sv u15] :: box b1 25 [.int .i64 2, .int .i64 0, sv u9, sv u11] :: []) w') ?_ ?_
 ·refine wc_region ?_
  refine wl_mv M rfl rfl ?_
  refine wl_m M (q_eql rfl rfl) rfl rfl ?_
  refine wl_mv M rfl rfl ?_
  rcases Bool.eq_false_or_eq_true (decide (0 = 0)) with hg35 | hg35
  ·refine wl_m M (q_guard 2 rfl rfl rfl hg35 (q_fa fo_25_0 rfl)) rfl rfl ?_
   refine wl_m M (q_guard 2 rfl rfl rfl hg35 (q_ldb 1 Tryz.underlying3 rfl rfl rfl rfl)) rfl rfl ?_
   refine wl_m M (q_guard 2 rfl rfl rfl hg35 (q_eql rfl rfl)) rfl rfl ?_
   refine wl_m M (q_pickT rfl hg35 rfl) rfl rfl ?_
   refine wl_mv M rfl rfl ?_
   rcases Bool.eq_false_or_eq_true (decide (awT.states = 2)) with hg40 | hg40
   ·refine wl_m M (q_guard 7 rfl rfl rfl hg40 (q_fa fo_25_3 rfl)) rfl rfl ?_
    refine wl_m M (q_guard 7 rfl rfl rfl hg40 (q_ldb 1 Tryz.underlying23 rfl rfl rfl rfl)) rfl rfl ?_
    refine wl_m M (q_guard 7 rfl rfl rfl hg40 (q_lenR (Ra20.mono hJ26) Tryz.underlying23 rfl)) rfl rfl ?_
    refine wl_m M (q_guard 7 rfl rfl rfl hg40 (q_eql rfl rfl)) rfl rfl ?_
    refine wl_m M (q_pickT rfl hg40 rfl) rfl rfl ?_
    refine wl_mv M rfl rfl ?_
    rcases Bool.eq_false_or_eq_true (decide ((awT.arcs.length : Int) = 1)) with hg46 | hg46
    ·refine wl_m M (q_guard 13 rfl rfl rfl hg46 (q_fa fo_25_3 rfl)) rfl rfl ?_
     refine wl_m M (q_guard 13 rfl rfl rfl hg46 (q_ldb 1 Tryz.underlying23 rfl rfl rfl rfl)) rfl rfl ?_
     refine wl_ixG (j := 0) 13 rfl rfl rfl hg46 M (Ra20.mono hJ26) Tryz.underlying23 rfl rfl rfl rfl (fun b49 o49 p49 => ?_)
     refine wl_m M (q_guard 13 rfl rfl rfl hg46 (q_ldp p49 rfl rfl)) rfl rfl ?_
     refine wl_m M (q_guard 13 rfl rfl rfl hg46 (q_build (bd_51_0_1_2_3 _ _ _ _) ⟨⟨rfl, rfl⟩, ⟨rfl, rfl⟩, ⟨rfl, rfl⟩, ⟨rfl, rfl⟩, trivial⟩)) rfl rfl ?_
     refine wl_m M (q_guard 13 rfl rfl rfl hg46 (q_eqlK QArcE (Arc.mk 0 1 97 99) (Arc.mk 0 1 97 99) rfl rfl rfl)) rfl rfl ?_
     refine wl_m M (q_pickT rfl hg46 rfl) rfl rfl ?_
     refine wl_mv M rfl rfl ?_
     rcases Bool.eq_false_or_eq_true (decide ((Arc.mk 0 1 97 99) = (Arc.mk 0 1 97 99))) with hg54 | hg54
     ·refine wl_m M (q_guard 21 rfl rfl rfl hg54 (q_move rfl)) rfl rfl ?_
      refine wl_m M (q_pickT rfl hg54 rfl) rfl rfl ?_
      refine wl_mv M rfl rfl ?_
      refine wl_m M (q_guard 24 rfl rfl rfl rfl (q_move rfl)) rfl rfl ?_
      refine wl_m M (q_guard 24 rfl rfl rfl rfl (q_eql rfl rfl)) rfl rfl ?_
      refine wl_m M (q_pickT rfl rfl rfl) rfl rfl ?_
      refine wl_mv M rfl rfl ?_
      rcases Bool.eq_false_or_eq_true (decide (0 = 0)) with hg61 | hg61
      ·refine wl_m M (q_guard 28 rfl rfl rfl hg61 (q_move rfl)) rfl rfl ?_
       refine wl_m M (q_guard 28 rfl rfl rfl hg61 (q_eql rfl rfl)) rfl rfl ?_
       refine wl_m M (q_pickT rfl hg61 rfl) rfl rfl ?_
       refine wl_as M rfl rfl ?_
       refine wl_nil ?_
       exact ⟨(), M, ⟨(show some (Value.bool (decide (1 = 1))) = some (Value.bool (((((((decide (0 = 0)) && (decide (awT.states = 2))) && (decide ((awT.arcs.length : Int) = 1))) && (decide ((Arc.mk 0 1 97 99) = (Arc.mk 0 1 97 99)))) && true) && (decide (0 = 0))) && (decide (1 = 1)))) from by first | (simp only [hg35, hg40, hg46, hg54, hg61, Bool.true_or, Bool.false_or, Bool.true_and, Bool.false_and, Bool.or_true, Bool.or_false, Bool.and_true, Bool.and_false]; done) | (simp_all; done) | (simp_all; omega)), trivial⟩, unw_take 33 rfl rfl⟩
      refine wl_m M (q_off 28 rfl rfl rfl hg61) rfl rfl ?_
      refine wl_m M (q_off 28 rfl rfl rfl hg61) rfl rfl ?_
      refine wl_m M (q_pickF rfl hg61 rfl) rfl rfl ?_
      refine wl_as M rfl rfl ?_
      refine wl_nil ?_
      exact ⟨(), M, ⟨(show some (Value.bool false) = some (Value.bool (((((((decide (0 = 0)) && (decide (awT.states = 2))) && (decide ((awT.arcs.length : Int) = 1))) && (decide ((Arc.mk 0 1 97 99) = (Arc.mk 0 1 97 99)))) && true) && (decide (0 = 0))) && (decide (1 = 1)))) from by first | (simp only [hg35, hg40, hg46, hg54, hg61, Bool.true_or, Bool.false_or, Bool.true_and, Bool.false_and, Bool.or_true, Bool.or_false, Bool.and_true, Bool.and_false]; done) | (simp_all; done) | (simp_all; omega)), trivial⟩, unw_take 33 rfl rfl⟩
     refine wl_m M (q_off 21 rfl rfl rfl hg54) rfl rfl ?_
     refine wl_m M (q_pickF rfl hg54 rfl) rfl rfl ?_
     refine wl_mv M rfl rfl ?_
     refine wl_m M (q_off 24 rfl rfl rfl rfl) rfl rfl ?_
     refine wl_m M (q_off 24 rfl rfl rfl rfl) rfl rfl ?_
     refine wl_m M (q_pickF rfl rfl rfl) rfl rfl ?_
     refine wl_mv M rfl rfl ?_
     refine wl_m M (q_off 28 rfl rfl rfl rfl) rfl rfl ?_
     refine wl_m M (q_off 28 rfl rfl rfl rfl) rfl rfl ?_
     refine wl_m M (q_pickF rfl rfl rfl) rfl rfl ?_
     refine wl_as M rfl rfl ?_
     refine wl_nil ?_
     exact ⟨(), M, ⟨(show some (Value.bool false) = some (Value.bool (((((((decide (0 = 0)) && (decide (awT.states = 2))) && (decide ((awT.arcs.length : Int) = 1))) && (decide ((Arc.mk 0 1 97 99) = (Arc.mk 0 1 97 99)))) && true) && (decide (0 = 0))) && (decide (1 = 1)))) from by first | (simp only [hg35, hg40, hg46, hg54, Bool.true_or, Bool.false_or, Bool.true_and, Bool.false_and, Bool.or_true, Bool.or_false, Bool.and_true, Bool.and_false]; done) | (simp_all; done) | (simp_all; omega)), trivial⟩, unw_take 33 rfl rfl⟩
    refine wl_m M (q_off 13 rfl rfl rfl hg46) rfl rfl ?_
    refine wl_m M (q_off 13 rfl rfl rfl hg46) rfl rfl ?_
    refine wl_m M (q_off 13 rfl rfl rfl hg46) rfl rfl ?_
    refine wl_m M (q_off 13 rfl rfl rfl hg46) rfl rfl ?_
    refine wl_m M (q_off 13 rfl rfl rfl hg46) rfl rfl ?_
    refine wl_m M (q_off 13 rfl rfl rfl hg46) rfl rfl ?_
    refine wl_m M (q_pickF rfl hg46 rfl) rfl rfl ?_
    refine wl_mv M rfl rfl ?_
    refine wl_m M (q_off 21 rfl rfl rfl rfl) rfl rfl ?_
    refine wl_m M (q_pickF rfl rfl rfl) rfl rfl ?_
    refine wl_mv M rfl rfl ?_
    refine wl_m M (q_off 24 rfl rfl rfl rfl) rfl rfl ?_
    refine wl_m M (q_off 24 rfl rfl rfl rfl) rfl rfl ?_
    refine wl_m M (q_pickF rfl rfl rfl) rfl rfl ?_
    refine wl_mv M rfl rfl ?_
    refine wl_m M (q_off 28 rfl rfl rfl rfl) rfl rfl ?_
    refine wl_m M (q_off 28 rfl rfl rfl rfl) rfl rfl ?_
    refine wl_m M (q_pickF rfl rfl rfl) rfl rfl ?_
    refine wl_as M rfl rfl ?_
    refine wl_nil ?_
    exact ⟨(), M, ⟨(show some (Value.bool false) = some (Value.bool (((((((decide (0 = 0)) && (decide (awT.states = 2))) && (decide ((awT.arcs.length : Int) = 1))) && (decide ((Arc.mk 0 1 97 99) = (Arc.mk 0 1 97 99)))) && true) && (decide (0 = 0))) && (decide (1 = 1)))) from by first | (simp only [hg35, hg40, hg46, Bool.true_or, Bool.false_or, Bool.true_and, Bool.false_and, Bool.or_true, Bool.or_false, Bool.and_true, Bool.and_false]; done) | (simp_all; done) | (simp_all; omega)), trivial⟩, unw_take 33 rfl rfl⟩
   refine wl_m M (q_off 7 rfl rfl rfl hg40) rfl rfl ?_
   refine wl_m M (q_off 7 rfl rfl rfl hg40) rfl rfl ?_
   refine wl_m M (q_off 7 rfl rfl rfl hg40) rfl rfl ?_
   refine wl_m M (q_off 7 rfl rfl rfl hg40) rfl rfl ?_
   refine wl_m M (q_pickF rfl hg40 rfl) rfl rfl ?_
   refine wl_mv M rfl rfl ?_
   refine wl_m M (q_off 13 rfl rfl rfl rfl) rfl rfl ?_
   refine wl_m M (q_off 13 rfl rfl rfl rfl) rfl rfl ?_
   refine wl_m M (q_off 13 rfl rfl rfl rfl) rfl rfl ?_
   refine wl_m M (q_off 13 rfl rfl rfl rfl) rfl rfl ?_
   refine wl_m M (q_off 13 rfl rfl rfl rfl) rfl rfl ?_
   refine wl_m M (q_off 13 rfl rfl rfl rfl) rfl rfl ?_
   refine wl_m M (q_pickF rfl rfl rfl) rfl rfl ?_
   refine wl_mv M rfl rfl ?_
   refine wl_m M (q_off 21 rfl rfl rfl rfl) rfl rfl ?_
   refine wl_m M (q_pickF rfl rfl rfl) rfl rfl ?_
   refine wl_mv M rfl rfl ?_
   refine wl_m M (q_off 24 rfl rfl rfl rfl) rfl rfl ?_
   refine wl_m M (q_off 24 rfl rfl rfl rfl) rfl rfl ?_
   refine wl_m M (q_pickF rfl rfl rfl) rfl rfl ?_
   refine wl_mv M rfl rfl ?_
   refine wl_m M (q_off 28 rfl rfl rfl rfl) rfl rfl ?_
   refine wl_m M (q_off 28 rfl rfl rfl rfl) rfl rfl ?_
   refine wl_m M (q_pickF rfl rfl rfl) rfl rfl ?_
   refine wl_as M rfl rfl ?_
   refine wl_nil ?_
   exact ⟨(), M, ⟨(show some (Value.bool false) = some (Value.bool (((((((decide (0 = 0)) && (decide (awT.states = 2))) && (decide ((awT.arcs.length : Int) = 1))) && (decide ((Arc.mk 0 1 97 99) = (Arc.mk 0 1 97 99)))) && true) && (decide (0 = 0))) && (decide (1 = 1)))) from by first | (simp only [hg35, hg40, Bool.true_or, Bool.false_or, Bool.true_and, Bool.false_and, Bool.or_true, Bool.or_false, Bool.and_true, Bool.and_false]; done) | (simp_all; done) | (simp_all; omega)), trivial⟩, unw_take 33 rfl rfl⟩
  refine wl_m M (q_off 2 rfl rfl rfl hg35) rfl rfl ?_
  refine wl_m M (q_off 2 rfl rfl rfl hg35) rfl rfl ?_
  refine wl_m M (q_off 2 rfl rfl rfl hg35) rfl rfl ?_
  refine wl_m M (q_pickF rfl hg35 rfl) rfl rfl ?_
  refine wl_mv M rfl rfl ?_
  refine wl_m M (q_off 7 rfl rfl rfl rfl) rfl rfl ?_
  refine wl_m M (q_off 7 rfl rfl rfl rfl) rfl rfl ?_
  refine wl_m M (q_off 7 rfl rfl rfl rfl) rfl rfl ?_
  refine wl_m M (q_off 7 rfl rfl rfl rfl) rfl rfl ?_
  refine wl_m M (q_pickF rfl rfl rfl) rfl rfl ?_
  refine wl_mv M rfl rfl ?_
  refine wl_m M (q_off 13 rfl rfl rfl rfl) rfl rfl ?_
  refine wl_m M (q_off 13 rfl rfl rfl rfl) rfl rfl ?_
  refine wl_m M (q_off 13 rfl rfl rfl rfl) rfl rfl ?_
  refine wl_m M (q_off 13 rfl rfl rfl rfl) rfl rfl ?_
  refine wl_m M (q_off 13 rfl rfl rfl rfl) rfl rfl ?_
  refine wl_m M (q_off 13 rfl rfl rfl rfl) rfl rfl ?_
  refine wl_m M (q_pickF rfl rfl rfl) rfl rfl ?_
  refine wl_mv M rfl rfl ?_
  refine wl_m M (q_off 21 rfl rfl rfl rfl) rfl rfl ?_
  refine wl_m M (q_pickF rfl rfl rfl) rfl rfl ?_
  refine wl_mv M rfl rfl ?_
  refine wl_m M (q_off 24 rfl rfl rfl rfl) rfl rfl ?_
  refine wl_m M (q_off 24 rfl rfl rfl rfl) rfl rfl ?_
  refine wl_m M (q_pickF rfl rfl rfl) rfl rfl ?_
  refine wl_mv M rfl rfl ?_
  refine wl_m M (q_off 28 rfl rfl rfl rfl) rfl rfl ?_
  refine wl_m M (q_off 28 rfl rfl rfl rfl) rfl rfl ?_
  refine wl_m M (q_pickF rfl rfl rfl) rfl rfl ?_
  refine wl_as M rfl rfl ?_
  refine wl_nil ?_
  exact ⟨(), M, ⟨(show some (Value.bool false) = some (Value.bool (((((((decide (0 = 0)) && (decide (awT.states = 2))) && (decide ((awT.arcs.length : Int) = 1))) && (decide ((Arc.mk 0 1 97 99) = (Arc.mk 0 1 97 99)))) && true) && (decide (0 = 0))) && (decide (1 = 1)))) from by first | (simp only [hg35, Bool.true_or, Bool.false_or, Bool.true_and, Bool.false_and, Bool.or_true, Bool.or_false, Bool.and_true, Bool.and_false]; done) | (simp_all; done) | (simp_all; omega)), trivial⟩, unw_take 33 rfl rfl⟩
 rintro _ jr6 w16 M
 refine wc_ret ?_
 exact out1 rfl rfl ⟨_, _, rfl, M.grow, rfl⟩
end Go.Proofs.YtmjieefhjmiagaaGreatDoor.G
