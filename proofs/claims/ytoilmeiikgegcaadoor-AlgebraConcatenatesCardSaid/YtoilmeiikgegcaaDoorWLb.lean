/- Walks of the program's functions. -/
import Derived.Test.YtoilmeiikgegcaaDoorWLa
import Derived.Test.YtoilmeiikgegcaaDoorWPa
import Derived.Test.YtoilmeiikgegcaaDoorWSa
import Derived.Test.YtoilmeiikgegcaaDoorWVd
import Derived.Test.YtoilmeiikgegcaaDoorWRa
import Derived.Test.YtoilmeiikgegcaaDoorGAw4
set_option linter.all false
namespace Go.Proofs.YtoilmeiikgegcaaDoor.G
open Go Go.RowKit
theorem awake4_c {I : Heap} {w : World} (hI : hle I (hp w)) (hT : Tabs I) : Calls A 14 #[] w (Ret w I fun r _ => r = .bool true) := by
 have M := Mem.start hI
 refine enter Tryd.func14 rfl 113 Tryd.ntmps14 [] rfl ?_
 refine wc_seq ?_
 refine wc_region ?_
 refine wl_as M rfl rfl ?_
 refine wl_nil ?_
 refine wc_seq ?_
 refine wc_region ?_
 refine wl_m M (q_build (bd_25_0_1 _ _) ⟨⟨rfl, rfl⟩, ⟨rfl, rfl⟩, trivial⟩) rfl rfl ?_
 refine wl_m M (q_build (bd_25_0_1 _ _) ⟨⟨rfl, rfl⟩, ⟨rfl, rfl⟩, trivial⟩) rfl rfl ?_
 refine wl_e (e_bsI (E := ESPair) (xs := [(SPair.mk ⟨#[97, 98]⟩ ⟨#[99]⟩), (SPair.mk ⟨#[97]⟩ ⟨#[]⟩)]) M (bs_22_2 _ _ _ _) ⟨⟨rfl, rfl⟩, ⟨rfl, rfl⟩, trivial⟩ rfl rfl (by decide)) rfl rfl ?_
 rintro _ w1 ⟨u16, J16, rfl, hJ16, R16, M⟩
 have hoJ16 := M.old
 refine wl_e (e_callC M (pairs_c aw4ps (by decide) (by decide) M.imm (hT.mono hJ16) R16) Tryd.func15 rfl rfl) rfl rfl ?_
 rw [aw4_pairs]
 rintro _ w2 ⟨J17, hJ17, ⟨_, rfl, ⟨fu17, au17, rfl, Rf17, Ra17⟩⟩, M⟩
 have hoJ17 := M.old
 refine wl_mv M rfl rfl ?_
 refine wl_m M (q_ext rfl rfl) rfl rfl ?_
 refine wl_m M (q_ext rfl rfl) rfl rfl ?_
 refine wl_e (e_alloc M z29) rfl rfl ?_
 rintro _ w3 ⟨b1, rfl, M⟩
 refine wl_e0 (e_stW 0 M rfl rfl rfl sz29 rfl rfl) rfl ?_
 intro _ w4 M
 simp only [sC0, sCS] at M
 refine wl_as M rfl rfl ?_
 refine wl_nil ?_
 refine wc_seq ?_
 refine wc_region ?_
 refine wl_e (e_bsI (E := EStr) (xs := [⟨#[120]⟩]) M (bs_23_1 _) ⟨⟨rfl, rfl⟩, trivial⟩ rfl rfl (by decide)) rfl rfl ?_
 rintro _ w5 ⟨u21, J21, rfl, hJ21, R21, M⟩
 have hoJ21 := M.old
 refine wl_e (e_callC M (words_c [⟨#[120]⟩] (by decide) (by decide) M.imm (((hT.mono hJ16).mono hJ17).mono hJ21) R21) Tryd.func17 rfl rfl) rfl rfl ?_
 rintro _ w6 ⟨J22, hJ22, ⟨_, t22, e22, rfl, ⟨fu22, au22, rfl, Rf22, Ra22⟩, hc22⟩, M⟩
 obtain ⟨rfl, rfl⟩ : t22 = aw4w ∧ e22 = 0 := by have := hc22.trans aw4_words; exact ⟨congrArg Prod.fst this, congrArg Prod.snd this⟩
 have hoJ22 := M.old
 refine wl_mv M rfl rfl ?_
 refine wl_m M (q_ext rfl rfl) rfl rfl ?_
 refine wl_m M (q_ext rfl rfl) rfl rfl ?_
 refine wl_e (e_alloc M z29) rfl rfl ?_
 rintro _ w7 ⟨b3, rfl, M⟩
 refine wl_e0 (e_stW 0 M rfl rfl rfl sz29 rfl rfl) rfl ?_
 intro _ w8 M
 simp only [sC0, sCS] at M
 refine wl_as M rfl rfl ?_
 refine wl_nil ?_
 refine wc_seq ?_
 refine wc_region ?_
 refine wl_m M (q_ldbA 1 Tryd.underlying29 rfl sz29 rfl rfl rfl rfl) rfl rfl ?_
 refine wl_m M (q_ldbA 0 Tryd.underlying29 rfl sz29 rfl rfl rfl rfl) rfl rfl ?_
 refine wl_e (e_callC M (union_c aw4p aw4w M.imm ⟨_, _, rfl, ((Rf17.mono hJ21).mono hJ22), ((Ra17.mono hJ21).mono hJ22)⟩ ⟨_, _, rfl, Rf22, Ra22⟩) Tryd.func22 rfl rfl) rfl rfl ?_
 rintro _ w9 ⟨J28, hJ28, ⟨_, t28, e28, rfl, ⟨fu28, au28, rfl, Rf28, Ra28⟩, hc28⟩, M⟩
 obtain ⟨rfl, rfl⟩ : t28 = aw4u ∧ e28 = 0 := by have := hc28.trans aw4_union; exact ⟨congrArg Prod.fst this, congrArg Prod.snd this⟩
 have hoJ28 := M.old
 refine wl_mv M rfl rfl ?_
 refine wl_m M (q_ext rfl rfl) rfl rfl ?_
 refine wl_m M (q_ext rfl rfl) rfl rfl ?_
 refine wl_e (e_alloc M z29) rfl rfl ?_
 rintro _ w10 ⟨b5, rfl, M⟩
 refine wl_e0 (e_stW 0 M rfl rfl rfl sz29 rfl rfl) rfl ?_
 intro _ w11 M
 simp only [sC0, sCS] at M
 refine wl_as M rfl rfl ?_
 refine wl_nil ?_
 refine wc_seq ?_
 refine wc_region ?_
 refine wl_m M (q_ldbA 2 Tryd.underlying29 rfl sz29 rfl rfl rfl rfl) rfl rfl ?_
 refine wl_e (e_callC M (star_c aw4p M.imm ⟨_, _, rfl, (((Rf17.mono hJ21).mono hJ22).mono hJ28), (((Ra17.mono hJ21).mono hJ22).mono hJ28)⟩) Tryd.func23 rfl rfl) rfl rfl ?_
 rintro _ w12 ⟨J33, hJ33, ⟨_, t33, e33, rfl, ⟨fu33, au33, rfl, Rf33, Ra33⟩, hc33⟩, M⟩
 obtain ⟨rfl, rfl⟩ : t33 = aw4s ∧ e33 = 0 := by have := hc33.trans aw4_star; exact ⟨congrArg Prod.fst this, congrArg Prod.snd this⟩
 have hoJ33 := M.old
 refine wl_mv M rfl rfl ?_
 refine wl_m M (q_ext rfl rfl) rfl rfl ?_
 refine wl_m M (q_ext rfl rfl) rfl rfl ?_
 refine wl_e (e_alloc M z29) rfl rfl ?_
 rintro _ w13 ⟨b7, rfl, M⟩
 refine wl_e0 (e_stW 0 M rfl rfl rfl sz29 rfl rfl) rfl ?_
 intro _ w14 M
 simp only [sC0, sCS] at M
 refine wl_as M rfl rfl ?_
 refine wl_nil ?_
 refine wc_seq ?_
 refine wc_region ?_
 refine wl_m M (q_build (bd_25_0_1 _ _) ⟨⟨rfl, rfl⟩, ⟨rfl, rfl⟩, trivial⟩) rfl rfl ?_
 refine wl_e (e_bsI (E := ESPair) (xs := [(SPair.mk ⟨#[255]⟩ ⟨#[]⟩)]) M (bs_22_1 _ _) ⟨⟨rfl, rfl⟩, trivial⟩ rfl rfl (by decide)) rfl rfl ?_
 rintro _ w15 ⟨u38, J38, rfl, hJ38, R38, M⟩
 have hoJ38 := M.old
 refine wl_e (e_callC M (pairs_c [⟨⟨#[255]⟩, ⟨#[]⟩⟩] (by decide) (by decide) M.imm (((((((hT.mono hJ16).mono hJ17).mono hJ21).mono hJ22).mono hJ28).mono hJ33).mono hJ38) R38) Tryd.func15 rfl rfl) rfl rfl ?_
 rw [aw4_bad]
 rintro _ w16 ⟨J39, hJ39, ⟨_, rfl, ⟨fu39, au39, rfl, Rf39, Ra39⟩⟩, M⟩
 have hoJ39 := M.old
 refine wl_mv M rfl rfl ?_
 refine wl_m M (q_ext rfl rfl) rfl rfl ?_
 refine wl_m M (q_ext rfl rfl) rfl rfl ?_
 refine wl_e (e_alloc M z29) rfl rfl ?_
 rintro _ w17 ⟨b9, rfl, M⟩
 refine wl_e0 (e_stW 0 M rfl rfl rfl sz29 rfl rfl) rfl ?_
 intro _ w18 M
 simp only [sC0, sCS] at M
 refine wl_as M rfl rfl ?_
 refine wl_nil ?_
 refine wc_seq ?_
 refine wc_region ?_
 refine wl_m M (q_build (bd_29) trivial) rfl rfl ?_
 refine wl_e (e_callC M (invert_c zeroTra M.imm ⟨nilV, nilV, rfl, rdSl_nil _, rdSl_nil _⟩) Tryd.func25 rfl rfl) rfl rfl ?_
 rintro _ w19 ⟨J44, hJ44, ⟨_, t44, e44, rfl, ⟨fu44, au44, rfl, Rf44, Ra44⟩, hc44⟩, M⟩
 obtain ⟨rfl, rfl⟩ : t44 = zeroTra ∧ e44 = 1 := by have := hc44.trans aw4_inv; exact ⟨congrArg Prod.fst this, congrArg Prod.snd this⟩
 have hoJ44 := M.old
 refine wl_mv M rfl rfl ?_
 refine wl_m M (q_ext rfl rfl) rfl rfl ?_
 refine wl_m M (q_ext rfl rfl) rfl rfl ?_
 refine wl_e (e_alloc M z29) rfl rfl ?_
 rintro _ w20 ⟨b11, rfl, M⟩
 refine wl_e0 (e_stW 0 M rfl rfl rfl sz29 rfl rfl) rfl ?_
 intro _ w21 M
 simp only [sC0, sCS] at M
 refine wl_as M rfl rfl ?_
 refine wl_nil ?_
 refine wc_seq ?_
 refine wc_seq ?_
 refine wc_join (α := Unit) [47, 48, 49, 50, 51, 52, 53, 54, 55, 56, 57, 58, 59, 60, 61, 62, 63, 64, 65, 66, 67, 68] (fun _ => [(68, .bool ((((((!decide (0 = 0)) || (!decide (0 = 0))) || (!decide (0 = 0))) || (!decide (0 = 0))) || (!decide (1 = 1))) || (!decide (1 = 1))))]) (fun _ w' => Mem w I J44 (box b11 29 [.int .i64 zeroTra.states, .int .i64 zeroTra.start, sv fu44, sv au44] :: box b9 29 [.int .i64 zeroTra.states, .int .i64 zeroTra.start, sv fu39, sv au39] :: box b7 29 [.int .i64 aw4s.states, .int .i64 aw4s.start, sv fu33, sv au33] :: box b5 29 [.int .i64 aw4u.states, .int .i64 aw4u.start, sv fu28, sv au28] :: box b3 29 [.int .i64 aw4w.states, .int .i64 aw4w.start, sv fu22, sv au22] :: box b1 29 [.int .i64 aw4p.states, .int .i64 aw4p.start, sv fu17, sv au17] :: []) w') ?_ ?_
 ·refine wc_region ?_
  refine wl_mv M rfl rfl ?_
  refine wl_m M (q_neq rfl rfl) rfl rfl ?_
  refine wl_mv M rfl rfl ?_
  rcases Bool.eq_false_or_eq_true (!decide (0 = 0)) with hg49 | hg49
  ·refine wl_m M (q_off 2 rfl rfl rfl hg49) rfl rfl ?_
   refine wl_m M (q_off 2 rfl rfl rfl hg49) rfl rfl ?_
   refine wl_m M (q_pickT rfl hg49 rfl) rfl rfl ?_
   refine wl_mv M rfl rfl ?_
   refine wl_m M (q_off 6 rfl rfl rfl rfl) rfl rfl ?_
   refine wl_m M (q_off 6 rfl rfl rfl rfl) rfl rfl ?_
   refine wl_m M (q_pickT rfl rfl rfl) rfl rfl ?_
   refine wl_mv M rfl rfl ?_
   refine wl_m M (q_off 10 rfl rfl rfl rfl) rfl rfl ?_
   refine wl_m M (q_off 10 rfl rfl rfl rfl) rfl rfl ?_
   refine wl_m M (q_pickT rfl rfl rfl) rfl rfl ?_
   refine wl_mv M rfl rfl ?_
   refine wl_m M (q_off 14 rfl rfl rfl rfl) rfl rfl ?_
   refine wl_m M (q_off 14 rfl rfl rfl rfl) rfl rfl ?_
   refine wl_m M (q_pickT rfl rfl rfl) rfl rfl ?_
   refine wl_mv M rfl rfl ?_
   refine wl_m M (q_off 18 rfl rfl rfl rfl) rfl rfl ?_
   refine wl_m M (q_off 18 rfl rfl rfl rfl) rfl rfl ?_
   refine wl_m M (q_pickT rfl rfl rfl) rfl rfl ?_
   refine wl_nil ?_
   exact ⟨(), M, ⟨(show some (Value.bool true) = some (Value.bool ((((((!decide (0 = 0)) || (!decide (0 = 0))) || (!decide (0 = 0))) || (!decide (0 = 0))) || (!decide (1 = 1))) || (!decide (1 = 1)))) from by first | (simp only [hg49, Bool.true_or, Bool.false_or, Bool.true_and, Bool.false_and, Bool.or_true, Bool.or_false, Bool.and_true, Bool.and_false]; done) | simp_all), trivial⟩, unw_take 22 rfl rfl⟩
  refine wl_m M (q_guard 2 rfl rfl rfl hg49 (q_move rfl)) rfl rfl ?_
  refine wl_m M (q_guard 2 rfl rfl rfl hg49 (q_neq rfl rfl)) rfl rfl ?_
  refine wl_m M (q_pickF rfl hg49 rfl) rfl rfl ?_
  refine wl_mv M rfl rfl ?_
  rcases Bool.eq_false_or_eq_true (!decide (0 = 0)) with hg53 | hg53
  ·refine wl_m M (q_off 6 rfl rfl rfl hg53) rfl rfl ?_
   refine wl_m M (q_off 6 rfl rfl rfl hg53) rfl rfl ?_
   refine wl_m M (q_pickT rfl hg53 rfl) rfl rfl ?_
   refine wl_mv M rfl rfl ?_
   refine wl_m M (q_off 10 rfl rfl rfl rfl) rfl rfl ?_
   refine wl_m M (q_off 10 rfl rfl rfl rfl) rfl rfl ?_
   refine wl_m M (q_pickT rfl rfl rfl) rfl rfl ?_
   refine wl_mv M rfl rfl ?_
   refine wl_m M (q_off 14 rfl rfl rfl rfl) rfl rfl ?_
   refine wl_m M (q_off 14 rfl rfl rfl rfl) rfl rfl ?_
   refine wl_m M (q_pickT rfl rfl rfl) rfl rfl ?_
   refine wl_mv M rfl rfl ?_
   refine wl_m M (q_off 18 rfl rfl rfl rfl) rfl rfl ?_
   refine wl_m M (q_off 18 rfl rfl rfl rfl) rfl rfl ?_
   refine wl_m M (q_pickT rfl rfl rfl) rfl rfl ?_
   refine wl_nil ?_
   exact ⟨(), M, ⟨(show some (Value.bool true) = some (Value.bool ((((((!decide (0 = 0)) || (!decide (0 = 0))) || (!decide (0 = 0))) || (!decide (0 = 0))) || (!decide (1 = 1))) || (!decide (1 = 1)))) from by first | (simp only [hg49, hg53, Bool.true_or, Bool.false_or, Bool.true_and, Bool.false_and, Bool.or_true, Bool.or_false, Bool.and_true, Bool.and_false]; done) | simp_all), trivial⟩, unw_take 22 rfl rfl⟩
  refine wl_m M (q_guard 6 rfl rfl rfl hg53 (q_move rfl)) rfl rfl ?_
  refine wl_m M (q_guard 6 rfl rfl rfl hg53 (q_neq rfl rfl)) rfl rfl ?_
  refine wl_m M (q_pickF rfl hg53 rfl) rfl rfl ?_
  refine wl_mv M rfl rfl ?_
  rcases Bool.eq_false_or_eq_true (!decide (0 = 0)) with hg57 | hg57
  ·refine wl_m M (q_off 10 rfl rfl rfl hg57) rfl rfl ?_
   refine wl_m M (q_off 10 rfl rfl rfl hg57) rfl rfl ?_
   refine wl_m M (q_pickT rfl hg57 rfl) rfl rfl ?_
   refine wl_mv M rfl rfl ?_
   refine wl_m M (q_off 14 rfl rfl rfl rfl) rfl rfl ?_
   refine wl_m M (q_off 14 rfl rfl rfl rfl) rfl rfl ?_
   refine wl_m M (q_pickT rfl rfl rfl) rfl rfl ?_
   refine wl_mv M rfl rfl ?_
   refine wl_m M (q_off 18 rfl rfl rfl rfl) rfl rfl ?_
   refine wl_m M (q_off 18 rfl rfl rfl rfl) rfl rfl ?_
   refine wl_m M (q_pickT rfl rfl rfl) rfl rfl ?_
   refine wl_nil ?_
   exact ⟨(), M, ⟨(show some (Value.bool true) = some (Value.bool ((((((!decide (0 = 0)) || (!decide (0 = 0))) || (!decide (0 = 0))) || (!decide (0 = 0))) || (!decide (1 = 1))) || (!decide (1 = 1)))) from by first | (simp only [hg49, hg53, hg57, Bool.true_or, Bool.false_or, Bool.true_and, Bool.false_and, Bool.or_true, Bool.or_false, Bool.and_true, Bool.and_false]; done) | simp_all), trivial⟩, unw_take 22 rfl rfl⟩
  refine wl_m M (q_guard 10 rfl rfl rfl hg57 (q_move rfl)) rfl rfl ?_
  refine wl_m M (q_guard 10 rfl rfl rfl hg57 (q_neq rfl rfl)) rfl rfl ?_
  refine wl_m M (q_pickF rfl hg57 rfl) rfl rfl ?_
  refine wl_mv M rfl rfl ?_
  rcases Bool.eq_false_or_eq_true (!decide (0 = 0)) with hg61 | hg61
  ·refine wl_m M (q_off 14 rfl rfl rfl hg61) rfl rfl ?_
   refine wl_m M (q_off 14 rfl rfl rfl hg61) rfl rfl ?_
   refine wl_m M (q_pickT rfl hg61 rfl) rfl rfl ?_
   refine wl_mv M rfl rfl ?_
   refine wl_m M (q_off 18 rfl rfl rfl rfl) rfl rfl ?_
   refine wl_m M (q_off 18 rfl rfl rfl rfl) rfl rfl ?_
   refine wl_m M (q_pickT rfl rfl rfl) rfl rfl ?_
   refine wl_nil ?_
   exact ⟨(), M, ⟨(show some (Value.bool true) = some (Value.bool ((((((!decide (0 = 0)) || (!decide (0 = 0))) || (!decide (0 = 0))) || (!decide (0 = 0))) || (!decide (1 = 1))) || (!decide (1 = 1)))) from by first | (simp only [hg49, hg53, hg57, hg61, Bool.true_or, Bool.false_or, Bool.true_and, Bool.false_and, Bool.or_true, Bool.or_false, Bool.and_true, Bool.and_false]; done) | simp_all), trivial⟩, unw_take 22 rfl rfl⟩
  refine wl_m M (q_guard 14 rfl rfl rfl hg61 (q_move rfl)) rfl rfl ?_
  refine wl_m M (q_guard 14 rfl rfl rfl hg61 (q_neq rfl rfl)) rfl rfl ?_
  refine wl_m M (q_pickF rfl hg61 rfl) rfl rfl ?_
  refine wl_mv M rfl rfl ?_
  rcases Bool.eq_false_or_eq_true (!decide (1 = 1)) with hg65 | hg65
  ·refine wl_m M (q_off 18 rfl rfl rfl hg65) rfl rfl ?_
   refine wl_m M (q_off 18 rfl rfl rfl hg65) rfl rfl ?_
   refine wl_m M (q_pickT rfl hg65 rfl) rfl rfl ?_
   refine wl_nil ?_
   exact ⟨(), M, ⟨(show some (Value.bool true) = some (Value.bool ((((((!decide (0 = 0)) || (!decide (0 = 0))) || (!decide (0 = 0))) || (!decide (0 = 0))) || (!decide (1 = 1))) || (!decide (1 = 1)))) from by first | (simp only [hg49, hg53, hg57, hg61, hg65, Bool.true_or, Bool.false_or, Bool.true_and, Bool.false_and, Bool.or_true, Bool.or_false, Bool.and_true, Bool.and_false]; done) | simp_all), trivial⟩, unw_take 22 rfl rfl⟩
  refine wl_m M (q_guard 18 rfl rfl rfl hg65 (q_move rfl)) rfl rfl ?_
  refine wl_m M (q_guard 18 rfl rfl rfl hg65 (q_neq rfl rfl)) rfl rfl ?_
  refine wl_m M (q_pickF rfl hg65 rfl) rfl rfl ?_
  refine wl_nil ?_
  exact ⟨(), M, ⟨(show some (Value.bool (!decide (1 = 1))) = some (Value.bool ((((((!decide (0 = 0)) || (!decide (0 = 0))) || (!decide (0 = 0))) || (!decide (0 = 0))) || (!decide (1 = 1))) || (!decide (1 = 1)))) from by first | (simp only [hg49, hg53, hg57, hg61, hg65, Bool.true_or, Bool.false_or, Bool.true_and, Bool.false_and, Bool.or_true, Bool.or_false, Bool.and_true, Bool.and_false]; done) | simp_all), trivial⟩, unw_take 22 rfl rfl⟩
 rintro _ jr7 w22 M
 refine wc_cond rfl (fun ht68 => ?_) (fun ht68 => ?_)
 ·refine wc_seq ?_
  refine wc_region ?_
  refine wl_as M rfl rfl ?_
  refine wl_nil ?_
  refine wc_ret ?_
  exact absurd ht68 (by decide)
 refine wc_skip ?_
 refine wc_seq ?_
 refine wc_seq ?_
 refine wc_join (α := Unit) [69, 70, 71, 72, 73, 74, 75, 76, 77, 78, 79, 80, 81, 82, 83, 84, 85, 86, 87, 88, 89, 90, 91, 92, 93, 94, 95, 96, 97, 98, 99, 100, 101] (fun _ => [(101, .bool ((((((!decide (aw4p.states = 4)) || (!decide ((aw4p.finals.length : Int) = 2))) || (!decide ((aw4p.arcs.length : Int) = 3))) || (!decide ((Arc.mk 0 3 97 0) = (Arc.mk 0 3 97 0)))) || (!decide (aw4u.states = 7))) || (!decide (aw4s.states = 5))))]) (fun _ w' => Mem w I J44 (box b11 29 [.int .i64 zeroTra.states, .int .i64 zeroTra.start, sv fu44, sv au44] :: box b9 29 [.int .i64 zeroTra.states, .int .i64 zeroTra.start, sv fu39, sv au39] :: box b7 29 [.int .i64 aw4s.states, .int .i64 aw4s.start, sv fu33, sv au33] :: box b5 29 [.int .i64 aw4u.states, .int .i64 aw4u.start, sv fu28, sv au28] :: box b3 29 [.int .i64 aw4w.states, .int .i64 aw4w.start, sv fu22, sv au22] :: box b1 29 [.int .i64 aw4p.states, .int .i64 aw4p.start, sv fu17, sv au17] :: []) w') ?_ ?_
 ·refine wc_region ?_
  refine wl_m M (q_fa fo_29_0 rfl) rfl rfl ?_
  refine wl_m M (q_ldb 5 Tryd.underlying3 rfl rfl rfl rfl) rfl rfl ?_
  refine wl_m M (q_neq rfl rfl) rfl rfl ?_
  refine wl_mv M rfl rfl ?_
  rcases Bool.eq_false_or_eq_true (!decide (aw4p.states = 4)) with hg72 | hg72
  ·refine wl_m M (q_off 3 rfl rfl rfl hg72) rfl rfl ?_
   refine wl_m M (q_off 3 rfl rfl rfl hg72) rfl rfl ?_
   refine wl_m M (q_off 3 rfl rfl rfl hg72) rfl rfl ?_
   refine wl_m M (q_off 3 rfl rfl rfl hg72) rfl rfl ?_
   refine wl_m M (q_pickT rfl hg72 rfl) rfl rfl ?_
   refine wl_mv M rfl rfl ?_
   refine wl_m M (q_off 9 rfl rfl rfl rfl) rfl rfl ?_
   refine wl_m M (q_off 9 rfl rfl rfl rfl) rfl rfl ?_
   refine wl_m M (q_off 9 rfl rfl rfl rfl) rfl rfl ?_
   refine wl_m M (q_off 9 rfl rfl rfl rfl) rfl rfl ?_
   refine wl_m M (q_pickT rfl rfl rfl) rfl rfl ?_
   refine wl_mv M rfl rfl ?_
   refine wl_m M (q_off 15 rfl rfl rfl rfl) rfl rfl ?_
   refine wl_m M (q_off 15 rfl rfl rfl rfl) rfl rfl ?_
   refine wl_m M (q_off 15 rfl rfl rfl rfl) rfl rfl ?_
   refine wl_m M (q_off 15 rfl rfl rfl rfl) rfl rfl ?_
   refine wl_m M (q_off 15 rfl rfl rfl rfl) rfl rfl ?_
   refine wl_m M (q_off 15 rfl rfl rfl rfl) rfl rfl ?_
   refine wl_m M (q_pickT rfl rfl rfl) rfl rfl ?_
   refine wl_mv M rfl rfl ?_
   refine wl_m M (q_off 23 rfl rfl rfl rfl) rfl rfl ?_
   refine wl_m M (q_off 23 rfl rfl rfl rfl) rfl rfl ?_
   refine wl_m M (q_off 23 rfl rfl rfl rfl) rfl rfl ?_
   refine wl_m M (q_pickT rfl rfl rfl) rfl rfl ?_
   refine wl_mv M rfl rfl ?_
   refine wl_m M (q_off 28 rfl rfl rfl rfl) rfl rfl ?_
   refine wl_m M (q_off 28 rfl rfl rfl rfl) rfl rfl ?_
   refine wl_m M (q_off 28 rfl rfl rfl rfl) rfl rfl ?_
   refine wl_m M (q_pickT rfl rfl rfl) rfl rfl ?_
   refine wl_nil ?_
   exact ⟨(), M, ⟨(show some (Value.bool true) = some (Value.bool ((((((!decide (aw4p.states = 4)) || (!decide ((aw4p.finals.length : Int) = 2))) || (!decide ((aw4p.arcs.length : Int) = 3))) || (!decide ((Arc.mk 0 3 97 0) = (Arc.mk 0 3 97 0)))) || (!decide (aw4u.states = 7))) || (!decide (aw4s.states = 5)))) from by first | (simp only [hg72, Bool.true_or, Bool.false_or, Bool.true_and, Bool.false_and, Bool.or_true, Bool.or_false, Bool.and_true, Bool.and_false]; done) | simp_all), trivial⟩, unw_take 33 rfl rfl⟩
  refine wl_m M (q_guard 3 rfl rfl rfl hg72 (q_fa fo_29_2 rfl)) rfl rfl ?_
  refine wl_m M (q_guard 3 rfl rfl rfl hg72 (q_ldb 5 Tryd.underlying26 rfl rfl rfl rfl)) rfl rfl ?_
  refine wl_m M (q_guard 3 rfl rfl rfl hg72 (q_lenR (((((((Rf17.mono hJ21).mono hJ22).mono hJ28).mono hJ33).mono hJ38).mono hJ39).mono hJ44) Tryd.underlying26 rfl)) rfl rfl ?_
  refine wl_m M (q_guard 3 rfl rfl rfl hg72 (q_neq rfl rfl)) rfl rfl ?_
  refine wl_m M (q_pickF rfl hg72 rfl) rfl rfl ?_
  refine wl_mv M rfl rfl ?_
  rcases Bool.eq_false_or_eq_true (!decide ((aw4p.finals.length : Int) = 2)) with hg78 | hg78
  ·refine wl_m M (q_off 9 rfl rfl rfl hg78) rfl rfl ?_
   refine wl_m M (q_off 9 rfl rfl rfl hg78) rfl rfl ?_
   refine wl_m M (q_off 9 rfl rfl rfl hg78) rfl rfl ?_
   refine wl_m M (q_off 9 rfl rfl rfl hg78) rfl rfl ?_
   refine wl_m M (q_pickT rfl hg78 rfl) rfl rfl ?_
   refine wl_mv M rfl rfl ?_
   refine wl_m M (q_off 15 rfl rfl rfl rfl) rfl rfl ?_
   refine wl_m M (q_off 15 rfl rfl rfl rfl) rfl rfl ?_
   refine wl_m M (q_off 15 rfl rfl rfl rfl) rfl rfl ?_
   refine wl_m M (q_off 15 rfl rfl rfl rfl) rfl rfl ?_
   refine wl_m M (q_off 15 rfl rfl rfl rfl) rfl rfl ?_
   refine wl_m M (q_off 15 rfl rfl rfl rfl) rfl rfl ?_
   refine wl_m M (q_pickT rfl rfl rfl) rfl rfl ?_
   refine wl_mv M rfl rfl ?_
   refine wl_m M (q_off 23 rfl rfl rfl rfl) rfl rfl ?_
   refine wl_m M (q_off 23 rfl rfl rfl rfl) rfl rfl ?_
   refine wl_m M (q_off 23 rfl rfl rfl rfl) rfl rfl ?_
   refine wl_m M (q_pickT rfl rfl rfl) rfl rfl ?_
   refine wl_mv M rfl rfl ?_
   refine wl_m M (q_off 28 rfl rfl rfl rfl) rfl rfl ?_
   refine wl_m M (q_off 28 rfl rfl rfl rfl) rfl rfl ?_
   refine wl_m M (q_off 28 rfl rfl rfl rfl) rfl rfl ?_
   refine wl_m M (q_pickT rfl rfl rfl) rfl rfl ?_
   refine wl_nil ?_
   exact ⟨(), M, ⟨(show some (Value.bool true) = some (Value.bool ((((((!decide (aw4p.states = 4)) || (!decide ((aw4p.finals.length : Int) = 2))) || (!decide ((aw4p.arcs.length : Int) = 3))) || (!decide ((Arc.mk 0 3 97 0) = (Arc.mk 0 3 97 0)))) || (!decide (aw4u.states = 7))) || (!decide (aw4s.states = 5)))) from by first | (simp only [hg72, hg78, Bool.true_or, Bool.false_or, Bool.true_and, Bool.false_and, Bool.or_true, Bool.or_false, Bool.and_true, Bool.and_false]; done) | simp_all), trivial⟩, unw_take 33 rfl rfl⟩
  refine wl_m M (q_guard 9 rfl rfl rfl hg78 (q_fa fo_29_3 rfl)) rfl rfl ?_
  refine wl_m M (q_guard 9 rfl rfl rfl hg78 (q_ldb 5 Tryd.underlying27 rfl rfl rfl rfl)) rfl rfl ?_
  refine wl_m M (q_guard 9 rfl rfl rfl hg78 (q_lenR (((((((Ra17.mono hJ21).mono hJ22).mono hJ28).mono hJ33).mono hJ38).mono hJ39).mono hJ44) Tryd.underlying27 rfl)) rfl rfl ?_
  refine wl_m M (q_guard 9 rfl rfl rfl hg78 (q_neq rfl rfl)) rfl rfl ?_
  refine wl_m M (q_pickF rfl hg78 rfl) rfl rfl ?_
  refine wl_mv M rfl rfl ?_
  rcases Bool.eq_false_or_eq_true (!decide ((aw4p.arcs.length : Int) = 3)) with hg84 | hg84
  ·refine wl_m M (q_off 15 rfl rfl rfl hg84) rfl rfl ?_
   refine wl_m M (q_off 15 rfl rfl rfl hg84) rfl rfl ?_
   refine wl_m M (q_off 15 rfl rfl rfl hg84) rfl rfl ?_
   refine wl_m M (q_off 15 rfl rfl rfl hg84) rfl rfl ?_
   refine wl_m M (q_off 15 rfl rfl rfl hg84) rfl rfl ?_
   refine wl_m M (q_off 15 rfl rfl rfl hg84) rfl rfl ?_
   refine wl_m M (q_pickT rfl hg84 rfl) rfl rfl ?_
   refine wl_mv M rfl rfl ?_
   refine wl_m M (q_off 23 rfl rfl rfl rfl) rfl rfl ?_
   refine wl_m M (q_off 23 rfl rfl rfl rfl) rfl rfl ?_
   refine wl_m M (q_off 23 rfl rfl rfl rfl) rfl rfl ?_
   refine wl_m M (q_pickT rfl rfl rfl) rfl rfl ?_
   refine wl_mv M rfl rfl ?_
   refine wl_m M (q_off 28 rfl rfl rfl rfl) rfl rfl ?_
   refine wl_m M (q_off 28 rfl rfl rfl rfl) rfl rfl ?_
   refine wl_m M (q_off 28 rfl rfl rfl rfl) rfl rfl ?_
   refine wl_m M (q_pickT rfl rfl rfl) rfl rfl ?_
   refine wl_nil ?_
   exact ⟨(), M, ⟨(show some (Value.bool true) = some (Value.bool ((((((!decide (aw4p.states = 4)) || (!decide ((aw4p.finals.length : Int) = 2))) || (!decide ((aw4p.arcs.length : Int) = 3))) || (!decide ((Arc.mk 0 3 97 0) = (Arc.mk 0 3 97 0)))) || (!decide (aw4u.states = 7))) || (!decide (aw4s.states = 5)))) from by first | (simp only [hg72, hg78, hg84, Bool.true_or, Bool.false_or, Bool.true_and, Bool.false_and, Bool.or_true, Bool.or_false, Bool.and_true, Bool.and_false]; done) | simp_all), trivial⟩, unw_take 33 rfl rfl⟩
  refine wl_m M (q_guard 15 rfl rfl rfl hg84 (q_fa fo_29_3 rfl)) rfl rfl ?_
  refine wl_m M (q_guard 15 rfl rfl rfl hg84 (q_ldb 5 Tryd.underlying27 rfl rfl rfl rfl)) rfl rfl ?_
  refine wl_ixG (j := 1) 15 rfl rfl rfl hg84 M (((((((Ra17.mono hJ21).mono hJ22).mono hJ28).mono hJ33).mono hJ38).mono hJ39).mono hJ44) Tryd.underlying27 rfl rfl rfl rfl (fun b87 o87 p87 => ?_)
  refine wl_m M (q_guard 15 rfl rfl rfl hg84 (q_ldp p87 rfl rfl)) rfl rfl ?_
  refine wl_m M (q_guard 15 rfl rfl rfl hg84 (q_build (bd_52_0_1_2 _ _ _) ⟨⟨rfl, rfl⟩, ⟨rfl, rfl⟩, ⟨rfl, rfl⟩, trivial⟩)) rfl rfl ?_
  refine wl_m M (q_guard 15 rfl rfl rfl hg84 (q_neqK QArcE (Arc.mk 0 3 97 0) (Arc.mk 0 3 97 0) rfl rfl rfl)) rfl rfl ?_
  refine wl_m M (q_pickF rfl hg84 rfl) rfl rfl ?_
  refine wl_mv M rfl rfl ?_
  rcases Bool.eq_false_or_eq_true (!decide ((Arc.mk 0 3 97 0) = (Arc.mk 0 3 97 0))) with hg92 | hg92
  ·refine wl_m M (q_off 23 rfl rfl rfl hg92) rfl rfl ?_
   refine wl_m M (q_off 23 rfl rfl rfl hg92) rfl rfl ?_
   refine wl_m M (q_off 23 rfl rfl rfl hg92) rfl rfl ?_
   refine wl_m M (q_pickT rfl hg92 rfl) rfl rfl ?_
   refine wl_mv M rfl rfl ?_
   refine wl_m M (q_off 28 rfl rfl rfl rfl) rfl rfl ?_
   refine wl_m M (q_off 28 rfl rfl rfl rfl) rfl rfl ?_
   refine wl_m M (q_off 28 rfl rfl rfl rfl) rfl rfl ?_
   refine wl_m M (q_pickT rfl rfl rfl) rfl rfl ?_
   refine wl_nil ?_
   exact ⟨(), M, ⟨(show some (Value.bool true) = some (Value.bool ((((((!decide (aw4p.states = 4)) || (!decide ((aw4p.finals.length : Int) = 2))) || (!decide ((aw4p.arcs.length : Int) = 3))) || (!decide ((Arc.mk 0 3 97 0) = (Arc.mk 0 3 97 0)))) || (!decide (aw4u.states = 7))) || (!decide (aw4s.states = 5)))) from by first | (simp only [hg72, hg78, hg84, hg92, Bool.true_or, Bool.false_or, Bool.true_and, Bool.false_and, Bool.or_true, Bool.or_false, Bool.and_true, Bool.and_false]; done) | simp_all), trivial⟩, unw_take 33 rfl rfl⟩
  refine wl_m M (q_guard 23 rfl rfl rfl hg92 (q_fa fo_29_0 rfl)) rfl rfl ?_
  refine wl_m M (q_guard 23 rfl rfl rfl hg92 (q_ldb 3 Tryd.underlying3 rfl rfl rfl rfl)) rfl rfl ?_
  refine wl_m M (q_guard 23 rfl rfl rfl hg92 (q_neq rfl rfl)) rfl rfl ?_
  refine wl_m M (q_pickF rfl hg92 rfl) rfl rfl ?_
  refine wl_mv M rfl rfl ?_
  rcases Bool.eq_false_or_eq_true (!decide (aw4u.states = 7)) with hg97 | hg97
  ·refine wl_m M (q_off 28 rfl rfl rfl hg97) rfl rfl ?_
   refine wl_m M (q_off 28 rfl rfl rfl hg97) rfl rfl ?_
   refine wl_m M (q_off 28 rfl rfl rfl hg97) rfl rfl ?_
   refine wl_m M (q_pickT rfl hg97 rfl) rfl rfl ?_
   refine wl_nil ?_
   exact ⟨(), M, ⟨(show some (Value.bool true) = some (Value.bool ((((((!decide (aw4p.states = 4)) || (!decide ((aw4p.finals.length : Int) = 2))) || (!decide ((aw4p.arcs.length : Int) = 3))) || (!decide ((Arc.mk 0 3 97 0) = (Arc.mk 0 3 97 0)))) || (!decide (aw4u.states = 7))) || (!decide (aw4s.states = 5)))) from by first | (simp only [hg72, hg78, hg84, hg92, hg97, Bool.true_or, Bool.false_or, Bool.true_and, Bool.false_and, Bool.or_true, Bool.or_false, Bool.and_true, Bool.and_false]; done) | simp_all), trivial⟩, unw_take 33 rfl rfl⟩
  refine wl_m M (q_guard 28 rfl rfl rfl hg97 (q_fa fo_29_0 rfl)) rfl rfl ?_
  refine wl_m M (q_guard 28 rfl rfl rfl hg97 (q_ldb 2 Tryd.underlying3 rfl rfl rfl rfl)) rfl rfl ?_
  refine wl_m M (q_guard 28 rfl rfl rfl hg97 (q_neq rfl rfl)) rfl rfl ?_
  refine wl_m M (q_pickF rfl hg97 rfl) rfl rfl ?_
  refine wl_nil ?_
  exact ⟨(), M, ⟨(show some (Value.bool (!decide (aw4s.states = 5))) = some (Value.bool ((((((!decide (aw4p.states = 4)) || (!decide ((aw4p.finals.length : Int) = 2))) || (!decide ((aw4p.arcs.length : Int) = 3))) || (!decide ((Arc.mk 0 3 97 0) = (Arc.mk 0 3 97 0)))) || (!decide (aw4u.states = 7))) || (!decide (aw4s.states = 5)))) from by first | (simp only [hg72, hg78, hg84, hg92, hg97, Bool.true_or, Bool.false_or, Bool.true_and, Bool.false_and, Bool.or_true, Bool.or_false, Bool.and_true, Bool.and_false]; done) | simp_all), trivial⟩, unw_take 33 rfl rfl⟩
 rintro _ jr9 w23 M
 refine wc_cond rfl (fun ht101 => ?_) (fun ht101 => ?_)
 ·refine wc_seq ?_
  refine wc_region ?_
  refine wl_as M rfl rfl ?_
  refine wl_nil ?_
  refine wc_ret ?_
  exact absurd ht101 (by decide +kernel)
 refine wc_skip ?_
 refine wc_seq ?_
 refine wc_join (α := Unit) [0, 102, 103, 104, 105, 106, 107, 108, 109, 110, 111, 112] (fun _ => [(0, .bool (((relS aw4s ⟨#[97, 98, 97]⟩ ⟨#[99]⟩) && (!(relS aw4s ⟨#[98]⟩ ⟨#[]⟩))) && (relS aw4u ⟨#[120]⟩ ⟨#[120]⟩)))]) (fun _ w' => Mem w I J44 (box b11 29 [.int .i64 zeroTra.states, .int .i64 zeroTra.start, sv fu44, sv au44] :: box b9 29 [.int .i64 zeroTra.states, .int .i64 zeroTra.start, sv fu39, sv au39] :: box b7 29 [.int .i64 aw4s.states, .int .i64 aw4s.start, sv fu33, sv au33] :: box b5 29 [.int .i64 aw4u.states, .int .i64 aw4u.start, sv fu28, sv au28] :: box b3 29 [.int .i64 aw4w.states, .int .i64 aw4w.start, sv fu22, sv au22] :: box b1 29 [.int .i64 aw4p.states, .int .i64 aw4p.start, sv fu17, sv au17] :: []) w') ?_ ?_
 ·refine wc_region ?_
  refine wl_m M (q_ldbA 2 Tryd.underlying29 rfl sz29 rfl rfl rfl rfl) rfl rfl ?_
  refine wl_e (e_callC M (relates_c aw4s ⟨#[97, 98, 97]⟩ ⟨#[99]⟩ (by decide) (by decide) (by decide) M.imm ⟨_, _, rfl, (((Rf33.mono hJ38).mono hJ39).mono hJ44), (((Ra33.mono hJ38).mono hJ39).mono hJ44)⟩) Tryd.func20 rfl rfl) rfl rfl ?_
  rintro _ w24 ⟨J103, hJ103, rfl, M⟩
  replace M := M.less hJ103 hoJ44
  refine wl_mv M rfl rfl ?_
  rcases Bool.eq_false_or_eq_true (relS aw4s ⟨#[97, 98, 97]⟩ ⟨#[99]⟩) with hg104 | hg104
  ·refine wl_m M (q_guard 2 rfl rfl rfl hg104 (q_ldbA 2 Tryd.underlying29 rfl sz29 rfl rfl rfl rfl)) rfl rfl ?_
   refine wl_e (e_guard 2 rfl rfl rfl hg104 (e_callC M (relates_c aw4s ⟨#[98]⟩ ⟨#[]⟩ (by decide) (by decide) (by decide) M.imm ⟨_, _, rfl, (((Rf33.mono hJ38).mono hJ39).mono hJ44), (((Ra33.mono hJ38).mono hJ39).mono hJ44)⟩) Tryd.func20 rfl rfl)) rfl rfl ?_
   rintro _ w25 ⟨J106, hJ106, rfl, M⟩
   replace M := M.less hJ106 hoJ44
   refine wl_m M (q_guard 2 rfl rfl rfl hg104 (q_not rfl)) rfl rfl ?_
   refine wl_m M (q_pickT rfl hg104 rfl) rfl rfl ?_
   refine wl_mv M rfl rfl ?_
   rcases Bool.eq_false_or_eq_true (!(relS aw4s ⟨#[98]⟩ ⟨#[]⟩)) with hg109 | hg109
   ·refine wl_m M (q_guard 7 rfl rfl rfl hg109 (q_ldbA 3 Tryd.underlying29 rfl sz29 rfl rfl rfl rfl)) rfl rfl ?_
    refine wl_e (e_guard 7 rfl rfl rfl hg109 (e_callC M (relates_c aw4u ⟨#[120]⟩ ⟨#[120]⟩ (by decide) (by decide) (by decide) M.imm ⟨_, _, rfl, ((((Rf28.mono hJ33).mono hJ38).mono hJ39).mono hJ44), ((((Ra28.mono hJ33).mono hJ38).mono hJ39).mono hJ44)⟩) Tryd.func20 rfl rfl)) rfl rfl ?_
    rintro _ w26 ⟨J111, hJ111, rfl, M⟩
    replace M := M.less hJ111 hoJ44
    refine wl_m M (q_pickT rfl hg109 rfl) rfl rfl ?_
    refine wl_as M rfl rfl ?_
    refine wl_nil ?_
    exact ⟨(), M, ⟨(show some (Value.bool (relS aw4u ⟨#[120]⟩ ⟨#[120]⟩)) = some (Value.bool (((relS aw4s ⟨#[97, 98, 97]⟩ ⟨#[99]⟩) && (!(relS aw4s ⟨#[98]⟩ ⟨#[]⟩))) && (relS aw4u ⟨#[120]⟩ ⟨#[120]⟩))) from by first | (simp only [hg104, hg109, Bool.true_or, Bool.false_or, Bool.true_and, Bool.false_and, Bool.or_true, Bool.or_false, Bool.and_true, Bool.and_false]; done) | simp_all), trivial⟩, unw_take 12 rfl rfl⟩
   refine wl_m M (q_off 7 rfl rfl rfl hg109) rfl rfl ?_
   refine wl_m M (q_off 7 rfl rfl rfl hg109) rfl rfl ?_
   refine wl_m M (q_pickF rfl hg109 rfl) rfl rfl ?_
   refine wl_as M rfl rfl ?_
   refine wl_nil ?_
   exact ⟨(), M, ⟨(show some (Value.bool false) = some (Value.bool (((relS aw4s ⟨#[97, 98, 97]⟩ ⟨#[99]⟩) && (!(relS aw4s ⟨#[98]⟩ ⟨#[]⟩))) && (relS aw4u ⟨#[120]⟩ ⟨#[120]⟩))) from by first | (simp only [hg104, hg109, Bool.true_or, Bool.false_or, Bool.true_and, Bool.false_and, Bool.or_true, Bool.or_false, Bool.and_true, Bool.and_false]; done) | simp_all), trivial⟩, unw_take 12 rfl rfl⟩
  refine wl_m M (q_off 2 rfl rfl rfl hg104) rfl rfl ?_
  refine wl_m M (q_off 2 rfl rfl rfl hg104) rfl rfl ?_
  refine wl_m M (q_off 2 rfl rfl rfl hg104) rfl rfl ?_
  refine wl_m M (q_pickF rfl hg104 rfl) rfl rfl ?_
  refine wl_mv M rfl rfl ?_
  refine wl_m M (q_off 7 rfl rfl rfl rfl) rfl rfl ?_
  refine wl_m M (q_off 7 rfl rfl rfl rfl) rfl rfl ?_
  refine wl_m M (q_pickF rfl rfl rfl) rfl rfl ?_
  refine wl_as M rfl rfl ?_
  refine wl_nil ?_
  exact ⟨(), M, ⟨(show some (Value.bool false) = some (Value.bool (((relS aw4s ⟨#[97, 98, 97]⟩ ⟨#[99]⟩) && (!(relS aw4s ⟨#[98]⟩ ⟨#[]⟩))) && (relS aw4u ⟨#[120]⟩ ⟨#[120]⟩))) from by first | (simp only [hg104, Bool.true_or, Bool.false_or, Bool.true_and, Bool.false_and, Bool.or_true, Bool.or_false, Bool.and_true, Bool.and_false]; done) | simp_all), trivial⟩, unw_take 12 rfl rfl⟩
 rintro _ jr11 w27 M
 refine wc_ret ?_
 exact out1 rfl rfl ⟨_, _, rfl, M.grow, by rw [aw4_r1, aw4_r2, aw4_r3]; rfl⟩
end Go.Proofs.YtoilmeiikgegcaaDoor.G
