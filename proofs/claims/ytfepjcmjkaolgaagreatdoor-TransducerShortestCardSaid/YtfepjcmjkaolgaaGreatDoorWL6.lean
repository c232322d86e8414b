/- Walks of the program's functions. -/
import Derived.Test.YtfepjcmjkaolgaaGreatDoorWSj
import Derived.Test.YtfepjcmjkaolgaaGreatDoorWRo
import Derived.Test.YtfepjcmjkaolgaaGreatDoorGOpn
set_option linter.all false
namespace Go.Proofs.YtfepjcmjkaolgaaGreatDoor.G
open Go Go.RowKit
theorem small3_c (t : Tra) {v1 : Value} {I : Heap} {w : World} (hI : hle I (hp w)) (R1 : t.rd I v1) : Calls A 6 #[v1] w (Ret w I fun r _ => r = .bool (smallB3 t)) := by
 obtain ⟨fu1, au1, rfl, Rf1, Ra1⟩ := R1
 have M := Mem.start hI
 refine enter Tryz.func6 rfl 28 Tryz.ntmps6 [_] rfl ?_
 refine wc_seq ?_
 refine wc_region ?_
 refine wl_e (e_box M rfl) rfl rfl ?_
 rintro _ w1 ⟨b1, rfl, M⟩
 refine wl_as M rfl rfl ?_
 refine wl_nil ?_
 refine wc_seq ?_
 refine wc_join (α := Unit) [2, 3, 4, 5, 6, 7, 8, 9, 10, 11, 12, 13, 14, 15, 16, 17, 18, 19, 20, 21, 22, 23, 24, 25, 26, 27] (fun _ => [(2, .bool (((((decide (t.states ≤ 5)) && (decide ((t.arcs.length : Int) ≤ 16))) && (validT t)) && (decide (((alphL t false).length : Int) ≤ 2))) && (decide (((alphL t true).length : Int) ≤ 2))))]) (fun _ w' => Mem w I I (box b1 25 [.int .i64 t.states, .int .i64 t.start, sv fu1, sv au1] :: []) w') ?_ ?_
 ·refine wc_region ?_
  refine wl_m M (q_fa fo_25_0 rfl) rfl rfl ?_
  refine wl_m M (q_ldb 0 Tryz.underlying3 rfl rfl rfl rfl) rfl rfl ?_
  refine wl_m M (q_leq rfl rfl) rfl rfl ?_
  refine wl_mv M rfl rfl ?_
  rcases Bool.eq_false_or_eq_true (decide (t.states ≤ 5)) with hg6 | hg6
  ·refine wl_m M (q_guard 3 rfl rfl rfl hg6 (q_fa fo_25_3 rfl)) rfl rfl ?_
   refine wl_m M (q_guard 3 rfl rfl rfl hg6 (q_ldb 0 Tryz.underlying23 rfl rfl rfl rfl)) rfl rfl ?_
   refine wl_m M (q_guard 3 rfl rfl rfl hg6 (q_lenR Ra1 Tryz.underlying23 rfl)) rfl rfl ?_
   refine wl_m M (q_guard 3 rfl rfl rfl hg6 (q_leq rfl rfl)) rfl rfl ?_
   refine wl_m M (q_pickT rfl hg6 rfl) rfl rfl ?_
   refine wl_mv M rfl rfl ?_
   rcases Bool.eq_false_or_eq_true (decide ((t.arcs.length : Int) ≤ 16)) with hg12 | hg12
   ·refine wl_m M (q_guard 9 rfl rfl rfl hg12 (q_ldbA 0 Tryz.underlying25 rfl sz25 rfl rfl rfl rfl)) rfl rfl ?_
    refine wl_e (e_guard 9 rfl rfl rfl hg12 (e_callC M (valid3_c t M.imm ⟨_, _, rfl, Rf1, Ra1⟩) Tryz.func11 rfl rfl)) rfl rfl ?_
    rintro _ w2 ⟨J14, hJ14, rfl, M⟩
    replace M := M.less hJ14 (fun _ _ => rfl)
    refine wl_m M (q_pickT rfl hg12 rfl) rfl rfl ?_
    refine wl_mv M rfl rfl ?_
    rcases Bool.eq_false_or_eq_true (validT t) with hg16 | hg16
    ·refine wl_m M (q_guard 13 rfl rfl rfl hg16 (q_ldbA 0 Tryz.underlying25 rfl sz25 rfl rfl rfl rfl)) rfl rfl ?_
     obtain ⟨m, ha, _⟩ := valid_rng (t := t) hg16
     have hal := ha.alen
     refine wl_e (e_guard 13 rfl rfl rfl hg16 (e_callC M (alphabet_c t hal false M.imm ⟨_, _, rfl, Rf1, Ra1⟩) Tryz.func16 rfl rfl)) rfl rfl ?_
     rintro v18 w3 ⟨J18, hJ18, R18, M⟩
     obtain ⟨u18, rfl⟩ := rdSl_slice R18
     have hoJ18 := M.old
     replace R18 : rdSl ERune J18 (sv u18) (alphL t false) := R18
     refine wl_m M (q_guard 13 rfl rfl rfl hg16 (q_lenR R18 Tryz.underlying37 rfl)) rfl rfl ?_
     refine wl_m M (q_guard 13 rfl rfl rfl hg16 (q_leq rfl rfl)) rfl rfl ?_
     refine wl_m M (q_pickT rfl hg16 rfl) rfl rfl ?_
     refine wl_mv M rfl rfl ?_
     rcases Bool.eq_false_or_eq_true (decide (((alphL t false).length : Int) ≤ 2)) with hg22 | hg22
     ·refine wl_m M (q_guard 19 rfl rfl rfl hg22 (q_ldbA 0 Tryz.underlying25 rfl sz25 rfl rfl rfl rfl)) rfl rfl ?_
      refine wl_e (e_guard 19 rfl rfl rfl hg22 (e_callC M (alphabet_c t hal true M.imm ⟨_, _, rfl, (Rf1.mono hJ18), (Ra1.mono hJ18)⟩) Tryz.func16 rfl rfl)) rfl rfl ?_
      rintro v24 w4 ⟨J24, hJ24, R24, M⟩
      obtain ⟨u24, rfl⟩ := rdSl_slice R24
      have hoJ24 := M.old
      replace R24 : rdSl ERune J24 (sv u24) (alphL t true) := R24
      refine wl_m M (q_guard 19 rfl rfl rfl hg22 (q_lenR R24 Tryz.underlying37 rfl)) rfl rfl ?_
      refine wl_m M (q_guard 19 rfl rfl rfl hg22 (q_leq rfl rfl)) rfl rfl ?_
      refine wl_m M (q_pickT rfl hg22 rfl) rfl rfl ?_
      refine wl_as M rfl rfl ?_
      refine wl_nil ?_
      replace M := M.less (hle.trans hJ18 hJ24) (fun _ _ => rfl)
      exact ⟨(), M, ⟨(show some (Value.bool (decide (((alphL t true).length : Int) ≤ 2))) = some (Value.bool (((((decide (t.states ≤ 5)) && (decide ((t.arcs.length : Int) ≤ 16))) && (validT t)) && (decide (((alphL t false).length : Int) ≤ 2))) && (decide (((alphL t true).length : Int) ≤ 2)))) from by first | (simp only [hg12, hg16, hg22, hg6, Bool.true_or, Bool.false_or, Bool.true_and, Bool.false_and, Bool.or_true, Bool.or_false, Bool.and_true, Bool.and_false]; done) | simp_all), trivial⟩, unw_take 26 rfl rfl⟩
     refine wl_m M (q_off 19 rfl rfl rfl hg22) rfl rfl ?_
     refine wl_m M (q_off 19 rfl rfl rfl hg22) rfl rfl ?_
     refine wl_m M (q_off 19 rfl rfl rfl hg22) rfl rfl ?_
     refine wl_m M (q_off 19 rfl rfl rfl hg22) rfl rfl ?_
     refine wl_m M (q_pickF rfl hg22 rfl) rfl rfl ?_
     refine wl_as M rfl rfl ?_
     refine wl_nil ?_
     replace M := M.less hJ18 (fun _ _ => rfl)
     exact ⟨(), M, ⟨(show some (Value.bool false) = some (Value.bool (((((decide (t.states ≤ 5)) && (decide ((t.arcs.length : Int) ≤ 16))) && (validT t)) && (decide (((alphL t false).length : Int) ≤ 2))) && (decide (((alphL t true).length : Int) ≤ 2)))) from by first | (simp only [hg12, hg16, hg22, hg6, Bool.true_or, Bool.false_or, Bool.true_and, Bool.false_and, Bool.or_true, Bool.or_false, Bool.and_true, Bool.and_false]; done) | simp_all), trivial⟩, unw_take 26 rfl rfl⟩
    refine wl_m M (q_off 13 rfl rfl rfl hg16) rfl rfl ?_
    refine wl_m M (q_off 13 rfl rfl rfl hg16) rfl rfl ?_
    refine wl_m M (q_off 13 rfl rfl rfl hg16) rfl rfl ?_
    refine wl_m M (q_off 13 rfl rfl rfl hg16) rfl rfl ?_
    refine wl_m M (q_pickF rfl hg16 rfl) rfl rfl ?_
    refine wl_mv M rfl rfl ?_
    refine wl_m M (q_off 19 rfl rfl rfl rfl) rfl rfl ?_
    refine wl_m M (q_off 19 rfl rfl rfl rfl) rfl rfl ?_
    refine wl_m M (q_off 19 rfl rfl rfl rfl) rfl rfl ?_
    refine wl_m M (q_off 19 rfl rfl rfl rfl) rfl rfl ?_
    refine wl_m M (q_pickF rfl rfl rfl) rfl rfl ?_
    refine wl_as M rfl rfl ?_
    refine wl_nil ?_
    exact ⟨(), M, ⟨(show some (Value.bool false) = some (Value.bool (((((decide (t.states ≤ 5)) && (decide ((t.arcs.length : Int) ≤ 16))) && (validT t)) && (decide (((alphL t false).length : Int) ≤ 2))) && (decide (((alphL t true).length : Int) ≤ 2)))) from by first | (simp only [hg12, hg16, hg6, Bool.true_or, Bool.false_or, Bool.true_and, Bool.false_and, Bool.or_true, Bool.or_false, Bool.and_true, Bool.and_false]; done) | simp_all), trivial⟩, unw_take 26 rfl rfl⟩
   refine wl_m M (q_off 9 rfl rfl rfl hg12) rfl rfl ?_
   refine wl_m M (q_off 9 rfl rfl rfl hg12) rfl rfl ?_
   refine wl_m M (q_pickF rfl hg12 rfl) rfl rfl ?_
   refine wl_mv M rfl rfl ?_
   refine wl_m M (q_off 13 rfl rfl rfl rfl) rfl rfl ?_
   refine wl_m M (q_off 13 rfl rfl rfl rfl) rfl rfl ?_
   refine wl_m M (q_off 13 rfl rfl rfl rfl) rfl rfl ?_
   refine wl_m M (q_off 13 rfl rfl rfl rfl) rfl rfl ?_
   refine wl_m M (q_pickF rfl rfl rfl) rfl rfl ?_
   refine wl_mv M rfl rfl ?_
   refine wl_m M (q_off 19 rfl rfl rfl rfl) rfl rfl ?_
   refine wl_m M (q_off 19 rfl rfl rfl rfl) rfl rfl ?_
   refine wl_m M (q_off 19 rfl rfl rfl rfl) rfl rfl ?_
   refine wl_m M (q_off 19 rfl rfl rfl rfl) rfl rfl ?_
   refine wl_m M (q_pickF rfl rfl rfl) rfl rfl ?_
   refine wl_as M rfl rfl ?_
   refine wl_nil ?_
   exact ⟨(), M, ⟨(show some (Value.bool false) = some (Value.bool (((((decide (t.states ≤ 5)) && (decide ((t.arcs.length : Int) ≤ 16))) && (validT t)) && (decide (((alphL t false).length : Int) ≤ 2))) && (decide (((alphL t true).length : Int) ≤ 2)))) from by first | (simp only [hg12, hg6, Bool.true_or, Bool.false_or, Bool.true_and, Bool.false_and, Bool.or_true, Bool.or_false, Bool.and_true, Bool.and_false]; done) | simp_all), trivial⟩, unw_take 26 rfl rfl⟩
  refine wl_m M (q_off 3 rfl rfl rfl hg6) rfl rfl ?_
  refine wl_m M (q_off 3 rfl rfl rfl hg6) rfl rfl ?_
  refine wl_m M (q_off 3 rfl rfl rfl hg6) rfl rfl ?_
  refine wl_m M (q_off 3 rfl rfl rfl hg6) rfl rfl ?_
  refine wl_m M (q_pickF rfl hg6 rfl) rfl rfl ?_
  refine wl_mv M rfl rfl ?_
  refine wl_m M (q_off 9 rfl rfl rfl rfl) rfl rfl ?_
  refine wl_m M (q_off 9 rfl rfl rfl rfl) rfl rfl ?_
  refine wl_m M (q_pickF rfl rfl rfl) rfl rfl ?_
  refine wl_mv M rfl rfl ?_
  refine wl_m M (q_off 13 rfl rfl rfl rfl) rfl rfl ?_
  refine wl_m M (q_off 13 rfl rfl rfl rfl) rfl rfl ?_
  refine wl_m M (q_off 13 rfl rfl rfl rfl) rfl rfl ?_
  refine wl_m M (q_off 13 rfl rfl rfl rfl) rfl rfl ?_
  refine wl_m M (q_pickF rfl rfl rfl) rfl rfl ?_
  refine wl_mv M rfl rfl ?_
  refine wl_m M (q_off 19 rfl rfl rfl rfl) rfl rfl ?_
  refine wl_m M (q_off 19 rfl rfl rfl rfl) rfl rfl ?_
  refine wl_m M (q_off 19 rfl rfl rfl rfl) rfl rfl ?_
  refine wl_m M (q_off 19 rfl rfl rfl rfl) rfl rfl ?_
  refine wl_m M (q_pickF rfl rfl rfl) rfl rfl ?_
  refine wl_as M rfl rfl ?_
  refine wl_nil ?_
  exact ⟨(), M, ⟨(show some (Value.bool false) = some (Value.bool (((((decide (t.states ≤ 5)) && (decide ((t.arcs.length : Int) ≤ 16))) && (validT t)) && (decide (((alphL t false).length : Int) ≤ 2))) && (decide (((alphL t true).length : Int) ≤ 2)))) from by first | (simp only [hg6, Bool.true_or, Bool.false_or, Bool.true_and, Bool.false_and, Bool.or_true, Bool.or_false, Bool.and_true, Bool.and_false]; done) | simp_all), trivial⟩, unw_take 26 rfl rfl⟩
 rintro _ jr1 w5 M
 refine wc_ret ?_
 exact out1 rfl rfl ⟨_, _, rfl, M.grow, rfl⟩
end Go.Proofs.YtfepjcmjkaolgaaGreatDoor.G
