/- Walks of the program's functions. -/
import Derived.Test.YtoilmeiikgegcaaDoorWG
import Derived.Test.YtoilmeiikgegcaaDoorGFin
set_option linter.all false
namespace Go.Proofs.YtoilmeiikgegcaaDoor.G
open Go Go.RowKit
theorem limited4_c {t : Tra} {m : Nat} (hst : t.states = m) (hm : m ≤ 1073741824) (hr : t.Rng m) (hfs : t.finals.Pairwise (· < ·)) (hal : t.arcs.length ≤ 1073741824) (hfl : t.finals.length ≤ 1073741824) {v : Value} {I : Heap} {w : World} (hI : hle I (hp w)) (R : t.rd I v) :
    Calls A 45 #[v] w (Ret w I fun r I' => ∃ v', r = .tuple #[v', .int .i64 (FinS t m).2] ∧ (FinS t m).1.rd I' v') := by
 obtain ⟨fu1, au1, rfl, Rf1, Ra1⟩ := R
 have M := Mem.start hI
 refine enter Tryd.func45 rfl 17 Tryd.ntmps45 [_] rfl ?_
 refine wc_seq ?_
 refine wc_region ?_
 refine wl_e (e_box M rfl) rfl rfl ?_
 rintro _ w1 ⟨b1, rfl, M⟩
 refine wl_e (e_alloc M z29) rfl rfl ?_
 rintro _ w2 ⟨b2, rfl, M⟩
 refine wl_as M rfl rfl ?_
 refine wl_nil ?_
 refine wc_seq ?_
 refine wc_region ?_
 refine wl_m M (q_ldbA 1 Tryd.underlying29 rfl sz29 rfl rfl rfl rfl) rfl rfl ?_
 refine wl_e (e_callC M (trim4_c (t := t) (m := m) hst hm hr.arcs hr.start hr.fin (by omega) (by omega) M.imm ⟨_, _, rfl, Rf1, Ra1⟩) Tryd.func73 rfl rfl) rfl rfl ?_
 rintro _ w3 ⟨J5, hJ5, ⟨up, dn, hul, hdl, hup, hdn, htr⟩, M⟩
 rw [trimT_S hr hfs hup hdn] at htr
 obtain ⟨fu5, au5, rfl, Rf5, Ra5⟩ := htr
 have hoJ5 := M.old
 refine wl_e0 (e_stW 1 M rfl rfl rfl sz29 rfl rfl) rfl ?_
 intro _ w4 M
 simp only [sC0, sCS] at M
 refine wl_nil ?_
 refine wc_seq ?_
 refine wc_seq ?_
 refine wc_join (α := Unit) [6, 7, 8, 9, 10, 11, 12, 13, 14] (fun _ => [(14, .bool ((decide (512 < ((TrimS t m).states))) || (decide (4096 < (((TrimS t m).arcs).length : Int)))))]) (fun _ w' => Mem w I J5 (box b2 29 [.int .i64 0, .int .i64 0, .slice none 0 0, .slice none 0 0] :: box b1 29 [.int .i64 ((TrimS t m).states), .int .i64 ((TrimS t m).start), sv fu5, sv au5] :: []) w') ?_ ?_
 ·refine wc_region ?_
  refine wl_m M (q_fa fo_29_0 rfl) rfl rfl ?_
  refine wl_m M (q_ldb 1 Tryd.underlying3 rfl rfl rfl rfl) rfl rfl ?_
  refine wl_m M (q_gtr rfl rfl) rfl rfl ?_
  refine wl_mv M rfl rfl ?_
  rcases Bool.eq_false_or_eq_true (decide (512 < ((TrimS t m).states))) with hg9 | hg9
  ·refine wl_m M (q_off 3 rfl rfl rfl hg9) rfl rfl ?_
   refine wl_m M (q_off 3 rfl rfl rfl hg9) rfl rfl ?_
   refine wl_m M (q_off 3 rfl rfl rfl hg9) rfl rfl ?_
   refine wl_m M (q_off 3 rfl rfl rfl hg9) rfl rfl ?_
   refine wl_m M (q_pickT rfl hg9 rfl) rfl rfl ?_
   refine wl_nil ?_
   exact ⟨(), M, ⟨(show some (Value.bool true) = some (Value.bool ((decide (512 < ((TrimS t m).states))) || (decide (4096 < (((TrimS t m).arcs).length : Int))))) from by first | (simp only [hg9, Bool.true_or, Bool.false_or, Bool.true_and, Bool.false_and, Bool.or_true, Bool.or_false, Bool.and_true, Bool.and_false]; done) | simp_all), trivial⟩, unw_take 9 rfl rfl⟩
  refine wl_m M (q_guard 3 rfl rfl rfl hg9 (q_fa fo_29_3 rfl)) rfl rfl ?_
  refine wl_m M (q_guard 3 rfl rfl rfl hg9 (q_ldb 1 Tryd.underlying27 rfl rfl rfl rfl)) rfl rfl ?_
  refine wl_m M (q_guard 3 rfl rfl rfl hg9 (q_lenR Ra5 Tryd.underlying27 rfl)) rfl rfl ?_
  refine wl_m M (q_guard 3 rfl rfl rfl hg9 (q_gtr rfl rfl)) rfl rfl ?_
  refine wl_m M (q_pickF rfl hg9 rfl) rfl rfl ?_
  refine wl_nil ?_
  exact ⟨(), M, ⟨(show some (Value.bool (decide (4096 < (((TrimS t m).arcs).length : Int)))) = some (Value.bool ((decide (512 < ((TrimS t m).states))) || (decide (4096 < (((TrimS t m).arcs).length : Int))))) from by first | (simp only [hg9, Bool.true_or, Bool.false_or, Bool.true_and, Bool.false_and, Bool.or_true, Bool.or_false, Bool.and_true, Bool.and_false]; done) | simp_all), trivial⟩, unw_take 9 rfl rfl⟩
 rintro _ jr2 w5 M
 refine wc_cond rfl (fun ht14 => ?_) (fun ht14 => ?_)
 ·refine wc_seq ?_
  refine wc_region ?_
  refine wl_m M (q_build (bd_29) trivial) rfl rfl ?_
  refine wl_e0 (e_stW 0 M rfl rfl rfl sz29 rfl rfl) rfl ?_
  intro _ w6 M
  simp only [sC0, sCS] at M
  refine wl_as M rfl rfl ?_
  refine wl_nil ?_
  refine wc_ret ?_
  have hF : FinS t m = (zeroTra, 2) := by rw [FinS, limS, if_pos ht14]
  exact outc2 rfl rfl (load_boxA M 0 Tryd.underlying29 rfl sz29 rfl rfl rfl) rfl ⟨_, _, rfl, M.grow, _, by rw [hF], by rw [hF]; exact ⟨nilV, nilV, rfl, rdSl_nil _, rdSl_nil _⟩⟩
 refine wc_skip ?_
 refine wc_seq ?_
 refine wc_region ?_
 refine wl_m M (q_ldbA 1 Tryd.underlying29 rfl sz29 rfl rfl rfl rfl) rfl rfl ?_
 refine wl_e0 (e_stW 0 M rfl rfl rfl sz29 rfl rfl) rfl ?_
 intro _ w7 M
 simp only [sC0, sCS] at M
 refine wl_as M rfl rfl ?_
 refine wl_nil ?_
 refine wc_ret ?_
 have hF : FinS t m = (TrimS t m, 0) := by rw [FinS, limS, if_neg (by rw [ht14]; decide)]
 exact outc2 rfl rfl (load_boxA M 0 Tryd.underlying29 rfl sz29 rfl rfl rfl) rfl ⟨_, _, rfl, M.grow, _, by rw [hF], by rw [hF]; exact ⟨_, _, rfl, Rf5, Ra5⟩⟩
end Go.Proofs.YtoilmeiikgegcaaDoor.G
