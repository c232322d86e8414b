/- Walks of the program's functions. -/
import Derived.Test.YtoilmeiikgegcaaDoorWLb
import Derived.Test.YtoilmeiikgegcaaDoorWSc
set_option linter.all false
namespace Go.Proofs.YtoilmeiikgegcaaDoor.G
open Go Go.RowKit
theorem lawProjects_c (a : Tra) (x y : ByteArray) {v1 : Value} {I : Heap} {w : World} (hI : hle I (hp w)) (hT : Tabs I) (R1 : a.rd I v1) : Calls A 12 #[v1, .string x, .string y] w (Ret w I fun r _ => r = .bool true) := by
 obtain ⟨fu1, au1, rfl, Rf1, Ra1⟩ := R1
 have M := Mem.start hI
 refine enter Tryd.func12 rfl 88 Tryd.ntmps12 [_, _, _] rfl ?_
 refine wc_seq ?_
 refine wc_region ?_
 refine wl_e (e_box M rfl) rfl rfl ?_
 rintro _ w1 ⟨b3, rfl, M⟩
 refine wl_as M rfl rfl ?_
 refine wl_nil ?_
 refine wc_seq ?_
 refine wc_seq ?_
 refine wc_region ?_
 refine wl_e (e_callC M (awake4_c M.imm hT) Tryd.func14 rfl rfl) rfl rfl ?_
 rintro _ w2 ⟨J11, hJ11, rfl, M⟩
 replace M := M.less hJ11 (fun _ _ => rfl)
 refine wl_m M (q_not rfl) rfl rfl ?_
 refine wl_nil ?_
 refine wc_cond rfl (fun ht12 => ?_) (fun ht12 => ?_)
 ·refine wc_seq ?_
  refine wc_region ?_
  refine wl_as M rfl rfl ?_
  refine wl_nil ?_
  refine wc_ret ?_
  exact absurd ht12 (by decide)
 refine wc_skip ?_
 refine wc_seq ?_
 refine wc_seq ?_
 refine wc_join (α := Unit) [13, 14, 15, 16, 17, 18, 19, 20, 21, 22, 23, 24, 25, 26] (fun _ => [(26, .bool (((!([a].all smallB)) || (decide (20 < (x.size : Int)))) || (decide (20 < (y.size : Int)))))]) (fun _ w' => Mem w I I (box b3 29 [.int .i64 a.states, .int .i64 a.start, sv fu1, sv au1] :: []) w') ?_ ?_
 ·refine wc_region ?_
  refine wl_m M (q_ldbA 0 Tryd.underlying29 rfl sz29 rfl rfl rfl rfl) rfl rfl ?_
  refine wl_e (e_bsI (E := ETra) (xs := [(RTra.mk a.states a.start fu1 au1)]) M (bs_66_1 _ _ _ _) ⟨⟨rfl, rfl⟩, trivial⟩ rfl rfl (by decide)) rfl rfl ?_
  rintro _ w3 ⟨u14, J14, rfl, hJ14, R14, M⟩
  have hoJ14 := M.old
  refine wl_e (e_callC M (small4_c M.imm (rdTras1 R14 (Rf1.mono hJ14) (Ra1.mono hJ14))) Tryd.func21 rfl rfl) rfl rfl ?_
  rintro _ w4 ⟨J15, hJ15, rfl, M⟩
  replace M := M.less hJ15 hoJ14
  refine wl_m M (q_not rfl) rfl rfl ?_
  refine wl_mv M rfl rfl ?_
  rcases Bool.eq_false_or_eq_true (!([a].all smallB)) with hg17 | hg17
  ·refine wl_m M (q_off 4 rfl rfl rfl hg17) rfl rfl ?_
   refine wl_m M (q_off 4 rfl rfl rfl hg17) rfl rfl ?_
   refine wl_m M (q_off 4 rfl rfl rfl hg17) rfl rfl ?_
   refine wl_m M (q_pickT rfl hg17 rfl) rfl rfl ?_
   refine wl_mv M rfl rfl ?_
   refine wl_m M (q_off 9 rfl rfl rfl rfl) rfl rfl ?_
   refine wl_m M (q_off 9 rfl rfl rfl rfl) rfl rfl ?_
   refine wl_m M (q_off 9 rfl rfl rfl rfl) rfl rfl ?_
   refine wl_m M (q_pickT rfl rfl rfl) rfl rfl ?_
   refine wl_nil ?_
   replace M := M.less hJ14 (fun _ _ => rfl)
   exact ⟨(), M, ⟨(show some (Value.bool true) = some (Value.bool (((!([a].all smallB)) || (decide (20 < (x.size : Int)))) || (decide (20 < (y.size : Int))))) from by first | (simp only [hg17, Bool.true_or, Bool.false_or, Bool.true_and, Bool.false_and, Bool.or_true, Bool.or_false, Bool.and_true, Bool.and_false]; done) | simp_all), trivial⟩, unw_take 14 rfl rfl⟩
  refine wl_m M (q_guard 4 rfl rfl rfl hg17 (q_move rfl)) rfl rfl ?_
  refine wl_m M (q_guard 4 rfl rfl rfl hg17 (q_lenStr Tryd.underlying9 rfl)) rfl rfl ?_
  refine wl_m M (q_guard 4 rfl rfl rfl hg17 (q_gtr rfl rfl)) rfl rfl ?_
  refine wl_m M (q_pickF rfl hg17 rfl) rfl rfl ?_
  refine wl_mv M rfl rfl ?_
  rcases Bool.eq_false_or_eq_true (decide (20 < (x.size : Int))) with hg22 | hg22
  ·refine wl_m M (q_off 9 rfl rfl rfl hg22) rfl rfl ?_
   refine wl_m M (q_off 9 rfl rfl rfl hg22) rfl rfl ?_
   refine wl_m M (q_off 9 rfl rfl rfl hg22) rfl rfl ?_
   refine wl_m M (q_pickT rfl hg22 rfl) rfl rfl ?_
   refine wl_nil ?_
   replace M := M.less hJ14 (fun _ _ => rfl)
   exact ⟨(), M, ⟨(show some (Value.bool true) = some (Value.bool (((!([a].all smallB)) || (decide (20 < (x.size : Int)))) || (decide (20 < (y.size : Int))))) from by first | (simp only [hg17, hg22, Bool.true_or, Bool.false_or, Bool.true_and, Bool.false_and, Bool.or_true, Bool.or_false, Bool.and_true, Bool.and_false]; done) | simp_all), trivial⟩, unw_take 14 rfl rfl⟩
  refine wl_m M (q_guard 9 rfl rfl rfl hg22 (q_move rfl)) rfl rfl ?_
  refine wl_m M (q_guard 9 rfl rfl rfl hg22 (q_lenStr Tryd.underlying9 rfl)) rfl rfl ?_
  refine wl_m M (q_guard 9 rfl rfl rfl hg22 (q_gtr rfl rfl)) rfl rfl ?_
  refine wl_m M (q_pickF rfl hg22 rfl) rfl rfl ?_
  refine wl_nil ?_
  replace M := M.less hJ14 (fun _ _ => rfl)
  exact ⟨(), M, ⟨(show some (Value.bool (decide (20 < (y.size : Int)))) = some (Value.bool (((!([a].all smallB)) || (decide (20 < (x.size : Int)))) || (decide (20 < (y.size : Int))))) from by first | (simp only [hg17, hg22, Bool.true_or, Bool.false_or, Bool.true_and, Bool.false_and, Bool.or_true, Bool.or_false, Bool.and_true, Bool.and_false]; done) | simp_all), trivial⟩, unw_take 14 rfl rfl⟩
 rintro _ jr3 w5 M
 refine wc_cond rfl (fun ht26 => ?_) (fun ht26 => ?_)
 ·refine wc_seq ?_
  refine wc_region ?_
  refine wl_as M rfl rfl ?_
  refine wl_nil ?_
  refine wc_ret ?_
  exact out1 rfl rfl ⟨_, _, rfl, M.grow, rfl⟩
 have hsm : ([a].all smallB) = true := by revert ht26; generalize ([a].all smallB) = q; cases q <;> simp
 rw [hsm] at ht26
 have hxy : x.size ≤ 20 ∧ y.size ≤ 20 := by simp at ht26; omega
 obtain ⟨hsx, hsy⟩ := hxy
 obtain ⟨hva, hla, hza⟩ := small1 hsm
 have hfa := valid_fin hva
 refine wc_skip ?_
 refine wc_seq ?_
 refine wc_region ?_
 refine wl_m M (q_ldbA 0 Tryd.underlying29 rfl sz29 rfl rfl rfl rfl) rfl rfl ?_
 refine wl_e (e_callC M (domain_c a M.imm ⟨_, _, rfl, Rf1, Ra1⟩) Tryd.func27 rfl rfl) rfl rfl ?_
 rintro _ w6 ⟨J29, hJ29, ⟨_, t29, e29, rfl, ⟨fu29, au29, rfl, Rf29, Ra29⟩, hc29⟩, M⟩
 have hoJ29 := M.old
 refine wl_mv M rfl rfl ?_
 refine wl_m M (q_ext rfl rfl) rfl rfl ?_
 refine wl_m M (q_ext rfl rfl) rfl rfl ?_
 refine wl_e (e_alloc M z29) rfl rfl ?_
 rintro _ w7 ⟨b7, rfl, M⟩
 refine wl_e0 (e_stW 0 M rfl rfl rfl sz29 rfl rfl) rfl ?_
 intro _ w8 M
 simp only [sC0, sCS] at M
 refine wl_as M rfl rfl ?_
 refine wl_nil ?_
 refine wc_seq ?_
 refine wc_region ?_
 refine wl_m M (q_ldbA 1 Tryd.underlying29 rfl sz29 rfl rfl rfl rfl) rfl rfl ?_
 refine wl_e (e_callC M (range_c a M.imm ⟨_, _, rfl, (Rf1.mono hJ29), (Ra1.mono hJ29)⟩) Tryd.func29 rfl rfl) rfl rfl ?_
 rintro _ w9 ⟨J34, hJ34, ⟨_, t34, e34, rfl, ⟨fu34, au34, rfl, Rf34, Ra34⟩, hc34⟩, M⟩
 have hoJ34 := M.old
 refine wl_mv M rfl rfl ?_
 refine wl_m M (q_ext rfl rfl) rfl rfl ?_
 refine wl_m M (q_ext rfl rfl) rfl rfl ?_
 refine wl_e (e_alloc M z29) rfl rfl ?_
 rintro _ w10 ⟨b9, rfl, M⟩
 refine wl_e0 (e_stW 0 M rfl rfl rfl sz29 rfl rfl) rfl ?_
 intro _ w11 M
 simp only [sC0, sCS] at M
 refine wl_as M rfl rfl ?_
 refine wl_nil ?_
 refine wc_seq ?_
 refine wc_seq ?_
 refine wc_join (α := Unit) [37, 38, 39, 40, 41, 42] (fun _ => [(42, .bool ((!decide (e29 = 0)) || (!decide (e34 = 0))))]) (fun _ w' => Mem w I J34 (box b9 29 [.int .i64 t34.states, .int .i64 t34.start, sv fu34, sv au34] :: box b7 29 [.int .i64 t29.states, .int .i64 t29.start, sv fu29, sv au29] :: box b3 29 [.int .i64 a.states, .int .i64 a.start, sv fu1, sv au1] :: []) w') ?_ ?_
 ·refine wc_region ?_
  refine wl_mv M rfl rfl ?_
  refine wl_m M (q_neq rfl rfl) rfl rfl ?_
  refine wl_mv M rfl rfl ?_
  rcases Bool.eq_false_or_eq_true (!decide (e29 = 0)) with hg39 | hg39
  ·refine wl_m M (q_off 2 rfl rfl rfl hg39) rfl rfl ?_
   refine wl_m M (q_off 2 rfl rfl rfl hg39) rfl rfl ?_
   refine wl_m M (q_pickT rfl hg39 rfl) rfl rfl ?_
   refine wl_nil ?_
   exact ⟨(), M, ⟨(show some (Value.bool true) = some (Value.bool ((!decide (e29 = 0)) || (!decide (e34 = 0)))) from by first | (simp only [hg39, Bool.true_or, Bool.false_or, Bool.true_and, Bool.false_and, Bool.or_true, Bool.or_false, Bool.and_true, Bool.and_false]; done) | simp_all), trivial⟩, unw_take 6 rfl rfl⟩
  refine wl_m M (q_guard 2 rfl rfl rfl hg39 (q_move rfl)) rfl rfl ?_
  refine wl_m M (q_guard 2 rfl rfl rfl hg39 (q_neq rfl rfl)) rfl rfl ?_
  refine wl_m M (q_pickF rfl hg39 rfl) rfl rfl ?_
  refine wl_nil ?_
  exact ⟨(), M, ⟨(show some (Value.bool (!decide (e34 = 0))) = some (Value.bool ((!decide (e29 = 0)) || (!decide (e34 = 0)))) from by first | (simp only [hg39, Bool.true_or, Bool.false_or, Bool.true_and, Bool.false_and, Bool.or_true, Bool.or_false, Bool.and_true, Bool.and_false]; done) | simp_all), trivial⟩, unw_take 6 rfl rfl⟩
 rintro _ jr7 w12 M
 refine wc_cond rfl (fun ht42 => ?_) (fun ht42 => ?_)
 ·refine wc_seq ?_
  refine wc_region ?_
  refine wl_as M rfl rfl ?_
  refine wl_nil ?_
  refine wc_ret ?_
  obtain ⟨⟨he, hf⟩, hp1, hp2, hp3, hp4⟩ := projects_law (x := x) (y := y) hva hc29 hc34
  exact absurd ht42 (by rw [he, hf]; decide)
 refine wc_skip ?_
 refine wc_seq ?_
 refine wc_seq ?_
 refine wc_join (α := Unit) [43, 44, 45, 46, 47, 48, 49, 50, 51, 52, 53, 54, 55, 56, 57] (fun _ => [(57, .bool ((!decide (x = y)) && ((relS t29 x y) || (relS t34 x y))))]) (fun _ w' => Mem w I J34 (box b9 29 [.int .i64 t34.states, .int .i64 t34.start, sv fu34, sv au34] :: box b7 29 [.int .i64 t29.states, .int .i64 t29.start, sv fu29, sv au29] :: box b3 29 [.int .i64 a.states, .int .i64 a.start, sv fu1, sv au1] :: []) w') ?_ ?_
 ·refine wc_region ?_
  refine wl_mv M rfl rfl ?_
  refine wl_mv M rfl rfl ?_
  refine wl_m M (q_neqS rfl rfl) rfl rfl ?_
  refine wl_mv M rfl rfl ?_
  rcases Bool.eq_false_or_eq_true (!decide (x = y)) with hg46 | hg46
  ·refine wl_m M (q_guard 3 rfl rfl rfl hg46 (q_ldbA 1 Tryd.underlying29 rfl sz29 rfl rfl rfl rfl)) rfl rfl ?_
   refine wl_m M (q_guard 3 rfl rfl rfl hg46 (q_move rfl)) rfl rfl ?_
   refine wl_m M (q_guard 3 rfl rfl rfl hg46 (q_move rfl)) rfl rfl ?_
   refine wl_e (e_guard 3 rfl rfl rfl hg46 (e_callC M (relates_c t29 x y (by omega) (by omega) (Nat.le_trans (Nat.mul_le_mul (show x.size + 1 ≤ 21 by omega) (show y.size + 1 ≤ 21 by omega)) (by decide)) M.imm ⟨_, _, rfl, (Rf29.mono hJ34), (Ra29.mono hJ34)⟩) Tryd.func20 rfl rfl)) rfl rfl ?_
   rintro _ w13 ⟨J50, hJ50, rfl, M⟩
   replace M := M.less hJ50 hoJ34
   refine wl_m M (q_guard 3 rfl rfl rfl hg46 (q_move rfl)) rfl rfl ?_
   rcases Bool.eq_false_or_eq_true (relS t29 x y) with hg51 | hg51
   ·refine wl_m M (q_off 8 rfl rfl rfl hg51) rfl rfl ?_
    refine wl_m M (q_off 8 rfl rfl rfl hg51) rfl rfl ?_
    refine wl_m M (q_off 8 rfl rfl rfl hg51) rfl rfl ?_
    refine wl_m M (q_off 8 rfl rfl rfl hg51) rfl rfl ?_
    refine wl_m M (q_guard 3 rfl rfl rfl hg46 (q_pickT rfl hg51 rfl)) rfl rfl ?_
    refine wl_m M (q_pickT rfl hg46 rfl) rfl rfl ?_
    refine wl_nil ?_
    exact ⟨(), M, ⟨(show some (Value.bool true) = some (Value.bool ((!decide (x = y)) && ((relS t29 x y) || (relS t34 x y)))) from by first | (simp only [hg46, hg51, Bool.true_or, Bool.false_or, Bool.true_and, Bool.false_and, Bool.or_true, Bool.or_false, Bool.and_true, Bool.and_false]; done) | simp_all), trivial⟩, unw_take 15 rfl rfl⟩
   refine wl_m M (q_guard 8 rfl rfl rfl hg51 (q_ldbA 0 Tryd.underlying29 rfl sz29 rfl rfl rfl rfl)) rfl rfl ?_
   refine wl_m M (q_guard 8 rfl rfl rfl hg51 (q_move rfl)) rfl rfl ?_
   refine wl_m M (q_guard 8 rfl rfl rfl hg51 (q_move rfl)) rfl rfl ?_
   refine wl_e (e_guard 8 rfl rfl rfl hg51 (e_callC M (relates_c t34 x y (by omega) (by omega) (Nat.le_trans (Nat.mul_le_mul (show x.size + 1 ≤ 21 by omega) (show y.size + 1 ≤ 21 by omega)) (by decide)) M.imm ⟨_, _, rfl, Rf34, Ra34⟩) Tryd.func20 rfl rfl)) rfl rfl ?_
   rintro _ w14 ⟨J55, hJ55, rfl, M⟩
   replace M := M.less hJ55 hoJ34
   refine wl_m M (q_guard 3 rfl rfl rfl hg46 (q_pickF rfl hg51 rfl)) rfl rfl ?_
   refine wl_m M (q_pickT rfl hg46 rfl) rfl rfl ?_
   refine wl_nil ?_
   exact ⟨(), M, ⟨(show some (Value.bool (relS t34 x y)) = some (Value.bool ((!decide (x = y)) && ((relS t29 x y) || (relS t34 x y)))) from by first | (simp only [hg46, hg51, Bool.true_or, Bool.false_or, Bool.true_and, Bool.false_and, Bool.or_true, Bool.or_false, Bool.and_true, Bool.and_false]; done) | simp_all), trivial⟩, unw_take 15 rfl rfl⟩
  refine wl_m M (q_off 3 rfl rfl rfl hg46) rfl rfl ?_
  refine wl_m M (q_off 3 rfl rfl rfl hg46) rfl rfl ?_
  refine wl_m M (q_off 3 rfl rfl rfl hg46) rfl rfl ?_
  refine wl_m M (q_off 3 rfl rfl rfl hg46) rfl rfl ?_
  refine wl_m M (q_off 3 rfl rfl rfl hg46) rfl rfl ?_
  refine wl_m M (q_offu 8 rfl rfl rfl) rfl rfl ?_
  refine wl_m M (q_offu 8 rfl rfl rfl) rfl rfl ?_
  refine wl_m M (q_offu 8 rfl rfl rfl) rfl rfl ?_
  refine wl_m M (q_offu 8 rfl rfl rfl) rfl rfl ?_
  refine wl_m M (q_off 3 rfl rfl rfl hg46) rfl rfl ?_
  refine wl_m M (q_pickF rfl hg46 rfl) rfl rfl ?_
  refine wl_nil ?_
  exact ⟨(), M, ⟨(show some (Value.bool false) = some (Value.bool ((!decide (x = y)) && ((relS t29 x y) || (relS t34 x y)))) from by first | (simp only [hg46, Bool.true_or, Bool.false_or, Bool.true_and, Bool.false_and, Bool.or_true, Bool.or_false, Bool.and_true, Bool.and_false]; done) | simp_all), trivial⟩, unw_take 15 rfl rfl⟩
 rintro _ jr9 w15 M
 refine wc_cond rfl (fun ht57 => ?_) (fun ht57 => ?_)
 ·refine wc_seq ?_
  refine wc_region ?_
  refine wl_as M rfl rfl ?_
  refine wl_nil ?_
  refine wc_ret ?_
  obtain ⟨⟨he, hf⟩, hp1, hp2, hp3, hp4⟩ := projects_law (x := x) (y := y) hva hc29 hc34
  refine absurd ht57 ?_
  by_cases h : x = y
  · simp [h]
  · rw [(hp1 h).1, (hp1 h).2]; simp
 refine wc_skip ?_
 refine wc_seq ?_
 refine wc_seq ?_
 refine wc_join (α := Unit) [58, 59, 60, 61, 62, 63, 64, 65, 66, 67, 68, 69, 70, 71, 72, 73, 74, 75] (fun _ => [(75, .bool ((relS a x y) && ((!(relS t29 x x)) || (!(relS t34 y y)))))]) (fun _ w' => Mem w I J34 (box b9 29 [.int .i64 t34.states, .int .i64 t34.start, sv fu34, sv au34] :: box b7 29 [.int .i64 t29.states, .int .i64 t29.start, sv fu29, sv au29] :: box b3 29 [.int .i64 a.states, .int .i64 a.start, sv fu1, sv au1] :: []) w') ?_ ?_
 ·refine wc_region ?_
  refine wl_m M (q_ldbA 2 Tryd.underlying29 rfl sz29 rfl rfl rfl rfl) rfl rfl ?_
  refine wl_mv M rfl rfl ?_
  refine wl_mv M rfl rfl ?_
  refine wl_e (e_callC M (relates_c a x y (by omega) (by omega) (Nat.le_trans (Nat.mul_le_mul (show x.size + 1 ≤ 21 by omega) (show y.size + 1 ≤ 21 by omega)) (by decide)) M.imm ⟨_, _, rfl, ((Rf1.mono hJ29).mono hJ34), ((Ra1.mono hJ29).mono hJ34)⟩) Tryd.func20 rfl rfl) rfl rfl ?_
  rintro _ w16 ⟨J61, hJ61, rfl, M⟩
  replace M := M.less hJ61 hoJ34
  refine wl_mv M rfl rfl ?_
  rcases Bool.eq_false_or_eq_true (relS a x y) with hg62 | hg62
  ·refine wl_m M (q_guard 4 rfl rfl rfl hg62 (q_ldbA 1 Tryd.underlying29 rfl sz29 rfl rfl rfl rfl)) rfl rfl ?_
   refine wl_m M (q_guard 4 rfl rfl rfl hg62 (q_move rfl)) rfl rfl ?_
   refine wl_m M (q_guard 4 rfl rfl rfl hg62 (q_move rfl)) rfl rfl ?_
   refine wl_e (e_guard 4 rfl rfl rfl hg62 (e_callC M (relates_c t29 x x (by omega) (by omega) (Nat.le_trans (Nat.mul_le_mul (show x.size + 1 ≤ 21 by omega) (show x.size + 1 ≤ 21 by omega)) (by decide)) M.imm ⟨_, _, rfl, (Rf29.mono hJ34), (Ra29.mono hJ34)⟩) Tryd.func20 rfl rfl)) rfl rfl ?_
   rintro _ w17 ⟨J66, hJ66, rfl, M⟩
   replace M := M.less hJ66 hoJ34
   refine wl_m M (q_guard 4 rfl rfl rfl hg62 (q_not rfl)) rfl rfl ?_
   refine wl_m M (q_guard 4 rfl rfl rfl hg62 (q_move rfl)) rfl rfl ?_
   rcases Bool.eq_false_or_eq_true (!(relS t29 x x)) with hg68 | hg68
   ·refine wl_m M (q_off 10 rfl rfl rfl hg68) rfl rfl ?_
    refine wl_m M (q_off 10 rfl rfl rfl hg68) rfl rfl ?_
    refine wl_m M (q_off 10 rfl rfl rfl hg68) rfl rfl ?_
    refine wl_m M (q_off 10 rfl rfl rfl hg68) rfl rfl ?_
    refine wl_m M (q_off 10 rfl rfl rfl hg68) rfl rfl ?_
    refine wl_m M (q_guard 4 rfl rfl rfl hg62 (q_pickT rfl hg68 rfl)) rfl rfl ?_
    refine wl_m M (q_pickT rfl hg62 rfl) rfl rfl ?_
    refine wl_nil ?_
    exact ⟨(), M, ⟨(show some (Value.bool true) = some (Value.bool ((relS a x y) && ((!(relS t29 x x)) || (!(relS t34 y y))))) from by first | (simp only [hg62, hg68, Bool.true_or, Bool.false_or, Bool.true_and, Bool.false_and, Bool.or_true, Bool.or_false, Bool.and_true, Bool.and_false]; done) | simp_all), trivial⟩, unw_take 18 rfl rfl⟩
   refine wl_m M (q_guard 10 rfl rfl rfl hg68 (q_ldbA 0 Tryd.underlying29 rfl sz29 rfl rfl rfl rfl)) rfl rfl ?_
   refine wl_m M (q_guard 10 rfl rfl rfl hg68 (q_move rfl)) rfl rfl ?_
   refine wl_m M (q_guard 10 rfl rfl rfl hg68 (q_move rfl)) rfl rfl ?_
   refine wl_e (e_guard 10 rfl rfl rfl hg68 (e_callC M (relates_c t34 y y (by omega) (by omega) (Nat.le_trans (Nat.mul_le_mul (show y.size + 1 ≤ 21 by omega) (show y.size + 1 ≤ 21 by omega)) (by decide)) M.imm ⟨_, _, rfl, Rf34, Ra34⟩) Tryd.func20 rfl rfl)) rfl rfl ?_
   rintro _ w18 ⟨J72, hJ72, rfl, M⟩
   replace M := M.less hJ72 hoJ34
   refine wl_m M (q_guard 10 rfl rfl rfl hg68 (q_not rfl)) rfl rfl ?_
   refine wl_m M (q_guard 4 rfl rfl rfl hg62 (q_pickF rfl hg68 rfl)) rfl rfl ?_
   refine wl_m M (q_pickT rfl hg62 rfl) rfl rfl ?_
   refine wl_nil ?_
   exact ⟨(), M, ⟨(show some (Value.bool (!(relS t34 y y))) = some (Value.bool ((relS a x y) && ((!(relS t29 x x)) || (!(relS t34 y y))))) from by first | (simp only [hg62, hg68, Bool.true_or, Bool.false_or, Bool.true_and, Bool.false_and, Bool.or_true, Bool.or_false, Bool.and_true, Bool.and_false]; done) | simp_all), trivial⟩, unw_take 18 rfl rfl⟩
  refine wl_m M (q_off 4 rfl rfl rfl hg62) rfl rfl ?_
  refine wl_m M (q_off 4 rfl rfl rfl hg62) rfl rfl ?_
  refine wl_m M (q_off 4 rfl rfl rfl hg62) rfl rfl ?_
  refine wl_m M (q_off 4 rfl rfl rfl hg62) rfl rfl ?_
  refine wl_m M (q_off 4 rfl rfl rfl hg62) rfl rfl ?_
  refine wl_m M (q_off 4 rfl rfl rfl hg62) rfl rfl ?_
  refine wl_m M (q_offu 10 rfl rfl rfl) rfl rfl ?_
  refine wl_m M (q_offu 10 rfl rfl rfl) rfl rfl ?_
  refine wl_m M (q_offu 10 rfl rfl rfl) rfl rfl ?_
  refine wl_m M (q_offu 10 rfl rfl rfl) rfl rfl ?_
  refine wl_m M (q_offu 10 rfl rfl rfl) rfl rfl ?_
  refine wl_m M (q_off 4 rfl rfl rfl hg62) rfl rfl ?_
  refine wl_m M (q_pickF rfl hg62 rfl) rfl rfl ?_
  refine wl_nil ?_
  exact ⟨(), M, ⟨(show some (Value.bool false) = some (Value.bool ((relS a x y) && ((!(relS t29 x x)) || (!(relS t34 y y))))) from by first | (simp only [hg62, Bool.true_or, Bool.false_or, Bool.true_and, Bool.false_and, Bool.or_true, Bool.or_false, Bool.and_true, Bool.and_false]; done) | simp_all), trivial⟩, unw_take 18 rfl rfl⟩
 rintro _ jr11 w19 M
 refine wc_cond rfl (fun ht75 => ?_) (fun ht75 => ?_)
 ·refine wc_seq ?_
  refine wc_region ?_
  refine wl_as M rfl rfl ?_
  refine wl_nil ?_
  refine wc_ret ?_
  obtain ⟨⟨he, hf⟩, hp1, hp2, hp3, hp4⟩ := projects_law (x := x) (y := y) hva hc29 hc34
  refine absurd ht75 ?_
  by_cases h : relS a x y = true
  · rw [(hp2 h).1, (hp2 h).2]; simp
  · simp [h]
 refine wc_skip ?_
 refine wc_seq ?_
 refine wc_join (α := Unit) [6, 76, 77, 78, 79, 80, 81, 82, 83, 84, 85, 86, 87] (fun _ => [(6, .bool (((emptyS a) == (emptyS t29)) && ((emptyS a) == (emptyS t34))))]) (fun _ w' => Mem w I J34 (box b9 29 [.int .i64 t34.states, .int .i64 t34.start, sv fu34, sv au34] :: box b7 29 [.int .i64 t29.states, .int .i64 t29.start, sv fu29, sv au29] :: box b3 29 [.int .i64 a.states, .int .i64 a.start, sv fu1, sv au1] :: []) w') ?_ ?_
 ·refine wc_draws (fun w' => Mem w I J34 (box b9 29 [.int .i64 t34.states, .int .i64 t34.start, sv fu34, sv au34] :: box b7 29 [.int .i64 t29.states, .int .i64 t29.start, sv fu29, sv au29] :: box b3 29 [.int .i64 a.states, .int .i64 a.start, sv fu1, sv au1] :: []) w' ∧ True) [] fol ?_
  replace M := M.drew
  have hS := (⟨M, trivial⟩ : _ ∧ _)
  refine wa_q 0 rfl (by kernel_rfl) ((q_ldbA 2 Tryd.underlying29 rfl sz29 rfl rfl rfl rfl).mono fun _ h => h.1) hS rfl rfl ?_
  refine wa_q 2 rfl (by kernel_rfl) ((q_ldbA 1 Tryd.underlying29 rfl sz29 rfl rfl rfl rfl).mono fun _ h => h.1) hS rfl rfl ?_
  refine wa_e 1 rfl (by kernel_rfl) (e_callC M (emptyT_c a M.imm ⟨_, _, rfl, ((Rf1.mono hJ29).mono hJ34), ((Ra1.mono hJ29).mono hJ34)⟩) Tryd.func38 rfl rfl) rfl rfl ?_
  rintro _ w20 ⟨J77, hJ77, rfl, M⟩
  have hS := (⟨(M.less hJ77 hoJ34), trivial⟩ : _ ∧ _)
  refine ⟨fun _ => hS, ?_⟩
  replace M := M.less hJ77 hoJ34
  refine wa_e 3 rfl (by kernel_rfl) (e_callC M (emptyT_c t29 M.imm ⟨_, _, rfl, (Rf29.mono hJ34), (Ra29.mono hJ34)⟩) Tryd.func38 rfl rfl) rfl rfl ?_
  rintro _ w21 ⟨J79, hJ79, rfl, M⟩
  have hS := (⟨(M.less hJ79 hoJ34), trivial⟩ : _ ∧ _)
  refine ⟨fun _ => hS, ?_⟩
  replace M := M.less hJ79 hoJ34
  refine wa_q 4 rfl (by kernel_rfl) (q_eqlB Tryd.underlying4 rfl rfl) hS rfl rfl ?_
  refine wa_q 5 rfl (by kernel_rfl) (q_move rfl) hS rfl rfl ?_
  rcases Bool.eq_false_or_eq_true ((emptyS a) == (emptyS t29)) with hg81 | hg81
  ·refine wa_q 6 rfl (by kernel_rfl) ((q_guard 5 rfl rfl rfl hg81 (q_ldbA 2 Tryd.underlying29 rfl sz29 rfl rfl rfl rfl)).mono fun _ h => h.1) hS rfl rfl ?_
   refine wa_q 8 rfl (by kernel_rfl) ((q_guard 5 rfl rfl rfl hg81 (q_ldbA 0 Tryd.underlying29 rfl sz29 rfl rfl rfl rfl)).mono fun _ h => h.1) hS rfl rfl ?_
   refine wa_e 7 rfl (by kernel_rfl) (e_guard 5 rfl rfl rfl hg81 (e_callC M (emptyT_c a M.imm ⟨_, _, rfl, ((Rf1.mono hJ29).mono hJ34), ((Ra1.mono hJ29).mono hJ34)⟩) Tryd.func38 rfl rfl)) rfl rfl ?_
   rintro _ w22 ⟨J83, hJ83, rfl, M⟩
   have hS := (⟨(M.less hJ83 hoJ34), trivial⟩ : _ ∧ _)
   refine ⟨fun _ => hS, ?_⟩
   replace M := M.less hJ83 hoJ34
   refine wa_e 9 rfl (by kernel_rfl) (e_guard 5 rfl rfl rfl hg81 (e_callC M (emptyT_c t34 M.imm ⟨_, _, rfl, Rf34, Ra34⟩) Tryd.func38 rfl rfl)) rfl rfl ?_
   rintro _ w23 ⟨J85, hJ85, rfl, M⟩
   have hS := (⟨(M.less hJ85 hoJ34), trivial⟩ : _ ∧ _)
   refine ⟨fun _ => hS, ?_⟩
   replace M := M.less hJ85 hoJ34
   refine wa_q 10 rfl (by kernel_rfl) (q_guard 5 rfl rfl rfl hg81 (q_eqlB Tryd.underlying4 rfl rfl)) hS rfl rfl ?_
   refine wa_q 11 rfl (by kernel_rfl) (q_pickT rfl hg81 rfl) hS rfl rfl ?_
   refine wa_q 12 rfl (by kernel_rfl) (q_assign rfl) hS rfl rfl ?_
   refine wa_done (by kernel_rfl) ?_
   exact ⟨(), M, ⟨(show some (Value.bool ((emptyS a) == (emptyS t34))) = some (Value.bool (((emptyS a) == (emptyS t29)) && ((emptyS a) == (emptyS t34)))) from by first | (simp only [hg81, Bool.true_or, Bool.false_or, Bool.true_and, Bool.false_and, Bool.or_true, Bool.or_false, Bool.and_true, Bool.and_false]; done) | simp_all), trivial⟩, unw_take 13 rfl rfl⟩
  refine wa_q 6 rfl (by kernel_rfl) (q_off 5 rfl rfl rfl hg81) hS rfl rfl ?_
  refine wa_q 8 rfl (by kernel_rfl) (q_off 5 rfl rfl rfl hg81) hS rfl rfl ?_
  refine wa_q 7 rfl (by kernel_rfl) (q_off 5 rfl rfl rfl hg81) hS rfl rfl ?_
  refine wa_q 9 rfl (by kernel_rfl) (q_off 5 rfl rfl rfl hg81) hS rfl rfl ?_
  refine wa_q 10 rfl (by kernel_rfl) (q_off 5 rfl rfl rfl hg81) hS rfl rfl ?_
  refine wa_q 11 rfl (by kernel_rfl) (q_pickF rfl hg81 rfl) hS rfl rfl ?_
  refine wa_q 12 rfl (by kernel_rfl) (q_assign rfl) hS rfl rfl ?_
  refine wa_done (by kernel_rfl) ?_
  exact ⟨(), M, ⟨(show some (Value.bool false) = some (Value.bool (((emptyS a) == (emptyS t29)) && ((emptyS a) == (emptyS t34)))) from by first | (simp only [hg81, Bool.true_or, Bool.false_or, Bool.true_and, Bool.false_and, Bool.or_true, Bool.or_false, Bool.and_true, Bool.and_false]; done) | simp_all), trivial⟩, unw_take 13 rfl rfl⟩
 rintro _ jr13 w24 M
 refine wc_ret ?_
 obtain ⟨⟨he, hf⟩, hp1, hp2, hp3, hp4⟩ := projects_law (x := x) (y := y) hva hc29 hc34
 exact out1 rfl rfl ⟨_, _, rfl, M.grow, by rw [← hp3, ← hp4]; simp⟩
end Go.Proofs.YtoilmeiikgegcaaDoor.G
