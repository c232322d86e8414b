/- Walks of the program's functions. -/
import Derived.Test.YtoilmeiikgegcaaDoorWLb
set_option linter.all false
namespace Go.Proofs.YtoilmeiikgegcaaDoor.G
open Go Go.RowKit
theorem lawUnites_c (a b : Tra) (x y : ByteArray) {v1 v2 : Value} {I : Heap} {w : World} (hI : hle I (hp w)) (hT : Tabs I) (R1 : a.rd I v1) (R2 : b.rd I v2) : Calls A 5 #[v1, v2, .string x, .string y] w (Ret w I fun r _ => r = .bool true) := by
 obtain ⟨fu1, au1, rfl, Rf1, Ra1⟩ := R1
 obtain ⟨fu2, au2, rfl, Rf2, Ra2⟩ := R2
 have M := Mem.start hI
 refine enter Tryd.func5 rfl 53 Tryd.ntmps5 [_, _, _, _] rfl ?_
 refine wc_seq ?_
 refine wc_region ?_
 refine wl_e (e_box M rfl) rfl rfl ?_
 rintro _ w1 ⟨b4, rfl, M⟩
 refine wl_e (e_box M rfl) rfl rfl ?_
 rintro _ w2 ⟨b5, rfl, M⟩
 refine wl_as M rfl rfl ?_
 refine wl_nil ?_
 refine wc_seq ?_
 refine wc_seq ?_
 refine wc_region ?_
 refine wl_e (e_callC M (awake4_c M.imm hT) Tryd.func14 rfl rfl) rfl rfl ?_
 rintro _ w3 ⟨J11, hJ11, rfl, M⟩
 replace M := M.less hJ11 (fun _ _ => rfl)
 refine wl_m M (q_not rfl) rfl rfl ?_
 refine wl_nil ?_
 refine wc_cond rfl (fun ht12 => ?_) (fun ht12 => ?_)
 ·refine wc_seq ?_
  refine wc_region ?_
  refine wl_as M rfl rfl ?_
  refine wl_nil ?_
  refine wc_ret ?_
  exact absurd ht12 (by decide)
 refine wc_skip ?_
 refine wc_seq ?_
 refine wc_seq ?_
 refine wc_join (α := Unit) [13, 14, 15, 16, 17, 18, 19, 20, 21, 22, 23, 24, 25, 26, 27] (fun _ => [(27, .bool (((!([a, b].all smallB)) || (decide (20 < (x.size : Int)))) || (decide (20 < (y.size : Int)))))]) (fun _ w' => Mem w I I (box b5 29 [.int .i64 b.states, .int .i64 b.start, sv fu2, sv au2] :: box b4 29 [.int .i64 a.states, .int .i64 a.start, sv fu1, sv au1] :: []) w') ?_ ?_
 ·refine wc_region ?_
  refine wl_m M (q_ldbA 1 Tryd.underlying29 rfl sz29 rfl rfl rfl rfl) rfl rfl ?_
  refine wl_m M (q_ldbA 0 Tryd.underlying29 rfl sz29 rfl rfl rfl rfl) rfl rfl ?_
  refine wl_e (e_bsI (E := ETra) (xs := [(RTra.mk a.states a.start fu1 au1), (RTra.mk b.states b.start fu2 au2)]) M (bs_66_2 _ _ _ _ _ _ _ _) ⟨⟨rfl, rfl⟩, ⟨rfl, rfl⟩, trivial⟩ rfl rfl (by decide)) rfl rfl ?_
  rintro _ w4 ⟨u15, J15, rfl, hJ15, R15, M⟩
  have hoJ15 := M.old
  refine wl_e (e_callC M (small4_c M.imm (rdTras2 R15 (Rf1.mono hJ15) (Ra1.mono hJ15) (Rf2.mono hJ15) (Ra2.mono hJ15))) Tryd.func21 rfl rfl) rfl rfl ?_
  rintro _ w5 ⟨J16, hJ16, rfl, M⟩
  replace M := M.less hJ16 hoJ15
  refine wl_m M (q_not rfl) rfl rfl ?_
  refine wl_mv M rfl rfl ?_
  rcases Bool.eq_false_or_eq_true (!([a, b].all smallB)) with hg18 | hg18
  ·refine wl_m M (q_off 5 rfl rfl rfl hg18) rfl rfl ?_
   refine wl_m M (q_off 5 rfl rfl rfl hg18) rfl rfl ?_
   refine wl_m M (q_off 5 rfl rfl rfl hg18) rfl rfl ?_
   refine wl_m M (q_pickT rfl hg18 rfl) rfl rfl ?_
   refine wl_mv M rfl rfl ?_
   refine wl_m M (q_off 10 rfl rfl rfl rfl) rfl rfl ?_
   refine wl_m M (q_off 10 rfl rfl rfl rfl) rfl rfl ?_
   refine wl_m M (q_off 10 rfl rfl rfl rfl) rfl rfl ?_
   refine wl_m M (q_pickT rfl rfl rfl) rfl rfl ?_
   refine wl_nil ?_
   replace M := M.less hJ15 (fun _ _ => rfl)
   exact ⟨(), M, ⟨(show some (Value.bool true) = some (Value.bool (((!([a, b].all smallB)) || (decide (20 < (x.size : Int)))) || (decide (20 < (y.size : Int))))) from by first | (simp only [hg18, Bool.true_or, Bool.false_or, Bool.true_and, Bool.false_and, Bool.or_true, Bool.or_false, Bool.and_true, Bool.and_false]; done) | simp_all), trivial⟩, unw_take 15 rfl rfl⟩
  refine wl_m M (q_guard 5 rfl rfl rfl hg18 (q_move rfl)) rfl rfl ?_
  refine wl_m M (q_guard 5 rfl rfl rfl hg18 (q_lenStr Tryd.underlying9 rfl)) rfl rfl ?_
  refine wl_m M (q_guard 5 rfl rfl rfl hg18 (q_gtr rfl rfl)) rfl rfl ?_
  refine wl_m M (q_pickF rfl hg18 rfl) rfl rfl ?_
  refine wl_mv M rfl rfl ?_
  rcases Bool.eq_false_or_eq_true (decide (20 < (x.size : Int))) with hg23 | hg23
  ·refine wl_m M (q_off 10 rfl rfl rfl hg23) rfl rfl ?_
   refine wl_m M (q_off 10 rfl rfl rfl hg23) rfl rfl ?_
   refine wl_m M (q_off 10 rfl rfl rfl hg23) rfl rfl ?_
   refine wl_m M (q_pickT rfl hg23 rfl) rfl rfl ?_
   refine wl_nil ?_
   replace M := M.less hJ15 (fun _ _ => rfl)
   exact ⟨(), M, ⟨(show some (Value.bool true) = some (Value.bool (((!([a, b].all smallB)) || (decide (20 < (x.size : Int)))) || (decide (20 < (y.size : Int))))) from by first | (simp only [hg18, hg23, Bool.true_or, Bool.false_or, Bool.true_and, Bool.false_and, Bool.or_true, Bool.or_false, Bool.and_true, Bool.and_false]; done) | simp_all), trivial⟩, unw_take 15 rfl rfl⟩
  refine wl_m M (q_guard 10 rfl rfl rfl hg23 (q_move rfl)) rfl rfl ?_
  refine wl_m M (q_guard 10 rfl rfl rfl hg23 (q_lenStr Tryd.underlying9 rfl)) rfl rfl ?_
  refine wl_m M (q_guard 10 rfl rfl rfl hg23 (q_gtr rfl rfl)) rfl rfl ?_
  refine wl_m M (q_pickF rfl hg23 rfl) rfl rfl ?_
  refine wl_nil ?_
  replace M := M.less hJ15 (fun _ _ => rfl)
  exact ⟨(), M, ⟨(show some (Value.bool (decide (20 < (y.size : Int)))) = some (Value.bool (((!([a, b].all smallB)) || (decide (20 < (x.size : Int)))) || (decide (20 < (y.size : Int))))) from by first | (simp only [hg18, hg23, Bool.true_or, Bool.false_or, Bool.true_and, Bool.false_and, Bool.or_true, Bool.or_false, Bool.and_true, Bool.and_false]; done) | simp_all), trivial⟩, unw_take 15 rfl rfl⟩
 rintro _ jr3 w6 M
 refine wc_cond rfl (fun ht27 => ?_) (fun ht27 => ?_)
 ·refine wc_seq ?_
  refine wc_region ?_
  refine wl_as M rfl rfl ?_
  refine wl_nil ?_
  refine wc_ret ?_
  exact out1 rfl rfl ⟨_, _, rfl, M.grow, rfl⟩
 have hsm : ([a, b].all smallB) = true := by revert ht27; generalize ([a, b].all smallB) = q; cases q <;> simp
 rw [hsm] at ht27
 have hxy : x.size ≤ 20 ∧ y.size ≤ 20 := by simp at ht27; omega
 obtain ⟨hsx, hsy⟩ := hxy
 obtain ⟨⟨hva, hla, hza⟩, hvb, hlb, hzb⟩ := small2 hsm
 have hfa := valid_fin hva
 have hfb := valid_fin hvb
 refine wc_skip ?_
 refine wc_seq ?_
 refine wc_region ?_
 refine wl_m M (q_ldbA 1 Tryd.underlying29 rfl sz29 rfl rfl rfl rfl) rfl rfl ?_
 refine wl_m M (q_ldbA 0 Tryd.underlying29 rfl sz29 rfl rfl rfl rfl) rfl rfl ?_
 refine wl_e (e_callC M (union_c a b M.imm ⟨_, _, rfl, Rf1, Ra1⟩ ⟨_, _, rfl, Rf2, Ra2⟩) Tryd.func22 rfl rfl) rfl rfl ?_
 rintro _ w7 ⟨J31, hJ31, ⟨_, t31, e31, rfl, ⟨fu31, au31, rfl, Rf31, Ra31⟩, hc31⟩, M⟩
 have hoJ31 := M.old
 refine wl_mv M rfl rfl ?_
 refine wl_m M (q_ext rfl rfl) rfl rfl ?_
 refine wl_m M (q_ext rfl rfl) rfl rfl ?_
 refine wl_e (e_alloc M z29) rfl rfl ?_
 rintro _ w8 ⟨b9, rfl, M⟩
 refine wl_e0 (e_stW 0 M rfl rfl rfl sz29 rfl rfl) rfl ?_
 intro _ w9 M
 simp only [sC0, sCS] at M
 refine wl_as M rfl rfl ?_
 refine wl_nil ?_
 refine wc_seq ?_
 refine wc_join (α := Unit) [8, 34, 35, 36, 37, 38, 39, 40, 41, 42, 43, 44, 45, 46, 47, 48, 49, 50, 51, 52] (fun _ => [(8, .bool ((decide (e31 = 0)) && ((relS t31 x y) == ((relS a x y) || (relS b x y)))))]) (fun _ w' => Mem w I J31 (box b9 29 [.int .i64 t31.states, .int .i64 t31.start, sv fu31, sv au31] :: box b5 29 [.int .i64 b.states, .int .i64 b.start, sv fu2, sv au2] :: box b4 29 [.int .i64 a.states, .int .i64 a.start, sv fu1, sv au1] :: []) w') ?_ ?_
 ·refine wc_draws (fun w' => Mem w I J31 (box b9 29 [.int .i64 t31.states, .int .i64 t31.start, sv fu31, sv au31] :: box b5 29 [.int .i64 b.states, .int .i64 b.start, sv fu2, sv au2] :: box b4 29 [.int .i64 a.states, .int .i64 a.start, sv fu1, sv au1] :: []) w' ∧ True) [] fol ?_
  replace M := M.drew
  have hS := (⟨M, trivial⟩ : _ ∧ _)
  refine wa_q 0 rfl (by kernel_rfl) (q_move rfl) hS rfl rfl ?_
  refine wa_q 1 rfl (by kernel_rfl) (q_eql rfl rfl) hS rfl rfl ?_
  refine wa_q 2 rfl (by kernel_rfl) (q_move rfl) hS rfl rfl ?_
  rcases Bool.eq_false_or_eq_true (decide (e31 = 0)) with hg36 | hg36
  ·refine wa_q 3 rfl (by kernel_rfl) ((q_guard 2 rfl rfl rfl hg36 (q_ldbA 0 Tryd.underlying29 rfl sz29 rfl rfl rfl rfl)).mono fun _ h => h.1) hS rfl rfl ?_
   refine wa_q 4 rfl (by kernel_rfl) (q_guard 2 rfl rfl rfl hg36 (q_move rfl)) hS rfl rfl ?_
   refine wa_q 5 rfl (by kernel_rfl) (q_guard 2 rfl rfl rfl hg36 (q_move rfl)) hS rfl rfl ?_
   refine wa_q 7 rfl (by kernel_rfl) ((q_guard 2 rfl rfl rfl hg36 (q_ldbA 2 Tryd.underlying29 rfl sz29 rfl rfl rfl rfl)).mono fun _ h => h.1) hS rfl rfl ?_
   refine wa_q 8 rfl (by kernel_rfl) (q_guard 2 rfl rfl rfl hg36 (q_move rfl)) hS rfl rfl ?_
   refine wa_q 9 rfl (by kernel_rfl) (q_guard 2 rfl rfl rfl hg36 (q_move rfl)) hS rfl rfl ?_
   refine wa_e 6 rfl (by kernel_rfl) (e_guard 2 rfl rfl rfl hg36 (e_callC M (relates_c t31 x y (by omega) (by omega) (Nat.le_trans (Nat.mul_le_mul (show x.size + 1 ≤ 21 by omega) (show y.size + 1 ≤ 21 by omega)) (by decide)) M.imm ⟨_, _, rfl, Rf31, Ra31⟩) Tryd.func20 rfl rfl)) rfl rfl ?_
   rintro _ w10 ⟨J40, hJ40, rfl, M⟩
   have hS := (⟨(M.less hJ40 hoJ31), trivial⟩ : _ ∧ _)
   refine ⟨fun _ => hS, ?_⟩
   replace M := M.less hJ40 hoJ31
   refine wa_e 10 rfl (by kernel_rfl) (e_guard 2 rfl rfl rfl hg36 (e_callC M (relates_c a x y (by omega) (by omega) (Nat.le_trans (Nat.mul_le_mul (show x.size + 1 ≤ 21 by omega) (show y.size + 1 ≤ 21 by omega)) (by decide)) M.imm ⟨_, _, rfl, (Rf1.mono hJ31), (Ra1.mono hJ31)⟩) Tryd.func20 rfl rfl)) rfl rfl ?_
   rintro _ w11 ⟨J44, hJ44, rfl, M⟩
   have hS := (⟨(M.less hJ44 hoJ31), trivial⟩ : _ ∧ _)
   refine ⟨fun _ => hS, ?_⟩
   replace M := M.less hJ44 hoJ31
   refine wa_q 11 rfl (by kernel_rfl) (q_guard 2 rfl rfl rfl hg36 (q_move rfl)) hS rfl rfl ?_
   rcases Bool.eq_false_or_eq_true (relS a x y) with hg45 | hg45
   ·refine wa_q 12 rfl (by kernel_rfl) (q_off 11 rfl rfl rfl hg45) hS rfl rfl ?_
    refine wa_q 13 rfl (by kernel_rfl) (q_off 11 rfl rfl rfl hg45) hS rfl rfl ?_
    refine wa_q 14 rfl (by kernel_rfl) (q_off 11 rfl rfl rfl hg45) hS rfl rfl ?_
    refine wa_q 15 rfl (by kernel_rfl) (q_off 11 rfl rfl rfl hg45) hS rfl rfl ?_
    refine wa_q 16 rfl (by kernel_rfl) (q_guard 2 rfl rfl rfl hg36 (q_pickT rfl hg45 rfl)) hS rfl rfl ?_
    refine wa_q 17 rfl (by kernel_rfl) (q_guard 2 rfl rfl rfl hg36 (q_eqlB Tryd.underlying4 rfl rfl)) hS rfl rfl ?_
    refine wa_q 18 rfl (by kernel_rfl) (q_pickT rfl hg36 rfl) hS rfl rfl ?_
    refine wa_q 19 rfl (by kernel_rfl) (q_assign rfl) hS rfl rfl ?_
    refine wa_done (by kernel_rfl) ?_
    exact ⟨(), M, ⟨(show some (Value.bool ((relS t31 x y) == true)) = some (Value.bool ((decide (e31 = 0)) && ((relS t31 x y) == ((relS a x y) || (relS b x y))))) from by first | (simp only [hg36, hg45, Bool.true_or, Bool.false_or, Bool.true_and, Bool.false_and, Bool.or_true, Bool.or_false, Bool.and_true, Bool.and_false]; done) | simp_all), trivial⟩, unw_take 20 rfl rfl⟩
   refine wa_q 12 rfl (by kernel_rfl) ((q_guard 11 rfl rfl rfl hg45 (q_ldbA 1 Tryd.underlying29 rfl sz29 rfl rfl rfl rfl)).mono fun _ h => h.1) hS rfl rfl ?_
   refine wa_q 13 rfl (by kernel_rfl) (q_guard 11 rfl rfl rfl hg45 (q_move rfl)) hS rfl rfl ?_
   refine wa_q 14 rfl (by kernel_rfl) (q_guard 11 rfl rfl rfl hg45 (q_move rfl)) hS rfl rfl ?_
   refine wa_e 15 rfl (by kernel_rfl) (e_guard 11 rfl rfl rfl hg45 (e_callC M (relates_c b x y (by omega) (by omega) (Nat.le_trans (Nat.mul_le_mul (show x.size + 1 ≤ 21 by omega) (show y.size + 1 ≤ 21 by omega)) (by decide)) M.imm ⟨_, _, rfl, (Rf2.mono hJ31), (Ra2.mono hJ31)⟩) Tryd.func20 rfl rfl)) rfl rfl ?_
   rintro _ w12 ⟨J49, hJ49, rfl, M⟩
   have hS := (⟨(M.less hJ49 hoJ31), trivial⟩ : _ ∧ _)
   refine ⟨fun _ => hS, ?_⟩
   replace M := M.less hJ49 hoJ31
   refine wa_q 16 rfl (by kernel_rfl) (q_guard 2 rfl rfl rfl hg36 (q_pickF rfl hg45 rfl)) hS rfl rfl ?_
   refine wa_q 17 rfl (by kernel_rfl) (q_guard 2 rfl rfl rfl hg36 (q_eqlB Tryd.underlying4 rfl rfl)) hS rfl rfl ?_
   refine wa_q 18 rfl (by kernel_rfl) (q_pickT rfl hg36 rfl) hS rfl rfl ?_
   refine wa_q 19 rfl (by kernel_rfl) (q_assign rfl) hS rfl rfl ?_
   refine wa_done (by kernel_rfl) ?_
   exact ⟨(), M, ⟨(show some (Value.bool ((relS t31 x y) == (relS b x y))) = some (Value.bool ((decide (e31 = 0)) && ((relS t31 x y) == ((relS a x y) || (relS b x y))))) from by first | (simp only [hg36, hg45, Bool.true_or, Bool.false_or, Bool.true_and, Bool.false_and, Bool.or_true, Bool.or_false, Bool.and_true, Bool.and_false]; done) | simp_all), trivial⟩, unw_take 20 rfl rfl⟩
  refine wa_q 3 rfl (by kernel_rfl) (q_off 2 rfl rfl rfl hg36) hS rfl rfl ?_
  refine wa_q 4 rfl (by kernel_rfl) (q_off 2 rfl rfl rfl hg36) hS rfl rfl ?_
  refine wa_q 5 rfl (by kernel_rfl) (q_off 2 rfl rfl rfl hg36) hS rfl rfl ?_
  refine wa_q 7 rfl (by kernel_rfl) (q_off 2 rfl rfl rfl hg36) hS rfl rfl ?_
  refine wa_q 8 rfl (by kernel_rfl) (q_off 2 rfl rfl rfl hg36) hS rfl rfl ?_
  refine wa_q 9 rfl (by kernel_rfl) (q_off 2 rfl rfl rfl hg36) hS rfl rfl ?_
  refine wa_q 6 rfl (by kernel_rfl) (q_off 2 rfl rfl rfl hg36) hS rfl rfl ?_
  refine wa_q 10 rfl (by kernel_rfl) (q_off 2 rfl rfl rfl hg36) hS rfl rfl ?_
  refine wa_q 11 rfl (by kernel_rfl) (q_off 2 rfl rfl rfl hg36) hS rfl rfl ?_
  refine wa_q 12 rfl (by kernel_rfl) (q_offu 11 rfl rfl rfl) hS rfl rfl ?_
  refine wa_q 13 rfl (by kernel_rfl) (q_offu 11 rfl rfl rfl) hS rfl rfl ?_
  refine wa_q 14 rfl (by kernel_rfl) (q_offu 11 rfl rfl rfl) hS rfl rfl ?_
  refine wa_q 15 rfl (by kernel_rfl) (q_offu 11 rfl rfl rfl) hS rfl rfl ?_
  refine wa_q 16 rfl (by kernel_rfl) (q_off 2 rfl rfl rfl hg36) hS rfl rfl ?_
  refine wa_q 17 rfl (by kernel_rfl) (q_off 2 rfl rfl rfl hg36) hS rfl rfl ?_
  refine wa_q 18 rfl (by kernel_rfl) (q_pickF rfl hg36 rfl) hS rfl rfl ?_
  refine wa_q 19 rfl (by kernel_rfl) (q_assign rfl) hS rfl rfl ?_
  refine wa_done (by kernel_rfl) ?_
  exact ⟨(), M, ⟨(show some (Value.bool false) = some (Value.bool ((decide (e31 = 0)) && ((relS t31 x y) == ((relS a x y) || (relS b x y))))) from by first | (simp only [hg36, Bool.true_or, Bool.false_or, Bool.true_and, Bool.false_and, Bool.or_true, Bool.or_false, Bool.and_true, Bool.and_false]; done) | simp_all), trivial⟩, unw_take 20 rfl rfl⟩
 rintro _ jr6 w13 M
 refine wc_ret ?_
 exact out1 rfl rfl ⟨_, _, rfl, M.grow, by obtain ⟨he, hr⟩ := unites_law (x := x) (y := y) hva hvb (by omega) (by omega) hc31; rw [hr, he]; simp⟩
end Go.Proofs.YtoilmeiikgegcaaDoor.G
