/- Walks of the program's functions. -/
import Derived.Test.YtoilmeiikgegcaaDoorWLb
set_option linter.all false
namespace Go.Proofs.YtoilmeiikgegcaaDoor.G
open Go Go.RowKit
theorem lawConcatenates_c (a b : Tra) (x y : ByteArray) {v1 v2 : Value} {I : Heap} {w : World} (hI : hle I (hp w)) (hT : Tabs I) (R1 : a.rd I v1) (R2 : b.rd I v2) : Calls A 11 #[v1, v2, .string x, .string y] w (Ret w I fun r _ => r = .bool true) := by
 obtain ⟨fu1, au1, rfl, Rf1, Ra1⟩ := R1
 obtain ⟨fu2, au2, rfl, Rf2, Ra2⟩ := R2
 have M := Mem.start hI
 refine enter Tryd.func11 rfl 80 Tryd.ntmps11 [_, _, _, _] rfl ?_
 refine wc_seq ?_
 refine wc_region ?_
 refine wl_e (e_box M rfl) rfl rfl ?_
 rintro _ w1 ⟨b4, rfl, M⟩
 refine wl_e (e_box M rfl) rfl rfl ?_
 rintro _ w2 ⟨b5, rfl, M⟩
 refine wl_as M rfl rfl ?_
 refine wl_nil ?_
 refine wc_seq ?_
 refine wc_seq ?_
 refine wc_region ?_
 refine wl_e (e_callC M (awake4_c M.imm hT) Tryd.func14 rfl rfl) rfl rfl ?_
 rintro _ w3 ⟨J14, hJ14, rfl, M⟩
 replace M := M.less hJ14 (fun _ _ => rfl)
 refine wl_m M (q_not rfl) rfl rfl ?_
 refine wl_nil ?_
 refine wc_cond rfl (fun ht15 => ?_) (fun ht15 => ?_)
 ·refine wc_seq ?_
  refine wc_region ?_
  refine wl_as M rfl rfl ?_
  refine wl_nil ?_
  refine wc_ret ?_
  exact absurd ht15 (by decide)
 refine wc_skip ?_
 refine wc_seq ?_
 refine wc_seq ?_
 refine wc_join (α := Unit) [16, 17, 18, 19, 20, 21, 22, 23, 24, 25, 26, 27, 28, 29, 30] (fun _ => [(30, .bool (((!([a, b].all smallB)) || (decide (8 < (x.size : Int)))) || (decide (8 < (y.size : Int)))))]) (fun _ w' => Mem w I I (box b5 29 [.int .i64 b.states, .int .i64 b.start, sv fu2, sv au2] :: box b4 29 [.int .i64 a.states, .int .i64 a.start, sv fu1, sv au1] :: []) w') ?_ ?_
 ·refine wc_region ?_
  refine wl_m M (q_ldbA 1 Tryd.underlying29 rfl sz29 rfl rfl rfl rfl) rfl rfl ?_
  refine wl_m M (q_ldbA 0 Tryd.underlying29 rfl sz29 rfl rfl rfl rfl) rfl rfl ?_
  refine wl_e (e_bsI (E := ETra) (xs := [(RTra.mk a.states a.start fu1 au1), (RTra.mk b.states b.start fu2 au2)]) M (bs_66_2 _ _ _ _ _ _ _ _) ⟨⟨rfl, rfl⟩, ⟨rfl, rfl⟩, trivial⟩ rfl rfl (by decide)) rfl rfl ?_
  rintro _ w4 ⟨u18, J18, rfl, hJ18, R18, M⟩
  have hoJ18 := M.old
  refine wl_e (e_callC M (small4_c M.imm (rdTras2 R18 (Rf1.mono hJ18) (Ra1.mono hJ18) (Rf2.mono hJ18) (Ra2.mono hJ18))) Tryd.func21 rfl rfl) rfl rfl ?_
  rintro _ w5 ⟨J19, hJ19, rfl, M⟩
  replace M := M.less hJ19 hoJ18
  refine wl_m M (q_not rfl) rfl rfl ?_
  refine wl_mv M rfl rfl ?_
  rcases Bool.eq_false_or_eq_true (!([a, b].all smallB)) with hg21 | hg21
  ·refine wl_m M (q_off 5 rfl rfl rfl hg21) rfl rfl ?_
   refine wl_m M (q_off 5 rfl rfl rfl hg21) rfl rfl ?_
   refine wl_m M (q_off 5 rfl rfl rfl hg21) rfl rfl ?_
   refine wl_m M (q_pickT rfl hg21 rfl) rfl rfl ?_
   refine wl_mv M rfl rfl ?_
   refine wl_m M (q_off 10 rfl rfl rfl rfl) rfl rfl ?_
   refine wl_m M (q_off 10 rfl rfl rfl rfl) rfl rfl ?_
   refine wl_m M (q_off 10 rfl rfl rfl rfl) rfl rfl ?_
   refine wl_m M (q_pickT rfl rfl rfl) rfl rfl ?_
   refine wl_nil ?_
   replace M := M.less hJ18 (fun _ _ => rfl)
   exact ⟨(), M, ⟨(show some (Value.bool true) = some (Value.bool (((!([a, b].all smallB)) || (decide (8 < (x.size : Int)))) || (decide (8 < (y.size : Int))))) from by first | (simp only [hg21, Bool.true_or, Bool.false_or, Bool.true_and, Bool.false_and, Bool.or_true, Bool.or_false, Bool.and_true, Bool.and_false]; done) | simp_all), trivial⟩, unw_take 15 rfl rfl⟩
  refine wl_m M (q_guard 5 rfl rfl rfl hg21 (q_move rfl)) rfl rfl ?_
  refine wl_m M (q_guard 5 rfl rfl rfl hg21 (q_lenStr Tryd.underlying9 rfl)) rfl rfl ?_
  refine wl_m M (q_guard 5 rfl rfl rfl hg21 (q_gtr rfl rfl)) rfl rfl ?_
  refine wl_m M (q_pickF rfl hg21 rfl) rfl rfl ?_
  refine wl_mv M rfl rfl ?_
  rcases Bool.eq_false_or_eq_true (decide (8 < (x.size : Int))) with hg26 | hg26
  ·refine wl_m M (q_off 10 rfl rfl rfl hg26) rfl rfl ?_
   refine wl_m M (q_off 10 rfl rfl rfl hg26) rfl rfl ?_
   refine wl_m M (q_off 10 rfl rfl rfl hg26) rfl rfl ?_
   refine wl_m M (q_pickT rfl hg26 rfl) rfl rfl ?_
   refine wl_nil ?_
   replace M := M.less hJ18 (fun _ _ => rfl)
   exact ⟨(), M, ⟨(show some (Value.bool true) = some (Value.bool (((!([a, b].all smallB)) || (decide (8 < (x.size : Int)))) || (decide (8 < (y.size : Int))))) from by first | (simp only [hg21, hg26, Bool.true_or, Bool.false_or, Bool.true_and, Bool.false_and, Bool.or_true, Bool.or_false, Bool.and_true, Bool.and_false]; done) | simp_all), trivial⟩, unw_take 15 rfl rfl⟩
  refine wl_m M (q_guard 10 rfl rfl rfl hg26 (q_move rfl)) rfl rfl ?_
  refine wl_m M (q_guard 10 rfl rfl rfl hg26 (q_lenStr Tryd.underlying9 rfl)) rfl rfl ?_
  refine wl_m M (q_guard 10 rfl rfl rfl hg26 (q_gtr rfl rfl)) rfl rfl ?_
  refine wl_m M (q_pickF rfl hg26 rfl) rfl rfl ?_
  refine wl_nil ?_
  replace M := M.less hJ18 (fun _ _ => rfl)
  exact ⟨(), M, ⟨(show some (Value.bool (decide (8 < (y.size : Int)))) = some (Value.bool (((!([a, b].all smallB)) || (decide (8 < (x.size : Int)))) || (decide (8 < (y.size : Int))))) from by first | (simp only [hg21, hg26, Bool.true_or, Bool.false_or, Bool.true_and, Bool.false_and, Bool.or_true, Bool.or_false, Bool.and_true, Bool.and_false]; done) | simp_all), trivial⟩, unw_take 15 rfl rfl⟩
 rintro _ jr3 w6 M
 refine wc_cond rfl (fun ht30 => ?_) (fun ht30 => ?_)
 ·refine wc_seq ?_
  refine wc_region ?_
  refine wl_as M rfl rfl ?_
  refine wl_nil ?_
  refine wc_ret ?_
  exact out1 rfl rfl ⟨_, _, rfl, M.grow, rfl⟩
 have hsm : ([a, b].all smallB) = true := by revert ht30; generalize ([a, b].all smallB) = q; cases q <;> simp
 rw [hsm] at ht30
 have hxy : x.size ≤ 8 ∧ y.size ≤ 8 := by simp at ht30; omega
 obtain ⟨hsx, hsy⟩ := hxy
 obtain ⟨⟨hva, hla, hza⟩, hvb, hlb, hzb⟩ := small2 hsm
 have hfa := valid_fin hva
 have hfb := valid_fin hvb
 refine wc_skip ?_
 refine wc_seq ?_
 refine wc_region ?_
 refine wl_as M rfl rfl ?_
 refine wl_nil ?_
 refine wc_seq ?_
 refine wc_seq ?_
 refine wc_region ?_
 refine wl_as M rfl rfl ?_
 refine wl_nil ?_
 refine wc_block ?_
 refine wc_loop (α := Nat × Bool) [9, 10, 11, 31, 32, 33, 34, 35, 36, 37, 38, 39, 40, 41, 42, 43, 44, 45, 46, 47, 48, 49, 50, 51, 52, 53, 54, 55, 56, 57, 58, 59, 60, 61, 62, 63] (fun ((k0, is0) : Nat × Bool) => [(9, .bool is0), (10, .int .i64 (k0 : Int))])
   (fun ((k0, is0) : Nat × Bool) w' => (k0 ≤ x.size + 1) ∧ (is0 = conB a b x y k0) ∧ Mem w I I (box b5 29 [.int .i64 b.states, .int .i64 b.start, sv fu2, sv au2] :: box b4 29 [.int .i64 a.states, .int .i64 a.start, sv fu1, sv au1] :: []) w')
   (fun ((k0, is0) : Nat × Bool) => x.size + 1 - k0) (0, false) ⟨rfl, rfl, trivial⟩ ?_ ?_
 ·refine ⟨Nat.zero_le _, rfl, ?_⟩
  exact M
 rintro ⟨k0, is0⟩ jj0 w7 ⟨hk0, hi0, M⟩
 refine wc_seq ?_
 refine wc_seq ?_
 refine wc_region ?_
 refine wl_mv M rfl rfl ?_
 refine wl_mv M rfl rfl ?_
 refine wl_m M (q_lenStr Tryd.underlying9 rfl) rfl rfl ?_
 refine wl_m M (q_leq rfl rfl) rfl rfl ?_
 refine wl_nil ?_
 refine wc_dec rfl (fun ht34 => ?_) (fun ht34 => ?_)
 ·refine wc_skip ?_
  refine wc_seq ?_
  refine wc_block ?_
  refine wc_seq ?_
  refine wc_region ?_
  refine wl_as M rfl rfl ?_
  refine wl_nil ?_
  refine wc_block ?_
  refine wc_loop (α := Nat × Bool) [9, 11, 37, 38, 39, 40, 41, 42, 43, 44, 45, 46, 47, 48, 49, 50, 51, 52, 53, 54, 55, 56, 57, 58, 59, 60, 61, 62, 63] (fun ((k2, is2) : Nat × Bool) => [(9, .bool is2), (11, .int .i64 (k2 : Int))])
    (fun ((k2, is2) : Nat × Bool) w' => (k2 ≤ y.size + 1) ∧ (is2 = (conB a b x y k0 || conRow a b x y k0 k2)) ∧ Mem w I I (box b5 29 [.int .i64 b.states, .int .i64 b.start, sv fu2, sv au2] :: box b4 29 [.int .i64 a.states, .int .i64 a.start, sv fu1, sv au1] :: []) w')
    (fun ((k2, is2) : Nat × Bool) => y.size + 1 - k2) (0, is0) ⟨rfl, rfl, trivial⟩ ?_ ?_
  ·refine ⟨Nat.zero_le _, (by rw [hi0]; simp [conRow]), ?_⟩
   exact M
  rintro ⟨k2, is2⟩ jj2 w8 ⟨hk2, hi2, M⟩
  refine wc_seq ?_
  refine wc_seq ?_
  refine wc_region ?_
  refine wl_mv M rfl rfl ?_
  refine wl_mv M rfl rfl ?_
  refine wl_m M (q_lenStr Tryd.underlying9 rfl) rfl rfl ?_
  refine wl_m M (q_leq rfl rfl) rfl rfl ?_
  refine wl_nil ?_
  refine wc_dec rfl (fun ht40 => ?_) (fun ht40 => ?_)
  ·refine wc_skip ?_
   refine wc_seq ?_
   refine wc_block ?_
   refine wc_join (α := Unit) [9, 43, 44, 45, 46, 47, 48, 49, 50, 51, 52, 53, 54, 55, 56, 57, 58, 59, 60, 61, 62, 63] (fun _ => [(9, .bool (is2 || ((relS a (x.extract 0 k0) (y.extract 0 k2)) && (relS b (x.extract k0 x.size) (y.extract k2 y.size)))))]) (fun _ w' => Mem w I I (box b5 29 [.int .i64 b.states, .int .i64 b.start, sv fu2, sv au2] :: box b4 29 [.int .i64 a.states, .int .i64 a.start, sv fu1, sv au1] :: []) w') ?_ ?_
   ·refine wc_draws (fun w' => Mem w I I (box b5 29 [.int .i64 b.states, .int .i64 b.start, sv fu2, sv au2] :: box b4 29 [.int .i64 a.states, .int .i64 a.start, sv fu1, sv au1] :: []) w' ∧ True) [] fol ?_
    replace M := M.drew
    have hS := (⟨M, trivial⟩ : _ ∧ _)
    refine wa_q 0 rfl (by kernel_rfl) (q_move rfl) hS rfl rfl ?_
    refine wa_q 1 rfl (by kernel_rfl) (q_move rfl) hS rfl rfl ?_
    rcases Bool.eq_false_or_eq_true (is2) with hg44 | hg44
    ·refine wa_q 2 rfl (by kernel_rfl) (q_off 1 rfl rfl rfl hg44) hS rfl rfl ?_
     refine wa_q 3 rfl (by kernel_rfl) (q_off 1 rfl rfl rfl hg44) hS rfl rfl ?_
     refine wa_q 4 rfl (by kernel_rfl) (q_off 1 rfl rfl rfl hg44) hS rfl rfl ?_
     refine wa_q 5 rfl (by kernel_rfl) (q_off 1 rfl rfl rfl hg44) hS rfl rfl ?_
     refine wa_q 6 rfl (by kernel_rfl) (q_off 1 rfl rfl rfl hg44) hS rfl rfl ?_
     refine wa_q 7 rfl (by kernel_rfl) (q_off 1 rfl rfl rfl hg44) hS rfl rfl ?_
     refine wa_q 8 rfl (by kernel_rfl) (q_off 1 rfl rfl rfl hg44) hS rfl rfl ?_
     refine wa_q 9 rfl (by kernel_rfl) (q_off 1 rfl rfl rfl hg44) hS rfl rfl ?_
     refine wa_q 10 rfl (by kernel_rfl) (q_off 1 rfl rfl rfl hg44) hS rfl rfl ?_
     refine wa_q 11 rfl (by kernel_rfl) (q_offu 10 rfl rfl rfl) hS rfl rfl ?_
     refine wa_q 12 rfl (by kernel_rfl) (q_offu 10 rfl rfl rfl) hS rfl rfl ?_
     refine wa_q 13 rfl (by kernel_rfl) (q_offu 10 rfl rfl rfl) hS rfl rfl ?_
     refine wa_q 14 rfl (by kernel_rfl) (q_offu 10 rfl rfl rfl) hS rfl rfl ?_
     refine wa_q 15 rfl (by kernel_rfl) (q_offu 10 rfl rfl rfl) hS rfl rfl ?_
     refine wa_q 16 rfl (by kernel_rfl) (q_offu 10 rfl rfl rfl) hS rfl rfl ?_
     refine wa_q 17 rfl (by kernel_rfl) (q_offu 10 rfl rfl rfl) hS rfl rfl ?_
     refine wa_q 18 rfl (by kernel_rfl) (q_offu 10 rfl rfl rfl) hS rfl rfl ?_
     refine wa_q 19 rfl (by kernel_rfl) (q_off 1 rfl rfl rfl hg44) hS rfl rfl ?_
     refine wa_q 20 rfl (by kernel_rfl) (q_pickT rfl hg44 rfl) hS rfl rfl ?_
     refine wa_q 21 rfl (by kernel_rfl) (q_assign rfl) hS rfl rfl ?_
     refine wa_done (by kernel_rfl) ?_
     exact ⟨(), M, ⟨(show some (Value.bool true) = some (Value.bool (is2 || ((relS a (x.extract 0 k0) (y.extract 0 k2)) && (relS b (x.extract k0 x.size) (y.extract k2 y.size))))) from by first | (simp only [hg44, Bool.true_or, Bool.false_or, Bool.true_and, Bool.false_and, Bool.or_true, Bool.or_false, Bool.and_true, Bool.and_false]; done) | simp_all), trivial⟩, unw_take 22 rfl rfl⟩
    refine wa_q 2 rfl (by kernel_rfl) ((q_guard 1 rfl rfl rfl hg44 (q_ldbA 1 Tryd.underlying29 rfl sz29 rfl rfl rfl rfl)).mono fun _ h => h.1) hS rfl rfl ?_
    refine wa_q 3 rfl (by kernel_rfl) (q_guard 1 rfl rfl rfl hg44 (q_move rfl)) hS rfl rfl ?_
    refine wa_q 4 rfl (by kernel_rfl) (q_guard 1 rfl rfl rfl hg44 (q_move rfl)) hS rfl rfl ?_
    refine wa_q 5 rfl (by kernel_rfl) (q_guard 1 rfl rfl rfl hg44 (q_strTo (j := k0) Tryd.underlying9 (by omega) rfl rfl)) hS rfl rfl ?_
    refine wa_q 6 rfl (by kernel_rfl) (q_guard 1 rfl rfl rfl hg44 (q_move rfl)) hS rfl rfl ?_
    refine wa_q 7 rfl (by kernel_rfl) (q_guard 1 rfl rfl rfl hg44 (q_move rfl)) hS rfl rfl ?_
    refine wa_q 8 rfl (by kernel_rfl) (q_guard 1 rfl rfl rfl hg44 (q_strTo (j := k2) Tryd.underlying9 (by omega) rfl rfl)) hS rfl rfl ?_
    refine wa_e 9 rfl (by kernel_rfl) (e_guard 1 rfl rfl rfl hg44 (e_callC M (relates_c a (x.extract 0 k0) (y.extract 0 k2) (Nat.le_trans (ext_le _ _ _) (by omega)) (Nat.le_trans (ext_le _ _ _) (by omega)) (ext_mul (by omega) (by omega)) M.imm ⟨_, _, rfl, Rf1, Ra1⟩) Tryd.func20 rfl rfl)) rfl rfl ?_
    rintro _ w9 ⟨J52, hJ52, rfl, M⟩
    have hS := (⟨(M.less hJ52 (fun _ _ => rfl)), trivial⟩ : _ ∧ _)
    refine ⟨fun _ => hS, ?_⟩
    replace M := M.less hJ52 (fun _ _ => rfl)
    refine wa_q 10 rfl (by kernel_rfl) (q_guard 1 rfl rfl rfl hg44 (q_move rfl)) hS rfl rfl ?_
    rcases Bool.eq_false_or_eq_true (relS a (x.extract 0 k0) (y.extract 0 k2)) with hg53 | hg53
    ·refine wa_q 11 rfl (by kernel_rfl) ((q_guard 10 rfl rfl rfl hg53 (q_ldbA 0 Tryd.underlying29 rfl sz29 rfl rfl rfl rfl)).mono fun _ h => h.1) hS rfl rfl ?_
     refine wa_q 12 rfl (by kernel_rfl) (q_guard 10 rfl rfl rfl hg53 (q_move rfl)) hS rfl rfl ?_
     refine wa_q 13 rfl (by kernel_rfl) (q_guard 10 rfl rfl rfl hg53 (q_move rfl)) hS rfl rfl ?_
     refine wa_q 14 rfl (by kernel_rfl) (q_guard 10 rfl rfl rfl hg53 (q_strFrom (j := k0) Tryd.underlying9 (by omega) rfl rfl)) hS rfl rfl ?_
     refine wa_q 15 rfl (by kernel_rfl) (q_guard 10 rfl rfl rfl hg53 (q_move rfl)) hS rfl rfl ?_
     refine wa_q 16 rfl (by kernel_rfl) (q_guard 10 rfl rfl rfl hg53 (q_move rfl)) hS rfl rfl ?_
     refine wa_q 17 rfl (by kernel_rfl) (q_guard 10 rfl rfl rfl hg53 (q_strFrom (j := k2) Tryd.underlying9 (by omega) rfl rfl)) hS rfl rfl ?_
     refine wa_e 18 rfl (by kernel_rfl) (e_guard 10 rfl rfl rfl hg53 (e_callC M (relates_c b (x.extract k0 x.size) (y.extract k2 y.size) (Nat.le_trans (ext_le _ _ _) (by omega)) (Nat.le_trans (ext_le _ _ _) (by omega)) (ext_mul (by omega) (by omega)) M.imm ⟨_, _, rfl, Rf2, Ra2⟩) Tryd.func20 rfl rfl)) rfl rfl ?_
     rintro _ w10 ⟨J61, hJ61, rfl, M⟩
     have hS := (⟨(M.less hJ61 (fun _ _ => rfl)), trivial⟩ : _ ∧ _)
     refine ⟨fun _ => hS, ?_⟩
     replace M := M.less hJ61 (fun _ _ => rfl)
     refine wa_q 19 rfl (by kernel_rfl) (q_guard 1 rfl rfl rfl hg44 (q_pickT rfl hg53 rfl)) hS rfl rfl ?_
     refine wa_q 20 rfl (by kernel_rfl) (q_pickF rfl hg44 rfl) hS rfl rfl ?_
     refine wa_q 21 rfl (by kernel_rfl) (q_assign rfl) hS rfl rfl ?_
     refine wa_done (by kernel_rfl) ?_
     exact ⟨(), M, ⟨(show some (Value.bool (relS b (x.extract k0 x.size) (y.extract k2 y.size))) = some (Value.bool (is2 || ((relS a (x.extract 0 k0) (y.extract 0 k2)) && (relS b (x.extract k0 x.size) (y.extract k2 y.size))))) from by first | (simp only [hg44, hg53, Bool.true_or, Bool.false_or, Bool.true_and, Bool.false_and, Bool.or_true, Bool.or_false, Bool.and_true, Bool.and_false]; done) | simp_all), trivial⟩, unw_take 22 rfl rfl⟩
    refine wa_q 11 rfl (by kernel_rfl) (q_off 10 rfl rfl rfl hg53) hS rfl rfl ?_
    refine wa_q 12 rfl (by kernel_rfl) (q_off 10 rfl rfl rfl hg53) hS rfl rfl ?_
    refine wa_q 13 rfl (by kernel_rfl) (q_off 10 rfl rfl rfl hg53) hS rfl rfl ?_
    refine wa_q 14 rfl (by kernel_rfl) (q_off 10 rfl rfl rfl hg53) hS rfl rfl ?_
    refine wa_q 15 rfl (by kernel_rfl) (q_off 10 rfl rfl rfl hg53) hS rfl rfl ?_
    refine wa_q 16 rfl (by kernel_rfl) (q_off 10 rfl rfl rfl hg53) hS rfl rfl ?_
    refine wa_q 17 rfl (by kernel_rfl) (q_off 10 rfl rfl rfl hg53) hS rfl rfl ?_
    refine wa_q 18 rfl (by kernel_rfl) (q_off 10 rfl rfl rfl hg53) hS rfl rfl ?_
    refine wa_q 19 rfl (by kernel_rfl) (q_guard 1 rfl rfl rfl hg44 (q_pickF rfl hg53 rfl)) hS rfl rfl ?_
    refine wa_q 20 rfl (by kernel_rfl) (q_pickF rfl hg44 rfl) hS rfl rfl ?_
    refine wa_q 21 rfl (by kernel_rfl) (q_assign rfl) hS rfl rfl ?_
    refine wa_done (by kernel_rfl) ?_
    exact ⟨(), M, ⟨(show some (Value.bool false) = some (Value.bool (is2 || ((relS a (x.extract 0 k0) (y.extract 0 k2)) && (relS b (x.extract k0 x.size) (y.extract k2 y.size))))) from by first | (simp only [hg44, hg53, Bool.true_or, Bool.false_or, Bool.true_and, Bool.false_and, Bool.or_true, Bool.or_false, Bool.and_true, Bool.and_false]; done) | simp_all), trivial⟩, unw_take 22 rfl rfl⟩
   rintro _ jr12 w11 M
   refine wc_region ?_
   refine wl_mv M rfl rfl ?_
   refine wl_m M (q_add rfl rfl (IntWalk.i64_in _ (by omega))) rfl rfl ?_
   refine wl_as M rfl rfl ?_
   refine wl_nil ?_
   refine ⟨(k2 + 1, (is2 || (relS a (x.extract 0 k0) (y.extract 0 k2) && relS b (x.extract k0 x.size) (y.extract k2 y.size)))), ?_, ⟨(by omega), (by rw [conRow_succ, ← Bool.or_assoc, ← hi2]; rfl), M⟩, ⟨rfl, rfl, trivial⟩, unw_look rfl (unw_hav rfl (unw_look rfl unw_base))⟩
   show y.size + 1 - (k2 + 1) < y.size + 1 - k2
   omega
  have hke2 : k2 = y.size + 1 := by omega
  rw [hke2] at hi2
  refine wc_exit rfl ?_
  refine wc_region ?_
  refine wl_mv M rfl rfl ?_
  refine wl_m M (q_add rfl rfl (IntWalk.i64_in _ (by omega))) rfl rfl ?_
  refine wl_as M rfl rfl ?_
  refine wl_nil ?_
  refine ⟨(k0 + 1, is2), ?_, ⟨(by omega), (by rw [conB_succ, hi2]), M⟩, ⟨rfl, rfl, trivial⟩, unw_look rfl (unw_hav rfl (unw_look rfl unw_base))⟩
  show x.size + 1 - (k0 + 1) < x.size + 1 - k0
  omega
 have hke0 : k0 = x.size + 1 := by omega
 rw [hke0] at hi0
 refine wc_exit rfl ?_
 refine wc_seq ?_
 refine wc_region ?_
 refine wl_m M (q_ldbA 1 Tryd.underlying29 rfl sz29 rfl rfl rfl rfl) rfl rfl ?_
 refine wl_m M (q_ldbA 0 Tryd.underlying29 rfl sz29 rfl rfl rfl rfl) rfl rfl ?_
 refine wl_e (e_callC M (concat_c a b M.imm ⟨_, _, rfl, Rf1, Ra1⟩ ⟨_, _, rfl, Rf2, Ra2⟩) Tryd.func36 rfl rfl) rfl rfl ?_
 rintro _ w12 ⟨J67, hJ67, ⟨_, t67, e67, rfl, ⟨fu67, au67, rfl, Rf67, Ra67⟩, hc67⟩, M⟩
 have hoJ67 := M.old
 refine wl_mv M rfl rfl ?_
 refine wl_m M (q_ext rfl rfl) rfl rfl ?_
 refine wl_m M (q_ext rfl rfl) rfl rfl ?_
 refine wl_e (e_alloc M z29) rfl rfl ?_
 rintro _ w13 ⟨b12, rfl, M⟩
 refine wl_e0 (e_stW 0 M rfl rfl rfl sz29 rfl rfl) rfl ?_
 intro _ w14 M
 simp only [sC0, sCS] at M
 refine wl_as M rfl rfl ?_
 refine wl_nil ?_
 refine wc_seq ?_
 refine wc_join (α := Unit) [8, 70, 71, 72, 73, 74, 75, 76, 77, 78, 79] (fun _ => [(8, .bool ((decide (e67 = 0)) && ((relS t67 x y) == is0)))]) (fun _ w' => Mem w I J67 (box b12 29 [.int .i64 t67.states, .int .i64 t67.start, sv fu67, sv au67] :: box b5 29 [.int .i64 b.states, .int .i64 b.start, sv fu2, sv au2] :: box b4 29 [.int .i64 a.states, .int .i64 a.start, sv fu1, sv au1] :: []) w') ?_ ?_
 ·refine wc_region ?_
  refine wl_mv M rfl rfl ?_
  refine wl_m M (q_eql rfl rfl) rfl rfl ?_
  refine wl_mv M rfl rfl ?_
  rcases Bool.eq_false_or_eq_true (decide (e67 = 0)) with hg72 | hg72
  ·refine wl_m M (q_guard 2 rfl rfl rfl hg72 (q_ldbA 0 Tryd.underlying29 rfl sz29 rfl rfl rfl rfl)) rfl rfl ?_
   refine wl_m M (q_guard 2 rfl rfl rfl hg72 (q_move rfl)) rfl rfl ?_
   refine wl_m M (q_guard 2 rfl rfl rfl hg72 (q_move rfl)) rfl rfl ?_
   refine wl_e (e_guard 2 rfl rfl rfl hg72 (e_callC M (relates_c t67 x y (by omega) (by omega) (Nat.le_trans (Nat.mul_le_mul (show x.size + 1 ≤ 9 by omega) (show y.size + 1 ≤ 9 by omega)) (by decide)) M.imm ⟨_, _, rfl, Rf67, Ra67⟩) Tryd.func20 rfl rfl)) rfl rfl ?_
   rintro _ w15 ⟨J76, hJ76, rfl, M⟩
   replace M := M.less hJ76 hoJ67
   refine wl_m M (q_guard 2 rfl rfl rfl hg72 (q_move rfl)) rfl rfl ?_
   refine wl_m M (q_guard 2 rfl rfl rfl hg72 (q_eqlB Tryd.underlying4 rfl rfl)) rfl rfl ?_
   refine wl_m M (q_pickT rfl hg72 rfl) rfl rfl ?_
   refine wl_as M rfl rfl ?_
   refine wl_nil ?_
   exact ⟨(), M, ⟨(show some (Value.bool ((relS t67 x y) == is0)) = some (Value.bool ((decide (e67 = 0)) && ((relS t67 x y) == is0))) from by first | (simp only [hg72, Bool.true_or, Bool.false_or, Bool.true_and, Bool.false_and, Bool.or_true, Bool.or_false, Bool.and_true, Bool.and_false]; done) | simp_all), trivial⟩, unw_take 11 rfl rfl⟩
  refine wl_m M (q_off 2 rfl rfl rfl hg72) rfl rfl ?_
  refine wl_m M (q_off 2 rfl rfl rfl hg72) rfl rfl ?_
  refine wl_m M (q_off 2 rfl rfl rfl hg72) rfl rfl ?_
  refine wl_m M (q_off 2 rfl rfl rfl hg72) rfl rfl ?_
  refine wl_m M (q_off 2 rfl rfl rfl hg72) rfl rfl ?_
  refine wl_m M (q_off 2 rfl rfl rfl hg72) rfl rfl ?_
  refine wl_m M (q_pickF rfl hg72 rfl) rfl rfl ?_
  refine wl_as M rfl rfl ?_
  refine wl_nil ?_
  exact ⟨(), M, ⟨(show some (Value.bool false) = some (Value.bool ((decide (e67 = 0)) && ((relS t67 x y) == is0))) from by first | (simp only [hg72, Bool.true_or, Bool.false_or, Bool.true_and, Bool.false_and, Bool.or_true, Bool.or_false, Bool.and_true, Bool.and_false]; done) | simp_all), trivial⟩, unw_take 11 rfl rfl⟩
 rintro _ jr14 w16 M
 refine wc_ret ?_
 exact out1 rfl rfl ⟨_, _, rfl, M.grow, by obtain ⟨he, hr⟩ := concats_law (x := x) (y := y) hva hvb (by omega) (by omega) hc67; rw [hr, he, hi0]; simp⟩
end Go.Proofs.YtoilmeiikgegcaaDoor.G
