/- Walks of the program's functions. -/
import Derived.Test.YtoilmeiikgegcaaDoorWLb
import Derived.Test.YtoilmeiikgegcaaDoorGGrd
set_option linter.all false
namespace Go.Proofs.YtoilmeiikgegcaaDoor.G
open Go Go.RowKit
theorem z44 : zeroOf A 44 = some [.bool false, .bool false, .bool false, .bool false, .bool false, .bool false, .bool false, .bool false, .bool false, .bool false, .bool false, .bool false, .bool false, .bool false, .bool false, .bool false, .bool false, .bool false, .bool false, .bool false, .bool false, .bool false, .bool false, .bool false, .bool false, .bool false, .bool false, .bool false, .bool false, .bool false, .bool false, .bool false, .bool false, .bool false, .bool false, .bool false, .bool false, .bool false, .bool false, .bool false, .bool false, .bool false, .bool false, .bool false, .bool false, .bool false, .bool false, .bool false, .bool false] := by kernel_rfl
theorem sz43 : (A.info? 43).map (·.size) = some 7 := by kernel_rfl
theorem sz4 : (A.info? 4).map (·.size) = some 1 := by kernel_rfl
theorem lawRepeats_c (a : Tra) (x y : ByteArray) {v1 : Value} {I : Heap} {w : World} (hI : hle I (hp w)) (hT : Tabs I) (R1 : a.rd I v1) : Calls A 6 #[v1, .string x, .string y] w (Ret w I fun r _ => r = .bool true) := by
 obtain ⟨fu1, au1, rfl, Rf1, Ra1⟩ := R1
 have M := Mem.start hI
 refine enter Tryd.func6 rfl 106 Tryd.ntmps6 [_, _, _] rfl ?_
 refine wc_seq ?_
 refine wc_region ?_
 refine wl_e (e_box M rfl) rfl rfl ?_
 rintro _ w1 ⟨b3, rfl, M⟩
 refine wl_as M rfl rfl ?_
 refine wl_nil ?_
 refine wc_seq ?_
 refine wc_seq ?_
 refine wc_region ?_
 refine wl_e (e_callC M (awake4_c M.imm hT) Tryd.func14 rfl rfl) rfl rfl ?_
 rintro _ w2 ⟨J14, hJ14, rfl, M⟩
 replace M := M.less hJ14 (fun _ _ => rfl)
 refine wl_m M (q_not rfl) rfl rfl ?_
 refine wl_nil ?_
 refine wc_cond rfl (fun ht15 => ?_) (fun ht15 => ?_)
 ·refine wc_seq ?_
  refine wc_region ?_
  refine wl_as M rfl rfl ?_
  refine wl_nil ?_
  refine wc_ret ?_
  exact absurd ht15 (by decide)
 refine wc_skip ?_
 refine wc_seq ?_
 refine wc_seq ?_
 refine wc_join (α := Unit) [16, 17, 18, 19, 20, 21, 22, 23, 24, 25, 26, 27, 28, 29] (fun _ => [(29, .bool (((!([a].all smallB)) || (decide (6 < (x.size : Int)))) || (decide (6 < (y.size : Int)))))]) (fun _ w' => Mem w I I (box b3 29 [.int .i64 a.states, .int .i64 a.start, sv fu1, sv au1] :: []) w') ?_ ?_
 ·refine wc_region ?_
  refine wl_m M (q_ldbA 0 Tryd.underlying29 rfl sz29 rfl rfl rfl rfl) rfl rfl ?_
  refine wl_e (e_bsI (E := ETra) (xs := [(RTra.mk a.states a.start fu1 au1)]) M (bs_66_1 _ _ _ _) ⟨⟨rfl, rfl⟩, trivial⟩ rfl rfl (by decide)) rfl rfl ?_
  rintro _ w3 ⟨u17, J17, rfl, hJ17, R17, M⟩
  have hoJ17 := M.old
  refine wl_e (e_callC M (small4_c M.imm (rdTras1 R17 (Rf1.mono hJ17) (Ra1.mono hJ17))) Tryd.func21 rfl rfl) rfl rfl ?_
  rintro _ w4 ⟨J18, hJ18, rfl, M⟩
  replace M := M.less hJ18 hoJ17
  refine wl_m M (q_not rfl) rfl rfl ?_
  refine wl_mv M rfl rfl ?_
  rcases Bool.eq_false_or_eq_true (!([a].all smallB)) with hg20 | hg20
  ·refine wl_m M (q_off 4 rfl rfl rfl hg20) rfl rfl ?_
   refine wl_m M (q_off 4 rfl rfl rfl hg20) rfl rfl ?_
   refine wl_m M (q_off 4 rfl rfl rfl hg20) rfl rfl ?_
   refine wl_m M (q_pickT rfl hg20 rfl) rfl rfl ?_
   refine wl_mv M rfl rfl ?_
   refine wl_m M (q_off 9 rfl rfl rfl rfl) rfl rfl ?_
   refine wl_m M (q_off 9 rfl rfl rfl rfl) rfl rfl ?_
   refine wl_m M (q_off 9 rfl rfl rfl rfl) rfl rfl ?_
   refine wl_m M (q_pickT rfl rfl rfl) rfl rfl ?_
   refine wl_nil ?_
   replace M := M.less hJ17 (fun _ _ => rfl)
   exact ⟨(), M, ⟨(show some (Value.bool true) = some (Value.bool (((!([a].all smallB)) || (decide (6 < (x.size : Int)))) || (decide (6 < (y.size : Int))))) from by first | (simp only [hg20, Bool.true_or, Bool.false_or, Bool.true_and, Bool.false_and, Bool.or_true, Bool.or_false, Bool.and_true, Bool.and_false]; done) | simp_all), trivial⟩, unw_take 14 rfl rfl⟩
  refine wl_m M (q_guard 4 rfl rfl rfl hg20 (q_move rfl)) rfl rfl ?_
  refine wl_m M (q_guard 4 rfl rfl rfl hg20 (q_lenStr Tryd.underlying9 rfl)) rfl rfl ?_
  refine wl_m M (q_guard 4 rfl rfl rfl hg20 (q_gtr rfl rfl)) rfl rfl ?_
  refine wl_m M (q_pickF rfl hg20 rfl) rfl rfl ?_
  refine wl_mv M rfl rfl ?_
  rcases Bool.eq_false_or_eq_true (decide (6 < (x.size : Int))) with hg25 | hg25
  ·refine wl_m M (q_off 9 rfl rfl rfl hg25) rfl rfl ?_
   refine wl_m M (q_off 9 rfl rfl rfl hg25) rfl rfl ?_
   refine wl_m M (q_off 9 rfl rfl rfl hg25) rfl rfl ?_
   refine wl_m M (q_pickT rfl hg25 rfl) rfl rfl ?_
   refine wl_nil ?_
   replace M := M.less hJ17 (fun _ _ => rfl)
   exact ⟨(), M, ⟨(show some (Value.bool true) = some (Value.bool (((!([a].all smallB)) || (decide (6 < (x.size : Int)))) || (decide (6 < (y.size : Int))))) from by first | (simp only [hg20, hg25, Bool.true_or, Bool.false_or, Bool.true_and, Bool.false_and, Bool.or_true, Bool.or_false, Bool.and_true, Bool.and_false]; done) | simp_all), trivial⟩, unw_take 14 rfl rfl⟩
  refine wl_m M (q_guard 9 rfl rfl rfl hg25 (q_move rfl)) rfl rfl ?_
  refine wl_m M (q_guard 9 rfl rfl rfl hg25 (q_lenStr Tryd.underlying9 rfl)) rfl rfl ?_
  refine wl_m M (q_guard 9 rfl rfl rfl hg25 (q_gtr rfl rfl)) rfl rfl ?_
  refine wl_m M (q_pickF rfl hg25 rfl) rfl rfl ?_
  refine wl_nil ?_
  replace M := M.less hJ17 (fun _ _ => rfl)
  exact ⟨(), M, ⟨(show some (Value.bool (decide (6 < (y.size : Int)))) = some (Value.bool (((!([a].all smallB)) || (decide (6 < (x.size : Int)))) || (decide (6 < (y.size : Int))))) from by first | (simp only [hg20, hg25, Bool.true_or, Bool.false_or, Bool.true_and, Bool.false_and, Bool.or_true, Bool.or_false, Bool.and_true, Bool.and_false]; done) | simp_all), trivial⟩, unw_take 14 rfl rfl⟩
 rintro _ jr3 w5 M
 refine wc_cond rfl (fun ht29 => ?_) (fun ht29 => ?_)
 ·refine wc_seq ?_
  refine wc_region ?_
  refine wl_as M rfl rfl ?_
  refine wl_nil ?_
  refine wc_ret ?_
  exact out1 rfl rfl ⟨_, _, rfl, M.grow, rfl⟩
 have hsm : ([a].all smallB) = true := by revert ht29; generalize ([a].all smallB) = q; cases q <;> simp
 rw [hsm] at ht29
 have hxy : x.size ≤ 6 ∧ y.size ≤ 6 := by simp at ht29; omega
 obtain ⟨hsx, hsy⟩ := hxy
 obtain ⟨hva, hla, hza⟩ := small1 hsm
 have hfa := valid_fin hva
 refine wc_skip ?_
 refine wc_seq ?_
 refine wc_region ?_
 refine wl_e (e_alloc M z44) rfl rfl ?_
 rintro _ w6 ⟨b7, rfl, M⟩
 refine wl_nil ?_
 refine wc_seq ?_
 refine wc_region ?_
 refine wl_m M (q_ia (i := 0) Tryd.underlying44 sz43 rfl rfl (by decide)) rfl rfl ?_
 refine wl_m M (q_ia (i := 0) Tryd.underlying43 sz4 rfl rfl (by decide)) rfl rfl ?_
 refine wl_e0 (e_stb 0 M rfl rfl rfl sz4 rfl rfl) rfl ?_
 intro _ w7 M
 simp only [sC0, sCS] at M
 refine wl_nil ?_
 refine wc_seq ?_
 refine wc_seq ?_
 replace M : Mem w I I (box b7 44 (((List.replicate 49 false).set 0 true).map Value.bool) :: box b3 29 [.int .i64 a.states, .int .i64 a.start, sv fu1, sv au1] :: []) _ := M
 refine wc_region ?_
 refine wl_as M rfl rfl ?_
 refine wl_nil ?_
 refine wc_block ?_
 refine wc_loop (α := Nat × (List Bool)) [8, 9, 10, 11, 32, 33, 34, 35, 36, 37, 38, 39, 40, 41, 42, 43, 44, 45, 46, 47, 48, 49, 50, 51, 52, 53, 54, 55, 56, 57, 58, 59, 60, 61, 62, 63, 64, 65, 66, 67, 68, 69, 70, 71, 72, 73, 74, 75, 76, 77, 78, 79, 80, 81, 82, 83, 84] (fun ((k0, bs_7_0) : Nat × (List Bool)) => [(8, .int .i64 (k0 : Int))])
   (fun ((k0, bs_7_0) : Nat × (List Bool)) w' => (k0 ≤ x.size + 1) ∧ ((k0 ≤ x.size → Tab a x y bs_7_0 k0 0 (Seen a x y k0 0 0 0)) ∧ (k0 = x.size + 1 → Tab a x y bs_7_0 x.size y.size (Rch a x y x.size y.size))) ∧ Mem w I I (box b7 44 (bs_7_0.map Value.bool) :: box b3 29 [.int .i64 a.states, .int .i64 a.start, sv fu1, sv au1] :: []) w')
   (fun ((k0, bs_7_0) : Nat × (List Bool)) => x.size + 1 - k0) (0, ((List.replicate 49 false).set 0 true)) ⟨rfl, trivial⟩ ?_ ?_
 ·refine ⟨Nat.zero_le _, ⟨fun _ => Tab.init hsx hsy, fun h => absurd h (by omega)⟩, ?_⟩
  exact M
 rintro ⟨k0, bs_7_0⟩ jj0 w8 ⟨hk0, hT0, M⟩
 refine wc_seq ?_
 refine wc_seq ?_
 refine wc_region ?_
 refine wl_mv M rfl rfl ?_
 refine wl_mv M rfl rfl ?_
 refine wl_m M (q_lenStr Tryd.underlying9 rfl) rfl rfl ?_
 refine wl_m M (q_leq rfl rfl) rfl rfl ?_
 refine wl_nil ?_
 refine wc_dec rfl (fun ht35 => ?_) (fun ht35 => ?_)
 ·refine wc_skip ?_
  refine wc_seq ?_
  refine wc_block ?_
  refine wc_seq ?_
  refine wc_region ?_
  refine wl_as M rfl rfl ?_
  refine wl_nil ?_
  refine wc_block ?_
  refine wc_loop (α := Nat × (List Bool)) [9, 10, 11, 38, 39, 40, 41, 42, 43, 44, 45, 46, 47, 48, 49, 50, 51, 52, 53, 54, 55, 56, 57, 58, 59, 60, 61, 62, 63, 64, 65, 66, 67, 68, 69, 70, 71, 72, 73, 74, 75, 76, 77, 78, 79, 80, 81, 82, 83, 84] (fun ((k2, bs_7_2) : Nat × (List Bool)) => [(9, .int .i64 (k2 : Int))])
    (fun ((k2, bs_7_2) : Nat × (List Bool)) w' => (k2 ≤ y.size + 1) ∧ ((k2 ≤ y.size → Tab a x y bs_7_2 k0 k2 (Seen a x y k0 k2 0 0)) ∧ (k2 = y.size + 1 → Tab a x y bs_7_2 k0 y.size (Rch a x y k0 y.size))) ∧ Mem w I I (box b7 44 (bs_7_2.map Value.bool) :: box b3 29 [.int .i64 a.states, .int .i64 a.start, sv fu1, sv au1] :: []) w')
    (fun ((k2, bs_7_2) : Nat × (List Bool)) => y.size + 1 - k2) (0, bs_7_0) ⟨rfl, trivial⟩ ?_ ?_
  ·refine ⟨Nat.zero_le _, ⟨fun _ => hT0.1 (by omega), fun h => absurd h (by omega)⟩, ?_⟩
   exact M
  rintro ⟨k2, bs_7_2⟩ jj2 w9 ⟨hk2, hT2, M⟩
  refine wc_seq ?_
  refine wc_seq ?_
  refine wc_region ?_
  refine wl_mv M rfl rfl ?_
  refine wl_mv M rfl rfl ?_
  refine wl_m M (q_lenStr Tryd.underlying9 rfl) rfl rfl ?_
  refine wl_m M (q_leq rfl rfl) rfl rfl ?_
  refine wl_nil ?_
  refine wc_dec rfl (fun ht41 => ?_) (fun ht41 => ?_)
  ·refine wc_skip ?_
   refine wc_seq ?_
   refine wc_block ?_
   refine wc_seq ?_
   refine wc_region ?_
   refine wl_as M rfl rfl ?_
   refine wl_nil ?_
   refine wc_block ?_
   refine wc_loop (α := Nat × (List Bool)) [10, 11, 44, 45, 46, 47, 48, 49, 50, 51, 52, 53, 54, 55, 56, 57, 58, 59, 60, 61, 62, 63, 64, 65, 66, 67, 68, 69, 70, 71, 72, 73, 74, 75, 76, 77, 78, 79, 80, 81, 82, 83, 84] (fun ((k4, bs_7_4) : Nat × (List Bool)) => [(10, .int .i64 (k4 : Int))])
     (fun ((k4, bs_7_4) : Nat × (List Bool)) w' => (k4 ≤ k0 + 1) ∧ (Tab a x y bs_7_4 k0 k2 (Seen a x y k0 k2 k4 0)) ∧ Mem w I I (box b7 44 (bs_7_4.map Value.bool) :: box b3 29 [.int .i64 a.states, .int .i64 a.start, sv fu1, sv au1] :: []) w')
     (fun ((k4, bs_7_4) : Nat × (List Bool)) => k0 + 1 - k4) (0, bs_7_2) ⟨rfl, trivial⟩ ?_ ?_
   ·refine ⟨Nat.zero_le _, (hT2.1 (by omega)), ?_⟩
    exact M
   rintro ⟨k4, bs_7_4⟩ jj4 w10 ⟨hk4, hT4, M⟩
   refine wc_seq ?_
   refine wc_seq ?_
   refine wc_region ?_
   refine wl_mv M rfl rfl ?_
   refine wl_mv M rfl rfl ?_
   refine wl_m M (q_leq rfl rfl) rfl rfl ?_
   refine wl_nil ?_
   refine wc_dec rfl (fun ht46 => ?_) (fun ht46 => ?_)
   ·refine wc_skip ?_
    refine wc_seq ?_
    refine wc_block ?_
    refine wc_seq ?_
    refine wc_region ?_
    refine wl_as M rfl rfl ?_
    refine wl_nil ?_
    refine wc_block ?_
    refine wc_loop (α := Nat × (List Bool)) [11, 49, 50, 51, 52, 53, 54, 55, 56, 57, 58, 59, 60, 61, 62, 63, 64, 65, 66, 67, 68, 69, 70, 71, 72, 73, 74, 75, 76, 77, 78, 79, 80, 81, 82, 83, 84] (fun ((k6, bs_7_6) : Nat × (List Bool)) => [(11, .int .i64 (k6 : Int))])
      (fun ((k6, bs_7_6) : Nat × (List Bool)) w' => (k6 ≤ k2 + 1) ∧ (Tab a x y bs_7_6 k0 k2 (Seen a x y k0 k2 k4 k6)) ∧ Mem w I I (box b7 44 (bs_7_6.map Value.bool) :: box b3 29 [.int .i64 a.states, .int .i64 a.start, sv fu1, sv au1] :: []) w')
      (fun ((k6, bs_7_6) : Nat × (List Bool)) => k2 + 1 - k6) (0, bs_7_4) ⟨rfl, trivial⟩ ?_ ?_
    ·refine ⟨Nat.zero_le _, hT4, ?_⟩
     exact M
    rintro ⟨k6, bs_7_6⟩ jj6 w11 ⟨hk6, hT6, M⟩
    refine wc_seq ?_
    refine wc_seq ?_
    refine wc_region ?_
    refine wl_mv M rfl rfl ?_
    refine wl_mv M rfl rfl ?_
    refine wl_m M (q_leq rfl rfl) rfl rfl ?_
    refine wl_nil ?_
    refine wc_dec rfl (fun ht51 => ?_) (fun ht51 => ?_)
    ·obtain ⟨b, hb⟩ := hT6.at_ (p := k4) (q := k6) (by omega) (by omega) hsx hsy
     refine wc_skip ?_
     refine wc_seq ?_
     refine wc_block ?_
     refine wc_seq ?_
     refine wc_join (α := Unit) [54, 55, 56, 57, 58, 59, 60, 61, 62, 63, 64, 65, 66, 67, 68, 69, 70, 71, 72, 73, 74, 75, 76, 77, 78, 79, 80] (fun _ => [(80, .bool ((((decide ((k4 : Int) < (k0 : Int))) || (decide ((k6 : Int) < (k2 : Int)))) && b) && (relS a (x.extract k4 k0) (y.extract k6 k2))))]) (fun _ w' => Mem w I I (box b7 44 (bs_7_6.map Value.bool) :: box b3 29 [.int .i64 a.states, .int .i64 a.start, sv fu1, sv au1] :: []) w') ?_ ?_
     ·refine wc_draws (fun w' => Mem w I I (box b7 44 (bs_7_6.map Value.bool) :: box b3 29 [.int .i64 a.states, .int .i64 a.start, sv fu1, sv au1] :: []) w' ∧ True) [] fol ?_
      replace M := M.drew
      have hS := (⟨M, trivial⟩ : _ ∧ _)
      refine wa_q 0 rfl (by kernel_rfl) (q_move rfl) hS rfl rfl ?_
      refine wa_q 1 rfl (by kernel_rfl) (q_move rfl) hS rfl rfl ?_
      refine wa_q 2 rfl (by kernel_rfl) (q_lss rfl rfl) hS rfl rfl ?_
      refine wa_q 3 rfl (by kernel_rfl) (q_move rfl) hS rfl rfl ?_
      rcases Bool.eq_false_or_eq_true (decide ((k4 : Int) < (k0 : Int))) with hg57 | hg57
      ·refine wa_q 4 rfl (by kernel_rfl) (q_off 3 rfl rfl rfl hg57) hS rfl rfl ?_
       refine wa_q 5 rfl (by kernel_rfl) (q_off 3 rfl rfl rfl hg57) hS rfl rfl ?_
       refine wa_q 6 rfl (by kernel_rfl) (q_off 3 rfl rfl rfl hg57) hS rfl rfl ?_
       refine wa_q 7 rfl (by kernel_rfl) (q_pickT rfl hg57 rfl) hS rfl rfl ?_
       refine wa_q 8 rfl (by kernel_rfl) (q_move rfl) hS rfl rfl ?_
       refine wa_q 9 rfl (by kernel_rfl) (q_guard 8 rfl rfl rfl rfl (q_move rfl)) hS rfl rfl ?_
       refine wa_q 10 rfl (by kernel_rfl) (q_guard 8 rfl rfl rfl rfl (q_move rfl)) hS rfl rfl ?_
       refine wa_q 11 rfl (by kernel_rfl) (q_guard 8 rfl rfl rfl rfl (q_ia (i := k4) Tryd.underlying44 sz43 rfl rfl (by omega))) hS rfl rfl ?_
       refine wa_q 12 rfl (by kernel_rfl) (q_guard 8 rfl rfl rfl rfl (q_ia (i := k6) Tryd.underlying43 sz4 rfl rfl (by omega))) hS rfl rfl ?_
       refine wa_q 13 rfl (by kernel_rfl) ((q_guard 8 rfl rfl rfl rfl (q_ldb 0 Tryd.underlying4 rfl rfl rfl (grid_at hb))).mono fun _ h => h.1) hS rfl rfl ?_
       refine wa_q 14 rfl (by kernel_rfl) (q_pickT rfl rfl rfl) hS rfl rfl ?_
       refine wa_q 15 rfl (by kernel_rfl) (q_move rfl) hS rfl rfl ?_
       rcases Bool.eq_false_or_eq_true (b) with hg69 | hg69
       ·refine wa_q 16 rfl (by kernel_rfl) ((q_guard 15 rfl rfl rfl hg69 (q_ldbA 1 Tryd.underlying29 rfl sz29 rfl rfl rfl rfl)).mono fun _ h => h.1) hS rfl rfl ?_
        refine wa_q 17 rfl (by kernel_rfl) (q_guard 15 rfl rfl rfl hg69 (q_move rfl)) hS rfl rfl ?_
        refine wa_q 18 rfl (by kernel_rfl) (q_guard 15 rfl rfl rfl hg69 (q_move rfl)) hS rfl rfl ?_
        refine wa_q 19 rfl (by kernel_rfl) (q_guard 15 rfl rfl rfl hg69 (q_move rfl)) hS rfl rfl ?_
        refine wa_q 20 rfl (by kernel_rfl) (q_guard 15 rfl rfl rfl hg69 (q_strCut (i := k4) (j := k0) Tryd.underlying9 (by omega) (by omega) rfl rfl rfl)) hS rfl rfl ?_
        refine wa_q 21 rfl (by kernel_rfl) (q_guard 15 rfl rfl rfl hg69 (q_move rfl)) hS rfl rfl ?_
        refine wa_q 22 rfl (by kernel_rfl) (q_guard 15 rfl rfl rfl hg69 (q_move rfl)) hS rfl rfl ?_
        refine wa_q 23 rfl (by kernel_rfl) (q_guard 15 rfl rfl rfl hg69 (q_move rfl)) hS rfl rfl ?_
        refine wa_q 24 rfl (by kernel_rfl) (q_guard 15 rfl rfl rfl hg69 (q_strCut (i := k6) (j := k2) Tryd.underlying9 (by omega) (by omega) rfl rfl rfl)) hS rfl rfl ?_
        refine wa_e 25 rfl (by kernel_rfl) (e_guard 15 rfl rfl rfl hg69 (e_callC M (relates_c a (x.extract k4 k0) (y.extract k6 k2) (Nat.le_trans (ext_le _ _ _) (by omega)) (Nat.le_trans (ext_le _ _ _) (by omega)) (ext_mul6 hsx hsy) M.imm ⟨_, _, rfl, Rf1, Ra1⟩) Tryd.func20 rfl rfl)) rfl rfl ?_
        rintro _ w12 ⟨J79, hJ79, rfl, M⟩
        have hS := (⟨(M.less hJ79 (fun _ _ => rfl)), trivial⟩ : _ ∧ _)
        refine ⟨fun _ => hS, ?_⟩
        replace M := M.less hJ79 (fun _ _ => rfl)
        refine wa_q 26 rfl (by kernel_rfl) (q_pickT rfl hg69 rfl) hS rfl rfl ?_
        refine wa_done (by kernel_rfl) ?_
        exact ⟨(), M, ⟨(show some (Value.bool (relS a (x.extract k4 k0) (y.extract k6 k2))) = some (Value.bool ((((decide ((k4 : Int) < (k0 : Int))) || (decide ((k6 : Int) < (k2 : Int)))) && b) && (relS a (x.extract k4 k0) (y.extract k6 k2)))) from by first | (simp only [hg57, hg69, Bool.true_or, Bool.false_or, Bool.true_and, Bool.false_and, Bool.or_true, Bool.or_false, Bool.and_true, Bool.and_false]; done) | simp_all), trivial⟩, unw_take 27 rfl rfl⟩
       refine wa_q 16 rfl (by kernel_rfl) (q_off 15 rfl rfl rfl hg69) hS rfl rfl ?_
       refine wa_q 17 rfl (by kernel_rfl) (q_off 15 rfl rfl rfl hg69) hS rfl rfl ?_
       refine wa_q 18 rfl (by kernel_rfl) (q_off 15 rfl rfl rfl hg69) hS rfl rfl ?_
       refine wa_q 19 rfl (by kernel_rfl) (q_off 15 rfl rfl rfl hg69) hS rfl rfl ?_
       refine wa_q 20 rfl (by kernel_rfl) (q_off 15 rfl rfl rfl hg69) hS rfl rfl ?_
       refine wa_q 21 rfl (by kernel_rfl) (q_off 15 rfl rfl rfl hg69) hS rfl rfl ?_
       refine wa_q 22 rfl (by kernel_rfl) (q_off 15 rfl rfl rfl hg69) hS rfl rfl ?_
       refine wa_q 23 rfl (by kernel_rfl) (q_off 15 rfl rfl rfl hg69) hS rfl rfl ?_
       refine wa_q 24 rfl (by kernel_rfl) (q_off 15 rfl rfl rfl hg69) hS rfl rfl ?_
       refine wa_q 25 rfl (by kernel_rfl) (q_off 15 rfl rfl rfl hg69) hS rfl rfl ?_
       refine wa_q 26 rfl (by kernel_rfl) (q_pickF rfl hg69 rfl) hS rfl rfl ?_
       refine wa_done (by kernel_rfl) ?_
       exact ⟨(), M, ⟨(show some (Value.bool false) = some (Value.bool ((((decide ((k4 : Int) < (k0 : Int))) || (decide ((k6 : Int) < (k2 : Int)))) && b) && (relS a (x.extract k4 k0) (y.extract k6 k2)))) from by first | (simp only [hg57, hg69, Bool.true_or, Bool.false_or, Bool.true_and, Bool.false_and, Bool.or_true, Bool.or_false, Bool.and_true, Bool.and_false]; done) | simp_all), trivial⟩, unw_take 27 rfl rfl⟩
      refine wa_q 4 rfl (by kernel_rfl) (q_guard 3 rfl rfl rfl hg57 (q_move rfl)) hS rfl rfl ?_
      refine wa_q 5 rfl (by kernel_rfl) (q_guard 3 rfl rfl rfl hg57 (q_move rfl)) hS rfl rfl ?_
      refine wa_q 6 rfl (by kernel_rfl) (q_guard 3 rfl rfl rfl hg57 (q_lss rfl rfl)) hS rfl rfl ?_
      refine wa_q 7 rfl (by kernel_rfl) (q_pickF rfl hg57 rfl) hS rfl rfl ?_
      refine wa_q 8 rfl (by kernel_rfl) (q_move rfl) hS rfl rfl ?_
      rcases Bool.eq_false_or_eq_true (decide ((k6 : Int) < (k2 : Int))) with hg62 | hg62
      ·refine wa_q 9 rfl (by kernel_rfl) (q_guard 8 rfl rfl rfl hg62 (q_move rfl)) hS rfl rfl ?_
       refine wa_q 10 rfl (by kernel_rfl) (q_guard 8 rfl rfl rfl hg62 (q_move rfl)) hS rfl rfl ?_
       refine wa_q 11 rfl (by kernel_rfl) (q_guard 8 rfl rfl rfl hg62 (q_ia (i := k4) Tryd.underlying44 sz43 rfl rfl (by omega))) hS rfl rfl ?_
       refine wa_q 12 rfl (by kernel_rfl) (q_guard 8 rfl rfl rfl hg62 (q_ia (i := k6) Tryd.underlying43 sz4 rfl rfl (by omega))) hS rfl rfl ?_
       refine wa_q 13 rfl (by kernel_rfl) ((q_guard 8 rfl rfl rfl hg62 (q_ldb 0 Tryd.underlying4 rfl rfl rfl (grid_at hb))).mono fun _ h => h.1) hS rfl rfl ?_
       refine wa_q 14 rfl (by kernel_rfl) (q_pickT rfl hg62 rfl) hS rfl rfl ?_
       refine wa_q 15 rfl (by kernel_rfl) (q_move rfl) hS rfl rfl ?_
       rcases Bool.eq_false_or_eq_true (b) with hg69 | hg69
       ·refine wa_q 16 rfl (by kernel_rfl) ((q_guard 15 rfl rfl rfl hg69 (q_ldbA 1 Tryd.underlying29 rfl sz29 rfl rfl rfl rfl)).mono fun _ h => h.1) hS rfl rfl ?_
        refine wa_q 17 rfl (by kernel_rfl) (q_guard 15 rfl rfl rfl hg69 (q_move rfl)) hS rfl rfl ?_
        refine wa_q 18 rfl (by kernel_rfl) (q_guard 15 rfl rfl rfl hg69 (q_move rfl)) hS rfl rfl ?_
        refine wa_q 19 rfl (by kernel_rfl) (q_guard 15 rfl rfl rfl hg69 (q_move rfl)) hS rfl rfl ?_
        refine wa_q 20 rfl (by kernel_rfl) (q_guard 15 rfl rfl rfl hg69 (q_strCut (i := k4) (j := k0) Tryd.underlying9 (by omega) (by omega) rfl rfl rfl)) hS rfl rfl ?_
        refine wa_q 21 rfl (by kernel_rfl) (q_guard 15 rfl rfl rfl hg69 (q_move rfl)) hS rfl rfl ?_
        refine wa_q 22 rfl (by kernel_rfl) (q_guard 15 rfl rfl rfl hg69 (q_move rfl)) hS rfl rfl ?_
        refine wa_q 23 rfl (by kernel_rfl) (q_guard 15 rfl rfl rfl hg69 (q_move rfl)) hS rfl rfl ?_
        refine wa_q 24 rfl (by kernel_rfl) (q_guard 15 rfl rfl rfl hg69 (q_strCut (i := k6) (j := k2) Tryd.underlying9 (by omega) (by omega) rfl rfl rfl)) hS rfl rfl ?_
        refine wa_e 25 rfl (by kernel_rfl) (e_guard 15 rfl rfl rfl hg69 (e_callC M (relates_c a (x.extract k4 k0) (y.extract k6 k2) (Nat.le_trans (ext_le _ _ _) (by omega)) (Nat.le_trans (ext_le _ _ _) (by omega)) (ext_mul6 hsx hsy) M.imm ⟨_, _, rfl, Rf1, Ra1⟩) Tryd.func20 rfl rfl)) rfl rfl ?_
        rintro _ w13 ⟨J79, hJ79, rfl, M⟩
        have hS := (⟨(M.less hJ79 (fun _ _ => rfl)), trivial⟩ : _ ∧ _)
        refine ⟨fun _ => hS, ?_⟩
        replace M := M.less hJ79 (fun _ _ => rfl)
        refine wa_q 26 rfl (by kernel_rfl) (q_pickT rfl hg69 rfl) hS rfl rfl ?_
        refine wa_done (by kernel_rfl) ?_
        exact ⟨(), M, ⟨(show some (Value.bool (relS a (x.extract k4 k0) (y.extract k6 k2))) = some (Value.bool ((((decide ((k4 : Int) < (k0 : Int))) || (decide ((k6 : Int) < (k2 : Int)))) && b) && (relS a (x.extract k4 k0) (y.extract k6 k2)))) from by first | (simp only [hg57, hg62, hg69, Bool.true_or, Bool.false_or, Bool.true_and, Bool.false_and, Bool.or_true, Bool.or_false, Bool.and_true, Bool.and_false]; done) | simp_all), trivial⟩, unw_take 27 rfl rfl⟩
       refine wa_q 16 rfl (by kernel_rfl) (q_off 15 rfl rfl rfl hg69) hS rfl rfl ?_
       refine wa_q 17 rfl (by kernel_rfl) (q_off 15 rfl rfl rfl hg69) hS rfl rfl ?_
       refine wa_q 18 rfl (by kernel_rfl) (q_off 15 rfl rfl rfl hg69) hS rfl rfl ?_
       refine wa_q 19 rfl (by kernel_rfl) (q_off 15 rfl rfl rfl hg69) hS rfl rfl ?_
       refine wa_q 20 rfl (by kernel_rfl) (q_off 15 rfl rfl rfl hg69) hS rfl rfl ?_
       refine wa_q 21 rfl (by kernel_rfl) (q_off 15 rfl rfl rfl hg69) hS rfl rfl ?_
       refine wa_q 22 rfl (by kernel_rfl) (q_off 15 rfl rfl rfl hg69) hS rfl rfl ?_
       refine wa_q 23 rfl (by kernel_rfl) (q_off 15 rfl rfl rfl hg69) hS rfl rfl ?_
       refine wa_q 24 rfl (by kernel_rfl) (q_off 15 rfl rfl rfl hg69) hS rfl rfl ?_
       refine wa_q 25 rfl (by kernel_rfl) (q_off 15 rfl rfl rfl hg69) hS rfl rfl ?_
       refine wa_q 26 rfl (by kernel_rfl) (q_pickF rfl hg69 rfl) hS rfl rfl ?_
       refine wa_done (by kernel_rfl) ?_
       exact ⟨(), M, ⟨(show some (Value.bool false) = some (Value.bool ((((decide ((k4 : Int) < (k0 : Int))) || (decide ((k6 : Int) < (k2 : Int)))) && b) && (relS a (x.extract k4 k0) (y.extract k6 k2)))) from by first | (simp only [hg57, hg62, hg69, Bool.true_or, Bool.false_or, Bool.true_and, Bool.false_and, Bool.or_true, Bool.or_false, Bool.and_true, Bool.and_false]; done) | simp_all), trivial⟩, unw_take 27 rfl rfl⟩
      refine wa_q 9 rfl (by kernel_rfl) (q_off 8 rfl rfl rfl hg62) hS rfl rfl ?_
      refine wa_q 10 rfl (by kernel_rfl) (q_off 8 rfl rfl rfl hg62) hS rfl rfl ?_
      refine wa_q 11 rfl (by kernel_rfl) (q_off 8 rfl rfl rfl hg62) hS rfl rfl ?_
      refine wa_q 12 rfl (by kernel_rfl) (q_off 8 rfl rfl rfl hg62) hS rfl rfl ?_
      refine wa_q 13 rfl (by kernel_rfl) (q_off 8 rfl rfl rfl hg62) hS rfl rfl ?_
      refine wa_q 14 rfl (by kernel_rfl) (q_pickF rfl hg62 rfl) hS rfl rfl ?_
      refine wa_q 15 rfl (by kernel_rfl) (q_move rfl) hS rfl rfl ?_
      refine wa_q 16 rfl (by kernel_rfl) (q_off 15 rfl rfl rfl rfl) hS rfl rfl ?_
      refine wa_q 17 rfl (by kernel_rfl) (q_off 15 rfl rfl rfl rfl) hS rfl rfl ?_
      refine wa_q 18 rfl (by kernel_rfl) (q_off 15 rfl rfl rfl rfl) hS rfl rfl ?_
      refine wa_q 19 rfl (by kernel_rfl) (q_off 15 rfl rfl rfl rfl) hS rfl rfl ?_
      refine wa_q 20 rfl (by kernel_rfl) (q_off 15 rfl rfl rfl rfl) hS rfl rfl ?_
      refine wa_q 21 rfl (by kernel_rfl) (q_off 15 rfl rfl rfl rfl) hS rfl rfl ?_
      refine wa_q 22 rfl (by kernel_rfl) (q_off 15 rfl rfl rfl rfl) hS rfl rfl ?_
      refine wa_q 23 rfl (by kernel_rfl) (q_off 15 rfl rfl rfl rfl) hS rfl rfl ?_
      refine wa_q 24 rfl (by kernel_rfl) (q_off 15 rfl rfl rfl rfl) hS rfl rfl ?_
      refine wa_q 25 rfl (by kernel_rfl) (q_off 15 rfl rfl rfl rfl) hS rfl rfl ?_
      refine wa_q 26 rfl (by kernel_rfl) (q_pickF rfl rfl rfl) hS rfl rfl ?_
      refine wa_done (by kernel_rfl) ?_
      exact ⟨(), M, ⟨(show some (Value.bool false) = some (Value.bool ((((decide ((k4 : Int) < (k0 : Int))) || (decide ((k6 : Int) < (k2 : Int)))) && b) && (relS a (x.extract k4 k0) (y.extract k6 k2)))) from by first | (simp only [hg57, hg62, Bool.true_or, Bool.false_or, Bool.true_and, Bool.false_and, Bool.or_true, Bool.or_false, Bool.and_true, Bool.and_false]; done) | simp_all), trivial⟩, unw_take 27 rfl rfl⟩
     rintro _ jr19 w14 M
     refine wc_cond rfl (fun ht80 => ?_) (fun ht80 => ?_)
     ·refine wc_region ?_
      refine wl_mv M rfl rfl ?_
      refine wl_mv M rfl rfl ?_
      refine wl_m M (q_ia (i := k0) Tryd.underlying44 sz43 rfl rfl (by omega)) rfl rfl ?_
      refine wl_m M (q_ia (i := k2) Tryd.underlying43 sz4 rfl rfl (by omega)) rfl rfl ?_
      refine wl_e0 (e_stb 0 M rfl rfl rfl sz4 rfl (grid_set (b := true) (by have := hT6.len; omega))) rfl ?_
      intro _ w15 M
      simp only [sC0, sCS] at M
      refine wl_nil ?_
      refine wc_region ?_
      refine wl_mv M rfl rfl ?_
      refine wl_m M (q_add rfl rfl (IntWalk.i64_in _ (by omega))) rfl rfl ?_
      refine wl_as M rfl rfl ?_
      refine wl_nil ?_
      refine ⟨(k6 + 1, (bs_7_6.set (k0 * 7 + k2) true)), ?_, ⟨(by omega), (hT6.yes hsx hsy (by omega) (by omega) (by omega) (by omega) hb ht80), M⟩, ⟨rfl, trivial⟩, unw_look rfl (unw_hav rfl (unw_look rfl unw_base))⟩
      show k2 + 1 - (k6 + 1) < k2 + 1 - k6
      omega
     refine wc_skip ?_
     refine wc_region ?_
     refine wl_mv M rfl rfl ?_
     refine wl_m M (q_add rfl rfl (IntWalk.i64_in _ (by omega))) rfl rfl ?_
     refine wl_as M rfl rfl ?_
     refine wl_nil ?_
     refine ⟨(k6 + 1, bs_7_6), ?_, ⟨(by omega), (hT6.no (by omega) (by omega) (by omega) (by omega) hb ht80), M⟩, ⟨rfl, trivial⟩, unw_look rfl (unw_hav rfl (unw_look rfl unw_base))⟩
     show k2 + 1 - (k6 + 1) < k2 + 1 - k6
     omega
    have hke6 : k6 = k2 + 1 := by omega
    refine wc_exit rfl ?_
    refine wc_region ?_
    refine wl_mv M rfl rfl ?_
    refine wl_m M (q_add rfl rfl (IntWalk.i64_in _ (by omega))) rfl rfl ?_
    refine wl_as M rfl rfl ?_
    refine wl_nil ?_
    refine ⟨(k4 + 1, bs_7_6), ?_, ⟨(by omega), (Tab.congr (hke6 ▸ hT6) Seen.row), M⟩, ⟨rfl, trivial⟩, unw_look rfl (unw_hav rfl (unw_look rfl unw_base))⟩
    show k0 + 1 - (k4 + 1) < k0 + 1 - k4
    omega
   have hke4 : k4 = k0 + 1 := by omega
   refine wc_exit rfl ?_
   refine wc_region ?_
   refine wl_mv M rfl rfl ?_
   refine wl_m M (q_add rfl rfl (IntWalk.i64_in _ (by omega))) rfl rfl ?_
   refine wl_as M rfl rfl ?_
   refine wl_nil ?_
   refine ⟨(k2 + 1, bs_7_4), ?_, ⟨(by omega), (Tab.colS hsx hsy (by omega) (by omega) (hke4 ▸ hT4)), M⟩, ⟨rfl, trivial⟩, unw_look rfl (unw_hav rfl (unw_look rfl unw_base))⟩
   show y.size + 1 - (k2 + 1) < y.size + 1 - k2
   omega
  have hke2 : k2 = y.size + 1 := by omega
  refine wc_exit rfl ?_
  refine wc_region ?_
  refine wl_mv M rfl rfl ?_
  refine wl_m M (q_add rfl rfl (IntWalk.i64_in _ (by omega))) rfl rfl ?_
  refine wl_as M rfl rfl ?_
  refine wl_nil ?_
  refine ⟨(k0 + 1, bs_7_2), ?_, ⟨(by omega), ((hT2.2 hke2).rowS hsx hsy (by omega)), M⟩, ⟨rfl, trivial⟩, unw_look rfl (unw_hav rfl (unw_look rfl unw_base))⟩
  show x.size + 1 - (k0 + 1) < x.size + 1 - k0
  omega
 have hke0 : k0 = x.size + 1 := by omega
 have hbf := (hT0.2 hke0).fin hsx hsy
 refine wc_exit rfl ?_
 refine wc_seq ?_
 refine wc_region ?_
 refine wl_m M (q_ldbA 1 Tryd.underlying29 rfl sz29 rfl rfl rfl rfl) rfl rfl ?_
 refine wl_e (e_callC M (star_c a M.imm ⟨_, _, rfl, Rf1, Ra1⟩) Tryd.func23 rfl rfl) rfl rfl ?_
 rintro _ w16 ⟨J87, hJ87, ⟨_, t87, e87, rfl, ⟨fu87, au87, rfl, Rf87, Ra87⟩, hc87⟩, M⟩
 have hoJ87 := M.old
 refine wl_mv M rfl rfl ?_
 refine wl_m M (q_ext rfl rfl) rfl rfl ?_
 refine wl_m M (q_ext rfl rfl) rfl rfl ?_
 refine wl_e (e_alloc M z29) rfl rfl ?_
 rintro _ w17 ⟨b12, rfl, M⟩
 refine wl_e0 (e_stW 0 M rfl rfl rfl sz29 rfl rfl) rfl ?_
 intro _ w18 M
 simp only [sC0, sCS] at M
 refine wl_as M rfl rfl ?_
 refine wl_nil ?_
 refine wc_seq ?_
 refine wc_join (α := Unit) [6, 90, 91, 92, 93, 94, 95, 96, 97, 98, 99, 100, 101, 102, 103, 104, 105] (fun _ => [(6, .bool ((decide (e87 = 0)) && ((relS t87 x y) == (rchB a x y x.size y.size))))]) (fun _ w' => Mem w I J87 (box b12 29 [.int .i64 t87.states, .int .i64 t87.start, sv fu87, sv au87] :: box b7 44 (bs_7_0.map Value.bool) :: box b3 29 [.int .i64 a.states, .int .i64 a.start, sv fu1, sv au1] :: []) w') ?_ ?_
 ·refine wc_draws (fun w' => Mem w I J87 (box b12 29 [.int .i64 t87.states, .int .i64 t87.start, sv fu87, sv au87] :: box b7 44 (bs_7_0.map Value.bool) :: box b3 29 [.int .i64 a.states, .int .i64 a.start, sv fu1, sv au1] :: []) w' ∧ True) [] fol ?_
  replace M := M.drew
  have hS := (⟨M, trivial⟩ : _ ∧ _)
  refine wa_q 0 rfl (by kernel_rfl) (q_move rfl) hS rfl rfl ?_
  refine wa_q 1 rfl (by kernel_rfl) (q_eql rfl rfl) hS rfl rfl ?_
  refine wa_q 2 rfl (by kernel_rfl) (q_move rfl) hS rfl rfl ?_
  rcases Bool.eq_false_or_eq_true (decide (e87 = 0)) with hg92 | hg92
  ·refine wa_q 3 rfl (by kernel_rfl) ((q_guard 2 rfl rfl rfl hg92 (q_ldbA 0 Tryd.underlying29 rfl sz29 rfl rfl rfl rfl)).mono fun _ h => h.1) hS rfl rfl ?_
   refine wa_q 4 rfl (by kernel_rfl) (q_guard 2 rfl rfl rfl hg92 (q_move rfl)) hS rfl rfl ?_
   refine wa_q 5 rfl (by kernel_rfl) (q_guard 2 rfl rfl rfl hg92 (q_move rfl)) hS rfl rfl ?_
   refine wa_q 7 rfl (by kernel_rfl) (q_guard 2 rfl rfl rfl hg92 (q_move rfl)) hS rfl rfl ?_
   refine wa_q 8 rfl (by kernel_rfl) (q_guard 2 rfl rfl rfl hg92 (q_lenStr Tryd.underlying9 rfl)) hS rfl rfl ?_
   refine wa_q 9 rfl (by kernel_rfl) (q_guard 2 rfl rfl rfl hg92 (q_move rfl)) hS rfl rfl ?_
   refine wa_q 10 rfl (by kernel_rfl) (q_guard 2 rfl rfl rfl hg92 (q_lenStr Tryd.underlying9 rfl)) hS rfl rfl ?_
   refine wa_q 11 rfl (by kernel_rfl) (q_guard 2 rfl rfl rfl hg92 (q_ia (i := x.size) Tryd.underlying44 sz43 rfl rfl (by omega))) hS rfl rfl ?_
   refine wa_q 12 rfl (by kernel_rfl) (q_guard 2 rfl rfl rfl hg92 (q_ia (i := y.size) Tryd.underlying43 sz4 rfl rfl (by omega))) hS rfl rfl ?_
   refine wa_q 13 rfl (by kernel_rfl) ((q_guard 2 rfl rfl rfl hg92 (q_ldb 1 Tryd.underlying4 rfl rfl rfl (grid_at hbf))).mono fun _ h => h.1) hS rfl rfl ?_
   refine wa_e 6 rfl (by kernel_rfl) (e_guard 2 rfl rfl rfl hg92 (e_callC M (relates_c t87 x y (by omega) (by omega) (Nat.le_trans (Nat.mul_le_mul (show x.size + 1 ≤ 7 by omega) (show y.size + 1 ≤ 7 by omega)) (by decide)) M.imm ⟨_, _, rfl, Rf87, Ra87⟩) Tryd.func20 rfl rfl)) rfl rfl ?_
   rintro _ w19 ⟨J96, hJ96, rfl, M⟩
   have hS := (⟨(M.less hJ96 hoJ87), trivial⟩ : _ ∧ _)
   refine ⟨fun _ => hS, ?_⟩
   replace M := M.less hJ96 hoJ87
   refine wa_q 14 rfl (by kernel_rfl) (q_guard 2 rfl rfl rfl hg92 (q_eqlB Tryd.underlying4 rfl rfl)) hS rfl rfl ?_
   refine wa_q 15 rfl (by kernel_rfl) (q_pickT rfl hg92 rfl) hS rfl rfl ?_
   refine wa_q 16 rfl (by kernel_rfl) (q_assign rfl) hS rfl rfl ?_
   refine wa_done (by kernel_rfl) ?_
   exact ⟨(), M, ⟨(show some (Value.bool ((relS t87 x y) == (rchB a x y x.size y.size))) = some (Value.bool ((decide (e87 = 0)) && ((relS t87 x y) == (rchB a x y x.size y.size)))) from by first | (simp only [hg92, Bool.true_or, Bool.false_or, Bool.true_and, Bool.false_and, Bool.or_true, Bool.or_false, Bool.and_true, Bool.and_false]; done) | simp_all), trivial⟩, unw_take 17 rfl rfl⟩
  refine wa_q 3 rfl (by kernel_rfl) (q_off 2 rfl rfl rfl hg92) hS rfl rfl ?_
  refine wa_q 4 rfl (by kernel_rfl) (q_off 2 rfl rfl rfl hg92) hS rfl rfl ?_
  refine wa_q 5 rfl (by kernel_rfl) (q_off 2 rfl rfl rfl hg92) hS rfl rfl ?_
  refine wa_q 7 rfl (by kernel_rfl) (q_off 2 rfl rfl rfl hg92) hS rfl rfl ?_
  refine wa_q 8 rfl (by kernel_rfl) (q_off 2 rfl rfl rfl hg92) hS rfl rfl ?_
  refine wa_q 9 rfl (by kernel_rfl) (q_off 2 rfl rfl rfl hg92) hS rfl rfl ?_
  refine wa_q 10 rfl (by kernel_rfl) (q_off 2 rfl rfl rfl hg92) hS rfl rfl ?_
  refine wa_q 11 rfl (by kernel_rfl) (q_off 2 rfl rfl rfl hg92) hS rfl rfl ?_
  refine wa_q 12 rfl (by kernel_rfl) (q_off 2 rfl rfl rfl hg92) hS rfl rfl ?_
  refine wa_q 13 rfl (by kernel_rfl) (q_off 2 rfl rfl rfl hg92) hS rfl rfl ?_
  refine wa_q 6 rfl (by kernel_rfl) (q_off 2 rfl rfl rfl hg92) hS rfl rfl ?_
  refine wa_q 14 rfl (by kernel_rfl) (q_off 2 rfl rfl rfl hg92) hS rfl rfl ?_
  refine wa_q 15 rfl (by kernel_rfl) (q_pickF rfl hg92 rfl) hS rfl rfl ?_
  refine wa_q 16 rfl (by kernel_rfl) (q_assign rfl) hS rfl rfl ?_
  refine wa_done (by kernel_rfl) ?_
  exact ⟨(), M, ⟨(show some (Value.bool false) = some (Value.bool ((decide (e87 = 0)) && ((relS t87 x y) == (rchB a x y x.size y.size)))) from by first | (simp only [hg92, Bool.true_or, Bool.false_or, Bool.true_and, Bool.false_and, Bool.or_true, Bool.or_false, Bool.and_true, Bool.and_false]; done) | simp_all), trivial⟩, unw_take 17 rfl rfl⟩
 rintro _ jr22 w20 M
 refine wc_ret ?_
 exact out1 rfl rfl ⟨_, _, rfl, M.grow, by obtain ⟨he, hr⟩ := repeats_law (x := x) (y := y) hva (by omega) (by omega) hc87; rw [hr, he]; simp⟩
end Go.Proofs.YtoilmeiikgegcaaDoor.G
