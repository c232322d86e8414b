/- Walks of the program's functions. -/
import Derived.Test.YtfepjcmjkaolgaaGreatDoorGEps
import Derived.Test.YtfepjcmjkaolgaaGreatDoorWA
set_option linter.all false
namespace Go.Proofs.YtfepjcmjkaolgaaGreatDoor.G
open Go Go.RowKit
theorem sequentialT_c (t : Tra) {v1 : Value} {I : Heap} {w : World} (hI : hle I (hp w)) (R1 : t.rd I v1) : Calls A 19 #[v1] w (Ret w I fun r _ => r = .bool (seqS t)) := by
 obtain ⟨fu1, au1, rfl, Rf1, Ra1⟩ := R1
 have hll0 := Ra1.len_le
 have M := Mem.start hI
 refine enter Tryz.func19 rfl 34 Tryz.ntmps19 [_] rfl ?_
 refine wc_seq ?_
 refine wc_region ?_
 refine wl_e (e_box M rfl) rfl rfl ?_
 rintro _ w1 ⟨b1, rfl, M⟩
 refine wl_as M rfl rfl ?_
 refine wl_nil ?_
 refine wc_seq ?_
 refine wc_seq ?_
 refine wc_region ?_
 refine wl_m M (q_ldbA 0 Tryz.underlying25 rfl sz25 rfl rfl rfl rfl) rfl rfl ?_
 refine wl_e (e_callC M (valid_c t M.imm ⟨_, _, rfl, Rf1, Ra1⟩) Tryz.func17 rfl rfl) rfl rfl ?_
 rintro _ w2 ⟨J8, hJ8, rfl, M⟩
 replace M := M.less hJ8 (fun _ _ => rfl)
 refine wl_m M (q_not rfl) rfl rfl ?_
 refine wl_nil ?_
 refine wc_cond rfl (fun ht9 => ?_) (fun ht9 => ?_)
 ·refine wc_seq ?_
  refine wc_region ?_
  refine wl_as M rfl rfl ?_
  refine wl_nil ?_
  refine wc_ret ?_
  exact out1 rfl rfl ⟨_, _, rfl, M.grow, by rw [seqS, show validT t = false by simpa using ht9]; rfl⟩
 have hv : validT t = true := by simpa using ht9
 refine wc_skip ?_
 refine wc_seq ?_
 refine wc_region ?_
 refine wl_e (e_mkm QLbl Value.bool M) rfl rfl ?_
 rintro _ w3 ⟨b10, rfl, M⟩
 refine wl_as M rfl rfl ?_
 refine wl_nil ?_
 refine wc_seq ?_
 refine wc_seq ?_
 refine wc_region ?_
 refine wl_m M (q_fa fo_25_3 rfl) rfl rfl ?_
 refine wl_m M (q_ldb 1 Tryz.underlying23 rfl rfl rfl rfl) rfl rfl ?_
 refine wl_m M (q_lenR Ra1 Tryz.underlying23 rfl) rfl rfl ?_
 refine wl_mv M rfl rfl ?_
 refine wl_nil ?_
 refine wc_block ?_
 refine wc_loop (α := Nat × (List (Lbl × Bool))) [2, 5, 6, 14, 15, 16, 17, 18, 19, 20, 21, 22, 23, 24, 25, 26, 27, 28, 29, 30, 31, 32, 33] (fun ((k0, m_10_0) : Nat × (List (Lbl × Bool))) => [(14, .int .i64 (k0 : Int))])
   (fun ((k0, m_10_0) : Nat × (List (Lbl × Bool))) w' => (k0 ≤ t.arcs.length) ∧ (m_10_0 = tr ((t.arcs.take k0).map lblA)) ∧ (seqL (t.arcs.take k0) = true) ∧ Mem w I I (mpr QLbl Value.bool b10 m_10_0 :: box b1 25 [.int .i64 t.states, .int .i64 t.start, sv fu1, sv au1] :: []) w')
   (fun ((k0, m_10_0) : Nat × (List (Lbl × Bool))) => t.arcs.length - k0) (0, []) ⟨rfl, trivial⟩ ?_ ?_
 ·refine ⟨Nat.zero_le _, rfl, rfl, ?_⟩
  exact M
 rintro ⟨k0, m_10_0⟩ jj0 w4 ⟨hk0, hm, hsq, M⟩
 refine wc_seq ?_
 refine wc_region ?_
 refine wl_m M (q_lss rfl rfl) rfl rfl ?_
 refine wl_nil ?_
 refine wc_seq ?_
 refine wc_dec rfl (fun ht15 => ?_) (fun ht15 => ?_)
 ·obtain ⟨x0, hx0⟩ : ∃ x_, t.arcs[k0]? = some x_ := ⟨_, List.getElem?_eq_getElem (by omega)⟩
  have hll0 := (Ra1).len_le
  refine wc_skip ?_
  refine wc_seq ?_
  refine wc_block ?_
  refine wc_seq ?_
  refine wc_region ?_
  refine wl_ix (j := k0) M Ra1 Tryz.underlying23 rfl rfl hx0 rfl (fun b16 o16 p16 => ?_)
  refine wl_m M (q_ldp p16 rfl rfl) rfl rfl ?_
  refine wl_e (e_alloc M z40) rfl rfl ?_
  rintro _ w5 ⟨b5, rfl, M⟩
  refine wl_e0 (e_stW 0 M rfl rfl rfl sz40 rfl rfl) rfl ?_
  intro _ w6 M
  simp only [sC0, sCS] at M
  refine wl_nil ?_
  refine wc_seq ?_
  refine wc_region ?_
  refine wl_m M (q_fa fo_40_0 rfl) rfl rfl ?_
  refine wl_m M (q_ldb 0 Tryz.underlying3 rfl rfl rfl rfl) rfl rfl ?_
  refine wl_m M (q_fa fo_40_2 rfl) rfl rfl ?_
  refine wl_m M (q_ldb 0 Tryz.underlying21 rfl rfl rfl rfl) rfl rfl ?_
  refine wl_m M (q_build (bd_88_0_1 _ _) ⟨⟨rfl, rfl⟩, ⟨rfl, rfl⟩, trivial⟩) rfl rfl ?_
  refine wl_e (e_alloc M z88) rfl rfl ?_
  rintro _ w7 ⟨b6, rfl, M⟩
  refine wl_e0 (e_stW 0 M rfl rfl rfl sz88 rfl rfl) rfl ?_
  intro _ w8 M
  simp only [sC0, sCS] at M
  refine wl_nil ?_
  refine wc_seq ?_
  refine wc_seq ?_
  refine wc_join (α := Unit) [23, 24, 25, 26, 27, 28, 29, 30] (fun _ => [(30, .bool ((decide (x0.inp = 0)) || ((aget m_10_0 (Lbl.mk x0.src x0.inp)).getD false)))]) (fun _ w' => Mem w I I (box b6 88 [.int .i64 x0.src, .int .i32 x0.inp] :: box b5 40 [.int .i64 x0.src, .int .i64 x0.dst, .int .i32 x0.inp, .int .i32 x0.out] :: mpr QLbl Value.bool b10 m_10_0 :: box b1 25 [.int .i64 t.states, .int .i64 t.start, sv fu1, sv au1] :: []) w') ?_ ?_
  ·refine wc_region ?_
   refine wl_m M (q_fa fo_40_2 rfl) rfl rfl ?_
   refine wl_m M (q_ldb 1 Tryz.underlying21 rfl rfl rfl rfl) rfl rfl ?_
   refine wl_m M (q_eql rfl rfl) rfl rfl ?_
   refine wl_mv M rfl rfl ?_
   rcases Bool.eq_false_or_eq_true (decide (x0.inp = 0)) with hg26 | hg26
   ·refine wl_m M (q_off 3 rfl rfl rfl hg26) rfl rfl ?_
    refine wl_m M (q_off 3 rfl rfl rfl hg26) rfl rfl ?_
    refine wl_m M (q_off 3 rfl rfl rfl hg26) rfl rfl ?_
    refine wl_m M (q_pickT rfl hg26 rfl) rfl rfl ?_
    refine wl_nil ?_
    exact ⟨(), M, ⟨(show some (Value.bool true) = some (Value.bool ((decide (x0.inp = 0)) || ((aget m_10_0 (Lbl.mk x0.src x0.inp)).getD false))) from by first | (simp only [hg26, Bool.true_or, Bool.false_or, Bool.true_and, Bool.false_and, Bool.or_true, Bool.or_false, Bool.and_true, Bool.and_false]; done) | simp_all), trivial⟩, unw_take 8 rfl rfl⟩
   refine wl_m M (q_guard 3 rfl rfl rfl hg26 (q_move rfl)) rfl rfl ?_
   refine wl_m M (q_guard 3 rfl rfl rfl hg26 (q_ldbA 0 Tryz.underlying88 rfl sz88 rfl rfl rfl rfl)) rfl rfl ?_
   refine wl_m M (q_guard 3 rfl rfl rfl hg26 (q_lk (k := (Lbl.mk x0.src x0.inp)) (z := false) 2 rfl Tryz.underlying86 zv4 rfl rfl)) rfl rfl ?_
   refine wl_m M (q_pickF rfl hg26 rfl) rfl rfl ?_
   refine wl_nil ?_
   exact ⟨(), M, ⟨(show some (Value.bool ((aget m_10_0 (Lbl.mk x0.src x0.inp)).getD false)) = some (Value.bool ((decide (x0.inp = 0)) || ((aget m_10_0 (Lbl.mk x0.src x0.inp)).getD false))) from by first | (simp only [hg26, Bool.true_or, Bool.false_or, Bool.true_and, Bool.false_and, Bool.or_true, Bool.or_false, Bool.and_true, Bool.and_false]; done) | simp_all), trivial⟩, unw_take 8 rfl rfl⟩
  rintro _ jr8 w9 M
  refine wc_cond rfl (fun ht30 => ?_) (fun ht30 => ?_)
  ·rw [hm, aget_tr] at ht30
   refine wc_seq ?_
   refine wc_region ?_
   refine wl_as M rfl rfl ?_
   refine wl_nil ?_
   refine wc_ret ?_
   exact out1 rfl rfl ⟨_, _, rfl, M.grow, by rw [seqS, seqL_no hx0 (lbl_yes ht30), Bool.and_false]⟩
  rw [hm, aget_tr] at ht30
  obtain ⟨hn0, hnk⟩ := lbl_no ht30
  refine wc_skip ?_
  refine wc_region ?_
  refine wl_mv M rfl rfl ?_
  refine wl_m M (q_ldbA 0 Tryz.underlying88 rfl sz88 rfl rfl rfl rfl) rfl rfl ?_
  refine wl_e0 (e_mpu (k := (Lbl.mk x0.src x0.inp)) (v := true) 2 M rfl Tryz.underlying86 rfl rfl rfl) rfl ?_
  intro _ w10 M
  simp only [sC0, sCS] at M
  refine wl_nil ?_
  refine wc_region ?_
  refine wl_m M (q_add rfl rfl (IntWalk.i64_in _ (by omega))) rfl rfl ?_
  refine wl_mv M rfl rfl ?_
  refine wl_nil ?_
  replace M := M.drop 0
  replace M := M.drop 0
  refine ⟨(k0 + 1, aput m_10_0 (Lbl.mk x0.src x0.inp) true), ?_, ⟨(by omega), (by rw [hm]; show aput (tr _) (lblA x0) true = _; rw [aput_tr hnk, take_snoc hx0, List.map_append]; rfl), (by rw [take_snoc hx0]; exact seqL_yes hsq hn0 hnk), M⟩, ⟨rfl, trivial⟩, unw_look rfl (unw_hav rfl (unw_look rfl unw_base))⟩
  show t.arcs.length - (k0 + 1) < t.arcs.length - k0
  omega
 have hke0 : k0 = t.arcs.length := by omega
 rw [hke0, List.take_length] at hsq
 refine wc_exit rfl ?_
 refine wc_seq ?_
 refine wc_region ?_
 refine wl_as M rfl rfl ?_
 refine wl_nil ?_
 refine wc_ret ?_
 exact out1 rfl rfl ⟨_, _, rfl, M.grow, by rw [seqS, hv, hsq]; rfl⟩
end Go.Proofs.YtfepjcmjkaolgaaGreatDoor.G
