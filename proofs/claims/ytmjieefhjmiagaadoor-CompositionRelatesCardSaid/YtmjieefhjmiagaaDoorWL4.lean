/- Walks of the program's functions. -/
import Derived.Test.YtmjieefhjmiagaaDoorWRb
import Derived.Test.YtmjieefhjmiagaaDoorWL0
import Derived.Test.YtmjieefhjmiagaaDoorWX
set_option linter.all false
namespace Go.Proofs.YtmjieefhjmiagaaDoor.G
open Go Go.RowKit
theorem lawRelates_c (a b : Tra) (x z : ByteArray) {v1 v2 : Value} {I : Heap} {w : World} (hI : hle I (hp w)) (hT : Tabs I) (R1 : a.rd I v1) (R2 : b.rd I v2) : Calls A 7 #[v1, v2, .string x, .string z] w (Ret w I fun r _ => r = .bool true) := by
  obtain ⟨fu1, au1, rfl, Rf1, Ra1⟩ := R1
  obtain ⟨fu2, au2, rfl, Rf2, Ra2⟩ := R2
  have M := Mem.start hI
  refine enter Tryd.func7 rfl 58 Tryd.ntmps7 [_, _, _, _] rfl ?_
  refine wc_seq ?_
  refine wc_region ?_
  refine wl_e (e_box M rfl) rfl rfl ?_
  rintro _ w1 ⟨b4, rfl, M⟩
  refine wl_e (e_box M rfl) rfl rfl ?_
  rintro _ w2 ⟨b5, rfl, M⟩
  refine wl_m M (q_assign rfl) rfl rfl ?_
  refine wl_nil ?_
  refine wc_seq ?_
  refine wc_seq ?_
  refine wc_join (α := Unit) [13, 14, 15, 16, 17, 18, 19, 20, 21, 22, 23, 24, 25, 26, 27, 28] (fun _ => [(28, .bool (((!true) || (!([a, b].all fewB))) || (!([x, z].all (fun s => !decide (20 < (s.size : Int))) && decide ((([x, z] : List ByteArray).length : Int) ≤ 6)))))]) (fun _ w' => Mem w I I (box b5 25 [.int .i64 b.states, .int .i64 b.start, sv fu2, sv au2] :: box b4 25 [.int .i64 a.states, .int .i64 a.start, sv fu1, sv au1] :: []) w') ?_ ?_
  · refine wc_region ?_
    refine wl_e (e_callC M (awake_c M.imm hT) Tryd.func10 rfl rfl) rfl rfl ?_
    rintro _ w3 ⟨J13, hJ13, rfl, M⟩
    replace M := M.less hJ13 (fun _ _ => rfl)
    refine wl_m M (q_not rfl) rfl rfl ?_
    refine wl_m M (q_move rfl) rfl rfl ?_
    rcases Bool.eq_false_or_eq_true (!true) with hg15 | hg15
    · refine wl_m M (q_off 2 rfl rfl rfl hg15) rfl rfl ?_
      refine wl_m M (q_off 2 rfl rfl rfl hg15) rfl rfl ?_
      refine wl_m M (q_off 2 rfl rfl rfl hg15) rfl rfl ?_
      refine wl_m M (q_off 2 rfl rfl rfl hg15) rfl rfl ?_
      refine wl_m M (q_off 2 rfl rfl rfl hg15) rfl rfl ?_
      refine wl_m M (q_pickT rfl hg15 rfl) rfl rfl ?_
      refine wl_m M (q_move rfl) rfl rfl ?_
      refine wl_m M (q_off 9 rfl rfl rfl rfl) rfl rfl ?_
      refine wl_m M (q_off 9 rfl rfl rfl rfl) rfl rfl ?_
      refine wl_m M (q_off 9 rfl rfl rfl rfl) rfl rfl ?_
      refine wl_m M (q_off 9 rfl rfl rfl rfl) rfl rfl ?_
      refine wl_m M (q_off 9 rfl rfl rfl rfl) rfl rfl ?_
      refine wl_m M (q_pickT rfl rfl rfl) rfl rfl ?_
      refine wl_nil ?_
      exact ⟨(), M, ⟨(show some (Value.bool true) = some (Value.bool (((!true) || (!([a, b].all fewB))) || (!([x, z].all (fun s => !decide (20 < (s.size : Int))) && decide ((([x, z] : List ByteArray).length : Int) ≤ 6))))) from by first | (simp only [hg15, Bool.true_or, Bool.false_or, Bool.true_and, Bool.false_and, Bool.or_true, Bool.or_false, Bool.and_true, Bool.and_false]; done) | simp_all), trivial⟩, unw_take 16 rfl rfl⟩
    · refine wl_m M (q_guard 2 rfl rfl rfl hg15 (q_ldbA 1 Tryd.underlying25 rfl sz25 rfl rfl rfl rfl)) rfl rfl ?_
      refine wl_m M (q_guard 2 rfl rfl rfl hg15 (q_ldbA 0 Tryd.underlying25 rfl sz25 rfl rfl rfl rfl)) rfl rfl ?_
      refine wl_e (e_guard 2 rfl rfl rfl hg15 (e_bsI (E := ETra) (xs := [(RTra.mk a.states a.start fu1 au1), (RTra.mk b.states b.start fu2 au2)]) M (bs_37_2 _ _ _ _ _ _ _ _) ⟨⟨rfl, rfl⟩, ⟨rfl, rfl⟩, trivial⟩ rfl rfl (by decide))) rfl rfl ?_
      rintro _ w4 ⟨u18, J18, rfl, hJ18, R18, M⟩
      have hoJ18 := M.old
      refine wl_e (e_guard 2 rfl rfl rfl hg15 (e_callC M (few_c M.imm (rdTras2 R18 (Rf1.mono hJ18) (Ra1.mono hJ18) (Rf2.mono hJ18) (Ra2.mono hJ18))) Tryd.func11 rfl rfl)) rfl rfl ?_
      rintro _ w5 ⟨J19, hJ19, rfl, M⟩
      replace M := M.less hJ19 hoJ18
      refine wl_m M (q_guard 2 rfl rfl rfl hg15 (q_not rfl)) rfl rfl ?_
      refine wl_m M (q_pickF rfl hg15 rfl) rfl rfl ?_
      refine wl_m M (q_move rfl) rfl rfl ?_
      rcases Bool.eq_false_or_eq_true (!([a, b].all fewB)) with hg22 | hg22
      · refine wl_m M (q_off 9 rfl rfl rfl hg22) rfl rfl ?_
        refine wl_m M (q_off 9 rfl rfl rfl hg22) rfl rfl ?_
        refine wl_m M (q_off 9 rfl rfl rfl hg22) rfl rfl ?_
        refine wl_m M (q_off 9 rfl rfl rfl hg22) rfl rfl ?_
        refine wl_m M (q_off 9 rfl rfl rfl hg22) rfl rfl ?_
        refine wl_m M (q_pickT rfl hg22 rfl) rfl rfl ?_
        refine wl_nil ?_
        replace M := M.less hJ18 (fun _ _ => rfl)
        exact ⟨(), M, ⟨(show some (Value.bool true) = some (Value.bool (((!true) || (!([a, b].all fewB))) || (!([x, z].all (fun s => !decide (20 < (s.size : Int))) && decide ((([x, z] : List ByteArray).length : Int) ≤ 6))))) from by first | (simp only [hg15, hg22, Bool.true_or, Bool.false_or, Bool.true_and, Bool.false_and, Bool.or_true, Bool.or_false, Bool.and_true, Bool.and_false]; done) | simp_all), trivial⟩, unw_take 16 rfl rfl⟩
      · refine wl_m M (q_guard 9 rfl rfl rfl hg22 (q_move rfl)) rfl rfl ?_
        refine wl_m M (q_guard 9 rfl rfl rfl hg22 (q_move rfl)) rfl rfl ?_
        refine wl_e (e_guard 9 rfl rfl rfl hg22 (e_bsI (E := EStr) (xs := [x, z]) M (bs_42_2 _ _) ⟨⟨rfl, rfl⟩, ⟨rfl, rfl⟩, trivial⟩ rfl rfl (by decide))) rfl rfl ?_
        rintro _ w6 ⟨u25, J25, rfl, hJ25, R25, M⟩
        have hoJ25 := M.old
        refine wl_e (e_guard 9 rfl rfl rfl hg22 (e_callC M (brief_c M.imm R25) Tryd.func15 rfl rfl)) rfl rfl ?_
        rintro _ w7 ⟨J26, hJ26, rfl, M⟩
        replace M := M.less hJ26 hoJ25
        refine wl_m M (q_guard 9 rfl rfl rfl hg22 (q_not rfl)) rfl rfl ?_
        refine wl_m M (q_pickF rfl hg22 rfl) rfl rfl ?_
        refine wl_nil ?_
        replace M := M.less (hle.trans hJ18 hJ25) (fun _ _ => rfl)
        exact ⟨(), M, ⟨(show some (Value.bool (!([x, z].all (fun s => !decide (20 < (s.size : Int))) && decide ((([x, z] : List ByteArray).length : Int) ≤ 6)))) = some (Value.bool (((!true) || (!([a, b].all fewB))) || (!([x, z].all (fun s => !decide (20 < (s.size : Int))) && decide ((([x, z] : List ByteArray).length : Int) ≤ 6))))) from by first | (simp only [hg15, hg22, Bool.true_or, Bool.false_or, Bool.true_and, Bool.false_and, Bool.or_true, Bool.or_false, Bool.and_true, Bool.and_false]; done) | simp_all), trivial⟩, unw_take 16 rfl rfl⟩
  rintro _ jr1 w8 M
  refine wc_cond rfl (fun ht28 => ?_) (fun ht28 => ?_)
  · refine wc_seq ?_
    refine wc_region ?_
    refine wl_e (e_callC M (awake_c M.imm hT) Tryd.func10 rfl rfl) rfl rfl ?_
    rintro _ w9 ⟨J29, hJ29, rfl, M⟩
    replace M := M.less hJ29 (fun _ _ => rfl)
    refine wl_m M (q_assign rfl) rfl rfl ?_
    refine wl_nil ?_
    refine wc_ret ?_
    exact out1 rfl rfl ⟨_, _, rfl, M.grow, rfl⟩
  · have hff : ([a, b].all fewB) = true := by revert ht28; generalize ([a, b].all fewB) = q; cases q <;> simp
    obtain ⟨hfa, hfb⟩ := few2_all hff
    have hbr : ([x, z].all (fun s => !decide (20 < (s.size : Int)))) = true := by revert ht28; generalize ([x, z].all (fun s => !decide (20 < (s.size : Int)))) = q; cases q <;> simp
    obtain ⟨hsx, hsz⟩ := brief2 hbr
    refine wc_skip ?_
    refine wc_seq ?_
    refine wc_region ?_
    refine wl_m M (q_ldbA 1 Tryd.underlying25 rfl sz25 rfl rfl rfl rfl) rfl rfl ?_
    refine wl_m M (q_ldbA 0 Tryd.underlying25 rfl sz25 rfl rfl rfl rfl) rfl rfl ?_
    refine wl_e (e_callC M (compose_c a b (few_big hfa hfb) M.imm ⟨fu1, au1, rfl, Rf1, Ra1⟩ ⟨fu2, au2, rfl, Rf2, Ra2⟩) Tryd.func12 rfl rfl) rfl rfl ?_
    rintro _ w10 ⟨J33, hJ33, ⟨_, t33, e33, rfl, ⟨fu33, au33, rfl, Rf33, Ra33⟩, hc33⟩, M⟩
    replace hc33 : (t33, e33) = CompS a b := cmp_S hc33
    have hoJ33 := M.old
    refine wl_m M (q_move rfl) rfl rfl ?_
    refine wl_m M (q_ext rfl rfl) rfl rfl ?_
    refine wl_m M (q_ext rfl rfl) rfl rfl ?_
    refine wl_e (e_alloc M z25) rfl rfl ?_
    rintro _ w11 ⟨b9, rfl, M⟩
    refine wl_e0 (e_stW 0 M rfl rfl rfl sz25 rfl rfl) rfl ?_
    intro _ w12 M
    simp only [List.set_cons_zero, List.set_cons_succ] at M
    refine wl_m M (q_assign rfl) rfl rfl ?_
    refine wl_nil ?_
    refine wc_seq ?_
    refine wc_region ?_
    refine wl_m M (q_ldbA 2 Tryd.underlying25 rfl sz25 rfl rfl rfl rfl) rfl rfl ?_
    refine wl_m M (q_ldbA 1 Tryd.underlying25 rfl sz25 rfl rfl rfl rfl) rfl rfl ?_
    refine wl_m M (q_move rfl) rfl rfl ?_
    refine wl_m M (q_move rfl) rfl rfl ?_
    refine wl_e (e_callC M (through_c a b x z (by omega) (by omega) M.imm (hT.mono hJ33) ⟨fu1, au1, rfl, (Rf1.mono hJ33), (Ra1.mono hJ33)⟩ ⟨fu2, au2, rfl, (Rf2.mono hJ33), (Ra2.mono hJ33)⟩) Tryd.func16 rfl rfl) rfl rfl ?_
    rintro _ w13 ⟨J41, hJ41, rfl, M⟩
    replace M := M.less hJ41 hoJ33
    refine wl_m M (q_move rfl) rfl rfl ?_
    refine wl_m M (q_ext rfl rfl) rfl rfl ?_
    refine wl_m M (q_ext rfl rfl) rfl rfl ?_
    refine wl_m M (q_assign rfl) rfl rfl ?_
    refine wl_m M (q_assign rfl) rfl rfl ?_
    refine wl_nil ?_
    refine wc_seq ?_
    refine wc_seq ?_
    refine wc_join (α := Unit) [44, 45, 46, 47, 48, 49] (fun _ => [(49, .bool ((!decide (e33 = 0)) || (!decide (((thrS a b x z).2) = 0))))]) (fun _ w' => Mem w I J33 (box b9 25 [.int .i64 t33.states, .int .i64 t33.start, sv fu33, sv au33] :: box b5 25 [.int .i64 b.states, .int .i64 b.start, sv fu2, sv au2] :: box b4 25 [.int .i64 a.states, .int .i64 a.start, sv fu1, sv au1] :: []) w') ?_ ?_
    · refine wc_region ?_
      refine wl_m M (q_move rfl) rfl rfl ?_
      refine wl_m M (q_neq rfl rfl) rfl rfl ?_
      refine wl_m M (q_move rfl) rfl rfl ?_
      rcases Bool.eq_false_or_eq_true (!decide (e33 = 0)) with hg46 | hg46
      · refine wl_m M (q_off 2 rfl rfl rfl hg46) rfl rfl ?_
        refine wl_m M (q_off 2 rfl rfl rfl hg46) rfl rfl ?_
        refine wl_m M (q_pickT rfl hg46 rfl) rfl rfl ?_
        refine wl_nil ?_
        exact ⟨(), M, ⟨(show some (Value.bool true) = some (Value.bool ((!decide (e33 = 0)) || (!decide (((thrS a b x z).2) = 0)))) from by first | (simp only [hg46, Bool.true_or, Bool.false_or, Bool.true_and, Bool.false_and, Bool.or_true, Bool.or_false, Bool.and_true, Bool.and_false]; done) | simp_all), trivial⟩, unw_take 6 rfl rfl⟩
      · refine wl_m M (q_guard 2 rfl rfl rfl hg46 (q_move rfl)) rfl rfl ?_
        refine wl_m M (q_guard 2 rfl rfl rfl hg46 (q_neq rfl rfl)) rfl rfl ?_
        refine wl_m M (q_pickF rfl hg46 rfl) rfl rfl ?_
        refine wl_nil ?_
        exact ⟨(), M, ⟨(show some (Value.bool (!decide (((thrS a b x z).2) = 0))) = some (Value.bool ((!decide (e33 = 0)) || (!decide (((thrS a b x z).2) = 0)))) from by first | (simp only [hg46, Bool.true_or, Bool.false_or, Bool.true_and, Bool.false_and, Bool.or_true, Bool.or_false, Bool.and_true, Bool.and_false]; done) | simp_all), trivial⟩, unw_take 6 rfl rfl⟩
    rintro _ jr5 w14 M
    refine wc_cond rfl (fun ht49 => ?_) (fun ht49 => ?_)
    · have her : ¬ e33 = 0 ∨ ¬ (thrS a b x z).2 = 0 := by simpa using ht49
      refine wc_seq ?_
      refine wc_region ?_
      refine wl_m M (q_move rfl) rfl rfl ?_
      refine wl_m M (q_not rfl) rfl rfl ?_
      refine wl_m M (q_assign rfl) rfl rfl ?_
      refine wl_nil ?_
      refine wc_ret ?_
      exact out1 rfl rfl ⟨_, _, rfl, M.grow, by rw [relates_err hfa hfb hc33 her]; rfl⟩
    · obtain ⟨he0, hf0⟩ : e33 = 0 ∧ (thrS a b x z).2 = 0 := by simpa using ht49
      refine wc_skip ?_
      refine wc_seq ?_
      refine wc_region ?_
      refine wl_m M (q_ldbA 0 Tryd.underlying25 rfl sz25 rfl rfl rfl rfl) rfl rfl ?_
      refine wl_m M (q_move rfl) rfl rfl ?_
      refine wl_m M (q_move rfl) rfl rfl ?_
      refine wl_e (e_callC M (relates_c t33 x z (by omega) (by omega) (Nat.le_trans (Nat.mul_le_mul (show x.size + 1 ≤ 21 by omega) (show z.size + 1 ≤ 21 by omega)) (by decide)) M.imm ⟨_, _, rfl, Rf33, Ra33⟩) Tryd.func20 rfl rfl) rfl rfl ?_
      rintro _ w15 ⟨J55, hJ55, rfl, M⟩
      replace M := M.less hJ55 hoJ33
      refine wl_m M (q_move rfl) rfl rfl ?_
      refine wl_m M (q_eqlB Tryd.underlying4 rfl rfl) rfl rfl ?_
      refine wl_m M (q_assign rfl) rfl rfl ?_
      refine wl_nil ?_
      refine wc_ret ?_
      exact out1 rfl rfl ⟨_, _, rfl, M.grow, by rw [relates_law hfa hfb hc33 he0 hf0]; simp⟩
end Go.Proofs.YtmjieefhjmiagaaDoor.G
