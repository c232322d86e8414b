/- Walks of the program's functions. -/
import Derived.Test.YtmjieefhjmiagaaDoorWVd
import Derived.Test.YtmjieefhjmiagaaDoorWL0
import Derived.Test.YtmjieefhjmiagaaDoorWX
set_option linter.all false
namespace Go.Proofs.YtmjieefhjmiagaaDoor.G
open Go Go.RowKit
theorem lawInverts_c (a b : Tra) (x z : ByteArray) {v1 v2 : Value} {I : Heap} {w : World} (hI : hle I (hp w)) (hT : Tabs I) (R1 : a.rd I v1) (R2 : b.rd I v2) : Calls A 9 #[v1, v2, .string x, .string z] w (Ret w I fun r _ => r = .bool true) := by
  obtain ⟨fu1, au1, rfl, Rf1, Ra1⟩ := R1
  obtain ⟨fu2, au2, rfl, Rf2, Ra2⟩ := R2
  have M := Mem.start hI
  refine enter Tryd.func9 rfl 80 Tryd.ntmps9 [_, _, _, _] rfl ?_
  refine wc_seq ?_
  refine wc_region ?_
  refine wl_e (e_box M rfl) rfl rfl ?_
  rintro _ w1 ⟨b4, rfl, M⟩
  refine wl_e (e_box M rfl) rfl rfl ?_
  rintro _ w2 ⟨b5, rfl, M⟩
  refine wl_m M (q_assign rfl) rfl rfl ?_
  refine wl_nil ?_
  refine wc_seq ?_
  refine wc_seq ?_
  refine wc_join (α := Unit) [17, 18, 19, 20, 21, 22, 23, 24, 25, 26, 27, 28, 29, 30, 31, 32] (fun _ => [(32, .bool (((!true) || (!([a, b].all fewB))) || (!([x, z].all (fun s => !decide (20 < (s.size : Int))) && decide ((([x, z] : List ByteArray).length : Int) ≤ 6)))))]) (fun _ w' => Mem w I I (box b5 25 [.int .i64 b.states, .int .i64 b.start, sv fu2, sv au2] :: box b4 25 [.int .i64 a.states, .int .i64 a.start, sv fu1, sv au1] :: []) w') ?_ ?_
  · refine wc_region ?_
    refine wl_e (e_callC M (awake_c M.imm hT) Tryd.func10 rfl rfl) rfl rfl ?_
    rintro _ w3 ⟨J17, hJ17, rfl, M⟩
    replace M := M.less hJ17 (fun _ _ => rfl)
    refine wl_m M (q_not rfl) rfl rfl ?_
    refine wl_m M (q_move rfl) rfl rfl ?_
    rcases Bool.eq_false_or_eq_true (!true) with hg19 | hg19
    · refine wl_m M (q_off 2 rfl rfl rfl hg19) rfl rfl ?_
      refine wl_m M (q_off 2 rfl rfl rfl hg19) rfl rfl ?_
      refine wl_m M (q_off 2 rfl rfl rfl hg19) rfl rfl ?_
      refine wl_m M (q_off 2 rfl rfl rfl hg19) rfl rfl ?_
      refine wl_m M (q_off 2 rfl rfl rfl hg19) rfl rfl ?_
      refine wl_m M (q_pickT rfl hg19 rfl) rfl rfl ?_
      refine wl_m M (q_move rfl) rfl rfl ?_
      refine wl_m M (q_off 9 rfl rfl rfl rfl) rfl rfl ?_
      refine wl_m M (q_off 9 rfl rfl rfl rfl) rfl rfl ?_
      refine wl_m M (q_off 9 rfl rfl rfl rfl) rfl rfl ?_
      refine wl_m M (q_off 9 rfl rfl rfl rfl) rfl rfl ?_
      refine wl_m M (q_off 9 rfl rfl rfl rfl) rfl rfl ?_
      refine wl_m M (q_pickT rfl rfl rfl) rfl rfl ?_
      refine wl_nil ?_
      exact ⟨(), M, ⟨(show some (Value.bool true) = some (Value.bool (((!true) || (!([a, b].all fewB))) || (!([x, z].all (fun s => !decide (20 < (s.size : Int))) && decide ((([x, z] : List ByteArray).length : Int) ≤ 6))))) from by first | (simp only [hg19, Bool.true_or, Bool.false_or, Bool.true_and, Bool.false_and, Bool.or_true, Bool.or_false, Bool.and_true, Bool.and_false]; done) | simp_all), trivial⟩, unw_take 16 rfl rfl⟩
    · refine wl_m M (q_guard 2 rfl rfl rfl hg19 (q_ldbA 1 Tryd.underlying25 rfl sz25 rfl rfl rfl rfl)) rfl rfl ?_
      refine wl_m M (q_guard 2 rfl rfl rfl hg19 (q_ldbA 0 Tryd.underlying25 rfl sz25 rfl rfl rfl rfl)) rfl rfl ?_
      refine wl_e (e_guard 2 rfl rfl rfl hg19 (e_bsI (E := ETra) (xs := [(RTra.mk a.states a.start fu1 au1), (RTra.mk b.states b.start fu2 au2)]) M (bs_37_2 _ _ _ _ _ _ _ _) ⟨⟨rfl, rfl⟩, ⟨rfl, rfl⟩, trivial⟩ rfl rfl (by decide))) rfl rfl ?_
      rintro _ w4 ⟨u22, J22, rfl, hJ22, R22, M⟩
      have hoJ22 := M.old
      refine wl_e (e_guard 2 rfl rfl rfl hg19 (e_callC M (few_c M.imm (rdTras2 R22 (Rf1.mono hJ22) (Ra1.mono hJ22) (Rf2.mono hJ22) (Ra2.mono hJ22))) Tryd.func11 rfl rfl)) rfl rfl ?_
      rintro _ w5 ⟨J23, hJ23, rfl, M⟩
      replace M := M.less hJ23 hoJ22
      refine wl_m M (q_guard 2 rfl rfl rfl hg19 (q_not rfl)) rfl rfl ?_
      refine wl_m M (q_pickF rfl hg19 rfl) rfl rfl ?_
      refine wl_m M (q_move rfl) rfl rfl ?_
      rcases Bool.eq_false_or_eq_true (!([a, b].all fewB)) with hg26 | hg26
      · refine wl_m M (q_off 9 rfl rfl rfl hg26) rfl rfl ?_
        refine wl_m M (q_off 9 rfl rfl rfl hg26) rfl rfl ?_
        refine wl_m M (q_off 9 rfl rfl rfl hg26) rfl rfl ?_
        refine wl_m M (q_off 9 rfl rfl rfl hg26) rfl rfl ?_
        refine wl_m M (q_off 9 rfl rfl rfl hg26) rfl rfl ?_
        refine wl_m M (q_pickT rfl hg26 rfl) rfl rfl ?_
        refine wl_nil ?_
        replace M := M.less hJ22 (fun _ _ => rfl)
        exact ⟨(), M, ⟨(show some (Value.bool true) = some (Value.bool (((!true) || (!([a, b].all fewB))) || (!([x, z].all (fun s => !decide (20 < (s.size : Int))) && decide ((([x, z] : List ByteArray).length : Int) ≤ 6))))) from by first | (simp only [hg19, hg26, Bool.true_or, Bool.false_or, Bool.true_and, Bool.false_and, Bool.or_true, Bool.or_false, Bool.and_true, Bool.and_false]; done) | simp_all), trivial⟩, unw_take 16 rfl rfl⟩
      · refine wl_m M (q_guard 9 rfl rfl rfl hg26 (q_move rfl)) rfl rfl ?_
        refine wl_m M (q_guard 9 rfl rfl rfl hg26 (q_move rfl)) rfl rfl ?_
        refine wl_e (e_guard 9 rfl rfl rfl hg26 (e_bsI (E := EStr) (xs := [x, z]) M (bs_42_2 _ _) ⟨⟨rfl, rfl⟩, ⟨rfl, rfl⟩, trivial⟩ rfl rfl (by decide))) rfl rfl ?_
        rintro _ w6 ⟨u29, J29, rfl, hJ29, R29, M⟩
        have hoJ29 := M.old
        refine wl_e (e_guard 9 rfl rfl rfl hg26 (e_callC M (brief_c M.imm R29) Tryd.func15 rfl rfl)) rfl rfl ?_
        rintro _ w7 ⟨J30, hJ30, rfl, M⟩
        replace M := M.less hJ30 hoJ29
        refine wl_m M (q_guard 9 rfl rfl rfl hg26 (q_not rfl)) rfl rfl ?_
        refine wl_m M (q_pickF rfl hg26 rfl) rfl rfl ?_
        refine wl_nil ?_
        replace M := M.less (hle.trans hJ22 hJ29) (fun _ _ => rfl)
        exact ⟨(), M, ⟨(show some (Value.bool (!([x, z].all (fun s => !decide (20 < (s.size : Int))) && decide ((([x, z] : List ByteArray).length : Int) ≤ 6)))) = some (Value.bool (((!true) || (!([a, b].all fewB))) || (!([x, z].all (fun s => !decide (20 < (s.size : Int))) && decide ((([x, z] : List ByteArray).length : Int) ≤ 6))))) from by first | (simp only [hg19, hg26, Bool.true_or, Bool.false_or, Bool.true_and, Bool.false_and, Bool.or_true, Bool.or_false, Bool.and_true, Bool.and_false]; done) | simp_all), trivial⟩, unw_take 16 rfl rfl⟩
  rintro _ jr1 w8 M
  refine wc_cond rfl (fun ht32 => ?_) (fun ht32 => ?_)
  · refine wc_seq ?_
    refine wc_region ?_
    refine wl_e (e_callC M (awake_c M.imm hT) Tryd.func10 rfl rfl) rfl rfl ?_
    rintro _ w9 ⟨J33, hJ33, rfl, M⟩
    replace M := M.less hJ33 (fun _ _ => rfl)
    refine wl_m M (q_assign rfl) rfl rfl ?_
    refine wl_nil ?_
    refine wc_ret ?_
    exact out1 rfl rfl ⟨_, _, rfl, M.grow, rfl⟩
  · have hff : ([a, b].all fewB) = true := by revert ht32; generalize ([a, b].all fewB) = q; cases q <;> simp
    obtain ⟨hfa, hfb⟩ := few2_all hff
    have hbr : ([x, z].all (fun s => !decide (20 < (s.size : Int)))) = true := by revert ht32; generalize ([x, z].all (fun s => !decide (20 < (s.size : Int)))) = q; cases q <;> simp
    obtain ⟨hsx, hsz⟩ := brief2 hbr
    refine wc_skip ?_
    refine wc_seq ?_
    refine wc_region ?_
    refine wl_m M (q_ldbA 1 Tryd.underlying25 rfl sz25 rfl rfl rfl rfl) rfl rfl ?_
    refine wl_e (e_callC M (invert_c a M.imm ⟨fu1, au1, rfl, Rf1, Ra1⟩) Tryd.func23 rfl rfl) rfl rfl ?_
    rintro _ w10 ⟨J36, hJ36, ⟨_, t36, e36, rfl, ⟨fu36, au36, rfl, Rf36, Ra36⟩, hc36⟩, M⟩
    have hoJ36 := M.old
    refine wl_m M (q_move rfl) rfl rfl ?_
    refine wl_m M (q_ext rfl rfl) rfl rfl ?_
    refine wl_m M (q_ext rfl rfl) rfl rfl ?_
    refine wl_e (e_alloc M z25) rfl rfl ?_
    rintro _ w11 ⟨b9, rfl, M⟩
    refine wl_e0 (e_stW 0 M rfl rfl rfl sz25 rfl rfl) rfl ?_
    intro _ w12 M
    simp only [List.set_cons_zero, List.set_cons_succ] at M
    refine wl_m M (q_assign rfl) rfl rfl ?_
    refine wl_nil ?_
    refine wc_seq ?_
    refine wc_region ?_
    refine wl_m M (q_ldbA 1 Tryd.underlying25 rfl sz25 rfl rfl rfl rfl) rfl rfl ?_
    refine wl_e (e_callC M (invert_c b M.imm ⟨fu2, au2, rfl, (Rf2.mono hJ36), (Ra2.mono hJ36)⟩) Tryd.func23 rfl rfl) rfl rfl ?_
    rintro _ w13 ⟨J41, hJ41, ⟨_, t41, e41, rfl, ⟨fu41, au41, rfl, Rf41, Ra41⟩, hc41⟩, M⟩
    have hoJ41 := M.old
    refine wl_m M (q_move rfl) rfl rfl ?_
    refine wl_m M (q_ext rfl rfl) rfl rfl ?_
    refine wl_m M (q_ext rfl rfl) rfl rfl ?_
    refine wl_e (e_alloc M z25) rfl rfl ?_
    rintro _ w14 ⟨b11, rfl, M⟩
    refine wl_e0 (e_stW 0 M rfl rfl rfl sz25 rfl rfl) rfl ?_
    intro _ w15 M
    simp only [List.set_cons_zero, List.set_cons_succ] at M
    refine wl_m M (q_assign rfl) rfl rfl ?_
    refine wl_nil ?_
    refine wc_seq ?_
    refine wc_seq ?_
    refine wc_join (α := Unit) [44, 45, 46, 47, 48, 49] (fun _ => [(49, .bool ((!decide (e36 = 0)) || (!decide (e41 = 0))))]) (fun _ w' => Mem w I J41 (box b11 25 [.int .i64 t41.states, .int .i64 t41.start, sv fu41, sv au41] :: box b9 25 [.int .i64 t36.states, .int .i64 t36.start, sv fu36, sv au36] :: box b5 25 [.int .i64 b.states, .int .i64 b.start, sv fu2, sv au2] :: box b4 25 [.int .i64 a.states, .int .i64 a.start, sv fu1, sv au1] :: []) w') ?_ ?_
    · refine wc_region ?_
      refine wl_m M (q_move rfl) rfl rfl ?_
      refine wl_m M (q_neq rfl rfl) rfl rfl ?_
      refine wl_m M (q_move rfl) rfl rfl ?_
      rcases Bool.eq_false_or_eq_true (!decide (e36 = 0)) with hg46 | hg46
      · refine wl_m M (q_off 2 rfl rfl rfl hg46) rfl rfl ?_
        refine wl_m M (q_off 2 rfl rfl rfl hg46) rfl rfl ?_
        refine wl_m M (q_pickT rfl hg46 rfl) rfl rfl ?_
        refine wl_nil ?_
        exact ⟨(), M, ⟨(show some (Value.bool true) = some (Value.bool ((!decide (e36 = 0)) || (!decide (e41 = 0)))) from by first | (simp only [hg46, Bool.true_or, Bool.false_or, Bool.true_and, Bool.false_and, Bool.or_true, Bool.or_false, Bool.and_true, Bool.and_false]; done) | simp_all), trivial⟩, unw_take 6 rfl rfl⟩
      · refine wl_m M (q_guard 2 rfl rfl rfl hg46 (q_move rfl)) rfl rfl ?_
        refine wl_m M (q_guard 2 rfl rfl rfl hg46 (q_neq rfl rfl)) rfl rfl ?_
        refine wl_m M (q_pickF rfl hg46 rfl) rfl rfl ?_
        refine wl_nil ?_
        exact ⟨(), M, ⟨(show some (Value.bool (!decide (e41 = 0))) = some (Value.bool ((!decide (e36 = 0)) || (!decide (e41 = 0)))) from by first | (simp only [hg46, Bool.true_or, Bool.false_or, Bool.true_and, Bool.false_and, Bool.or_true, Bool.or_false, Bool.and_true, Bool.and_false]; done) | simp_all), trivial⟩, unw_take 6 rfl rfl⟩
    rintro _ jr5 w16 M
    refine wc_cond rfl (fun ht49 => ?_) (fun ht49 => ?_)
    · refine wc_seq ?_
      refine wc_join (α := Unit) [8, 50, 51, 52, 53, 54, 55] (fun _ => [(8, .bool ((decide (e36 = 1)) || (decide (e41 = 1))))]) (fun _ w' => Mem w I J41 (box b11 25 [.int .i64 t41.states, .int .i64 t41.start, sv fu41, sv au41] :: box b9 25 [.int .i64 t36.states, .int .i64 t36.start, sv fu36, sv au36] :: box b5 25 [.int .i64 b.states, .int .i64 b.start, sv fu2, sv au2] :: box b4 25 [.int .i64 a.states, .int .i64 a.start, sv fu1, sv au1] :: []) w') ?_ ?_
      · refine wc_region ?_
        refine wl_m M (q_move rfl) rfl rfl ?_
        refine wl_m M (q_eql rfl rfl) rfl rfl ?_
        refine wl_m M (q_move rfl) rfl rfl ?_
        rcases Bool.eq_false_or_eq_true (decide (e36 = 1)) with hg52 | hg52
        · refine wl_m M (q_off 2 rfl rfl rfl hg52) rfl rfl ?_
          refine wl_m M (q_off 2 rfl rfl rfl hg52) rfl rfl ?_
          refine wl_m M (q_pickT rfl hg52 rfl) rfl rfl ?_
          refine wl_m M (q_assign rfl) rfl rfl ?_
          refine wl_nil ?_
          exact ⟨(), M, ⟨(show some (Value.bool true) = some (Value.bool ((decide (e36 = 1)) || (decide (e41 = 1)))) from by first | (simp only [hg52, Bool.true_or, Bool.false_or, Bool.true_and, Bool.false_and, Bool.or_true, Bool.or_false, Bool.and_true, Bool.and_false]; done) | simp_all), trivial⟩, unw_take 7 rfl rfl⟩
        · refine wl_m M (q_guard 2 rfl rfl rfl hg52 (q_move rfl)) rfl rfl ?_
          refine wl_m M (q_guard 2 rfl rfl rfl hg52 (q_eql rfl rfl)) rfl rfl ?_
          refine wl_m M (q_pickF rfl hg52 rfl) rfl rfl ?_
          refine wl_m M (q_assign rfl) rfl rfl ?_
          refine wl_nil ?_
          exact ⟨(), M, ⟨(show some (Value.bool (decide (e41 = 1))) = some (Value.bool ((decide (e36 = 1)) || (decide (e41 = 1)))) from by first | (simp only [hg52, Bool.true_or, Bool.false_or, Bool.true_and, Bool.false_and, Bool.or_true, Bool.or_false, Bool.and_true, Bool.and_false]; done) | simp_all), trivial⟩, unw_take 7 rfl rfl⟩
      rintro _ jr6 w17 M
      refine wc_ret ?_
      exact out1 rfl rfl ⟨_, _, rfl, M.grow, by rw [inverts_err hc36 hc41 ht49]⟩
    · obtain ⟨he36, he41⟩ : e36 = 0 ∧ e41 = 0 := by simpa using ht49
      refine wc_skip ?_
      refine wc_seq ?_
      refine wc_region ?_
      refine wl_m M (q_ldbA 3 Tryd.underlying25 rfl sz25 rfl rfl rfl rfl) rfl rfl ?_
      refine wl_m M (q_ldbA 2 Tryd.underlying25 rfl sz25 rfl rfl rfl rfl) rfl rfl ?_
      refine wl_m M (q_move rfl) rfl rfl ?_
      refine wl_m M (q_move rfl) rfl rfl ?_
      refine wl_e (e_callC M (through_c a b x z (by omega) (by omega) M.imm ((hT.mono hJ36).mono hJ41) ⟨fu1, au1, rfl, ((Rf1.mono hJ36).mono hJ41), ((Ra1.mono hJ36).mono hJ41)⟩ ⟨fu2, au2, rfl, ((Rf2.mono hJ36).mono hJ41), ((Ra2.mono hJ36).mono hJ41)⟩) Tryd.func16 rfl rfl) rfl rfl ?_
      rintro _ w18 ⟨J61, hJ61, rfl, M⟩
      replace M := M.less hJ61 hoJ41
      refine wl_m M (q_move rfl) rfl rfl ?_
      refine wl_m M (q_ext rfl rfl) rfl rfl ?_
      refine wl_m M (q_ext rfl rfl) rfl rfl ?_
      refine wl_m M (q_assign rfl) rfl rfl ?_
      refine wl_m M (q_assign rfl) rfl rfl ?_
      refine wl_nil ?_
      refine wc_seq ?_
      refine wc_region ?_
      refine wl_m M (q_ldbA 0 Tryd.underlying25 rfl sz25 rfl rfl rfl rfl) rfl rfl ?_
      refine wl_m M (q_ldbA 1 Tryd.underlying25 rfl sz25 rfl rfl rfl rfl) rfl rfl ?_
      refine wl_m M (q_move rfl) rfl rfl ?_
      refine wl_m M (q_move rfl) rfl rfl ?_
      refine wl_e (e_callC M (through_c t41 t36 z x (by omega) (by omega) M.imm ((hT.mono hJ36).mono hJ41) ⟨_, _, rfl, Rf41, Ra41⟩ ⟨_, _, rfl, (Rf36.mono hJ41), (Ra36.mono hJ41)⟩) Tryd.func16 rfl rfl) rfl rfl ?_
      rintro _ w19 ⟨J69, hJ69, rfl, M⟩
      replace M := M.less hJ69 hoJ41
      refine wl_m M (q_move rfl) rfl rfl ?_
      refine wl_m M (q_ext rfl rfl) rfl rfl ?_
      refine wl_m M (q_ext rfl rfl) rfl rfl ?_
      refine wl_m M (q_assign rfl) rfl rfl ?_
      refine wl_m M (q_assign rfl) rfl rfl ?_
      refine wl_nil ?_
      refine wc_seq ?_
      refine wc_join (α := Unit) [8, 72, 73, 74, 75, 76, 77, 78, 79] (fun _ => [(8, .bool ((((thrS a b x z).1) == ((thrS t41 t36 z x).1)) && (decide (((thrS a b x z).2) = ((thrS t41 t36 z x).2)))))]) (fun _ w' => Mem w I J41 (box b11 25 [.int .i64 t41.states, .int .i64 t41.start, sv fu41, sv au41] :: box b9 25 [.int .i64 t36.states, .int .i64 t36.start, sv fu36, sv au36] :: box b5 25 [.int .i64 b.states, .int .i64 b.start, sv fu2, sv au2] :: box b4 25 [.int .i64 a.states, .int .i64 a.start, sv fu1, sv au1] :: []) w') ?_ ?_
      · refine wc_region ?_
        refine wl_m M (q_move rfl) rfl rfl ?_
        refine wl_m M (q_move rfl) rfl rfl ?_
        refine wl_m M (q_eqlB Tryd.underlying4 rfl rfl) rfl rfl ?_
        refine wl_m M (q_move rfl) rfl rfl ?_
        rcases Bool.eq_false_or_eq_true (((thrS a b x z).1) == ((thrS t41 t36 z x).1)) with hg75 | hg75
        · refine wl_m M (q_guard 3 rfl rfl rfl hg75 (q_move rfl)) rfl rfl ?_
          refine wl_m M (q_guard 3 rfl rfl rfl hg75 (q_move rfl)) rfl rfl ?_
          refine wl_m M (q_guard 3 rfl rfl rfl hg75 (q_eql rfl rfl)) rfl rfl ?_
          refine wl_m M (q_pickT rfl hg75 rfl) rfl rfl ?_
          refine wl_m M (q_assign rfl) rfl rfl ?_
          refine wl_nil ?_
          exact ⟨(), M, ⟨(show some (Value.bool (decide (((thrS a b x z).2) = ((thrS t41 t36 z x).2)))) = some (Value.bool ((((thrS a b x z).1) == ((thrS t41 t36 z x).1)) && (decide (((thrS a b x z).2) = ((thrS t41 t36 z x).2))))) from by first | (simp only [hg75, Bool.true_or, Bool.false_or, Bool.true_and, Bool.false_and, Bool.or_true, Bool.or_false, Bool.and_true, Bool.and_false]; done) | simp_all), trivial⟩, unw_take 9 rfl rfl⟩
        · refine wl_m M (q_off 3 rfl rfl rfl hg75) rfl rfl ?_
          refine wl_m M (q_off 3 rfl rfl rfl hg75) rfl rfl ?_
          refine wl_m M (q_off 3 rfl rfl rfl hg75) rfl rfl ?_
          refine wl_m M (q_pickF rfl hg75 rfl) rfl rfl ?_
          refine wl_m M (q_assign rfl) rfl rfl ?_
          refine wl_nil ?_
          exact ⟨(), M, ⟨(show some (Value.bool false) = some (Value.bool ((((thrS a b x z).1) == ((thrS t41 t36 z x).1)) && (decide (((thrS a b x z).2) = ((thrS t41 t36 z x).2))))) from by first | (simp only [hg75, Bool.true_or, Bool.false_or, Bool.true_and, Bool.false_and, Bool.or_true, Bool.or_false, Bool.and_true, Bool.and_false]; done) | simp_all), trivial⟩, unw_take 9 rfl rfl⟩
      rintro _ jr9 w20 M
      refine wc_ret ?_
      exact out1 rfl rfl ⟨_, _, rfl, M.grow, by rw [inverts_law hc36 hc41 he36 he41]; simp⟩
end Go.Proofs.YtmjieefhjmiagaaDoor.G
