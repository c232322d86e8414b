/- Walks of the program's functions. -/
import Derived.Test.YtfepjcmjkaolgaaWSj
import Derived.Test.YtfepjcmjkaolgaaWRe
set_option linter.all false
namespace Go.Proofs.Ytfepjcmjkaolgaa.G
open Go Go.RowKit
set_option maxRecDepth 4000 in
set_option maxHeartbeats 1000000 in
theorem lawStep_c (t : Tra) (ss : List Int) (r : Int) {v1 : Value} {us : SV} {I : Heap} {w : World} (hI : hle I (hp w)) (R1 : t.rd I v1) (R0 : rdSl EInt I (sv us) ss) : Calls A 8 #[v1, sv us, .int .i32 r] w (Ret w I fun r _ => r = .bool true) := by
 obtain ⟨fu1, au1, rfl, Rf1, Ra1⟩ := R1
 have M := Mem.start hI
 refine enter Try.func8 rfl 41 Try.ntmps8 [_, _, _] rfl ?_
 refine wc_seq ?_
 refine wc_region ?_
 refine wl_e (e_box M rfl) rfl rfl ?_
 rintro _ w1 ⟨b3, rfl, M⟩
 refine wl_as M rfl rfl ?_
 refine wl_nil ?_
 refine wc_seq ?_
 refine wc_seq ?_
 refine wc_join (α := Unit) [7, 8, 9, 10, 11, 12, 13, 14, 15, 16, 17, 18, 19, 20] (fun _ => [(20, .bool (((decide (12 < t.states)) || (decide (60 < (t.arcs.length : Int)))) || (decide (20 < (ss.length : Int)))))]) (fun _ w' => Mem w I I (box b3 25 [.int .i64 t.states, .int .i64 t.start, sv fu1, sv au1] :: []) w') ?_ ?_
 ·refine wc_region ?_
  refine wl_m M (q_fa fo_25_0 rfl) rfl rfl ?_
  refine wl_m M (q_ldb 0 Try.underlying3 rfl rfl rfl rfl) rfl rfl ?_
  refine wl_m M (q_gtr rfl rfl) rfl rfl ?_
  refine wl_mv M rfl rfl ?_
  rcases Bool.eq_false_or_eq_true (decide (12 < t.states)) with hg10 | hg10
  ·refine wl_m M (q_off 3 rfl rfl rfl hg10) rfl rfl ?_
   refine wl_m M (q_off 3 rfl rfl rfl hg10) rfl rfl ?_
   refine wl_m M (q_off 3 rfl rfl rfl hg10) rfl rfl ?_
   refine wl_m M (q_off 3 rfl rfl rfl hg10) rfl rfl ?_
   refine wl_m M (q_pickT rfl hg10 rfl) rfl rfl ?_
   refine wl_mv M rfl rfl ?_
   refine wl_m M (q_off 9 rfl rfl rfl rfl) rfl rfl ?_
   refine wl_m M (q_off 9 rfl rfl rfl rfl) rfl rfl ?_
   refine wl_m M (q_off 9 rfl rfl rfl rfl) rfl rfl ?_
   refine wl_m M (q_pickT rfl rfl rfl) rfl rfl ?_
   refine wl_nil ?_
   exact ⟨(), M, ⟨(show some (Value.bool true) = some (Value.bool (((decide (12 < t.states)) || (decide (60 < (t.arcs.length : Int)))) || (decide (20 < (ss.length : Int))))) from by first | (simp only [hg10, Bool.true_or, Bool.false_or, Bool.true_and, Bool.false_and, Bool.or_true, Bool.or_false, Bool.and_true, Bool.and_false]; done) | simp_all), trivial⟩, unw_take 14 rfl rfl⟩
  refine wl_m M (q_guard 3 rfl rfl rfl hg10 (q_fa fo_25_3 rfl)) rfl rfl ?_
  refine wl_m M (q_guard 3 rfl rfl rfl hg10 (q_ldb 0 Try.underlying23 rfl rfl rfl rfl)) rfl rfl ?_
  refine wl_m M (q_guard 3 rfl rfl rfl hg10 (q_lenR Ra1 Try.underlying23 rfl)) rfl rfl ?_
  refine wl_m M (q_guard 3 rfl rfl rfl hg10 (q_gtr rfl rfl)) rfl rfl ?_
  refine wl_m M (q_pickF rfl hg10 rfl) rfl rfl ?_
  refine wl_mv M rfl rfl ?_
  rcases Bool.eq_false_or_eq_true (decide (60 < (t.arcs.length : Int))) with hg16 | hg16
  ·refine wl_m M (q_off 9 rfl rfl rfl hg16) rfl rfl ?_
   refine wl_m M (q_off 9 rfl rfl rfl hg16) rfl rfl ?_
   refine wl_m M (q_off 9 rfl rfl rfl hg16) rfl rfl ?_
   refine wl_m M (q_pickT rfl hg16 rfl) rfl rfl ?_
   refine wl_nil ?_
   exact ⟨(), M, ⟨(show some (Value.bool true) = some (Value.bool (((decide (12 < t.states)) || (decide (60 < (t.arcs.length : Int)))) || (decide (20 < (ss.length : Int))))) from by first | (simp only [hg10, hg16, Bool.true_or, Bool.false_or, Bool.true_and, Bool.false_and, Bool.or_true, Bool.or_false, Bool.and_true, Bool.and_false]; done) | simp_all), trivial⟩, unw_take 14 rfl rfl⟩
  refine wl_m M (q_guard 9 rfl rfl rfl hg16 (q_move rfl)) rfl rfl ?_
  refine wl_m M (q_guard 9 rfl rfl rfl hg16 (q_lenR R0 Try.underlying22 rfl)) rfl rfl ?_
  refine wl_m M (q_guard 9 rfl rfl rfl hg16 (q_gtr rfl rfl)) rfl rfl ?_
  refine wl_m M (q_pickF rfl hg16 rfl) rfl rfl ?_
  refine wl_nil ?_
  exact ⟨(), M, ⟨(show some (Value.bool (decide (20 < (ss.length : Int)))) = some (Value.bool (((decide (12 < t.states)) || (decide (60 < (t.arcs.length : Int)))) || (decide (20 < (ss.length : Int))))) from by first | (simp only [hg10, hg16, Bool.true_or, Bool.false_or, Bool.true_and, Bool.false_and, Bool.or_true, Bool.or_false, Bool.and_true, Bool.and_false]; done) | simp_all), trivial⟩, unw_take 14 rfl rfl⟩
 rintro _ jr1 w2 M
 refine wc_cond rfl (fun ht20 => ?_) (fun ht20 => ?_)
 ·refine wc_seq ?_
  refine wc_region ?_
  refine wl_e (e_callC M (awake3_c M.imm) Try.func12 rfl rfl) rfl rfl ?_
  rintro _ w3 ⟨J21, hJ21, rfl, M⟩
  replace M := M.less hJ21 (fun _ _ => rfl)
  refine wl_as M rfl rfl ?_
  refine wl_nil ?_
  refine wc_ret ?_
  exact out1 rfl rfl ⟨_, _, rfl, M.grow, rfl⟩
 simp only [Bool.or_eq_false_iff, decide_eq_false_iff_not] at ht20
 obtain ⟨⟨h1, h2⟩, h3⟩ := ht20
 refine wc_skip ?_
 refine wc_seq ?_
 refine wc_join (α := Heap) [6, 22, 23, 24, 25, 26, 27, 28, 29, 30, 31, 32, 33, 34, 35, 36, 37, 38, 39, 40] (fun ((I6) : Heap) => [(6, .bool true)]) (fun ((I6) : Heap) w' => hle I I6 ∧ Mem w I I6 (box b3 25 [.int .i64 t.states, .int .i64 t.start, sv fu1, sv au1] :: []) w') ?_ ?_
 ·refine wc_draws (fun w' => Mem w I I (box b3 25 [.int .i64 t.states, .int .i64 t.start, sv fu1, sv au1] :: []) w' ∧ True) [] fol ?_
  replace M := M.drew
  have hS := (⟨M, trivial⟩ : _ ∧ _)
  refine wa_e 0 rfl (by kernel_rfl) (e_callC M (awake3_c M.imm) Try.func12 rfl rfl) rfl rfl ?_
  rintro _ w4 ⟨J22, hJ22, rfl, M⟩
  have hS := (⟨(M.less hJ22 (fun _ _ => rfl)), trivial⟩ : _ ∧ _)
  refine ⟨fun _ => hS, ?_⟩
  replace M := M.less hJ22 (fun _ _ => rfl)
  refine wa_q 1 rfl (by kernel_rfl) (q_move rfl) hS rfl rfl ?_
  refine wa_q 2 rfl (by kernel_rfl) ((q_guard 1 rfl rfl rfl rfl (q_ldbA 0 Try.underlying25 rfl sz25 rfl rfl rfl rfl)).mono fun _ h => h.1) hS rfl rfl ?_
  refine wa_q 3 rfl (by kernel_rfl) (q_guard 1 rfl rfl rfl rfl (q_move rfl)) hS rfl rfl ?_
  refine wa_q 4 rfl (by kernel_rfl) (q_guard 1 rfl rfl rfl rfl (q_move rfl)) hS rfl rfl ?_
  refine wa_q 6 rfl (by kernel_rfl) ((q_guard 1 rfl rfl rfl rfl (q_ldbA 0 Try.underlying25 rfl sz25 rfl rfl rfl rfl)).mono fun _ h => h.1) hS rfl rfl ?_
  refine wa_q 7 rfl (by kernel_rfl) (q_guard 1 rfl rfl rfl rfl (q_move rfl)) hS rfl rfl ?_
  refine wa_q 8 rfl (by kernel_rfl) (q_guard 1 rfl rfl rfl rfl (q_move rfl)) hS rfl rfl ?_
  refine wa_e 5 rfl (by kernel_rfl) (e_guard 1 rfl rfl rfl rfl (e_callC M (stepT_c t ss r (by omega) M.imm ⟨_, _, rfl, Rf1, Ra1⟩ R0) Try.func20 rfl rfl)) rfl rfl ?_
  rintro v27 w5 ⟨J27, hJ27, ⟨o27, R27, hs27⟩, M⟩
  obtain ⟨u27, rfl⟩ := rdSl_slice R27
  have hoJ27 := M.old
  have hS := (⟨(M.less hJ27 (fun _ _ => rfl)), trivial⟩ : _ ∧ _)
  refine ⟨fun _ => hS, ?_⟩
  refine wa_e 9 rfl (by kernel_rfl) (e_guard 1 rfl rfl rfl rfl (e_callC M (step3_c t ss r (by omega) M.imm ⟨_, _, rfl, (Rf1.mono hJ27), (Ra1.mono hJ27)⟩ (R0.mono hJ27)) Try.func26 rfl rfl)) rfl rfl ?_
  rintro v31 w6 ⟨J31, hJ31, ⟨o31, R31, hs31⟩, M⟩
  obtain ⟨u31, rfl⟩ := rdSl_slice R31
  have hoJ31 := M.old
  have hS := (⟨(M.less (hle.trans hJ27 hJ31) (fun _ _ => rfl)), trivial⟩ : _ ∧ _)
  refine ⟨fun _ => hS, ?_⟩
  refine wa_e 10 rfl (by kernel_rfl) (e_guard 1 rfl rfl rfl rfl (e_callC M (bool_to (decide_eq_true (stepP_uniq hs27 hs31)) (ints_c M.imm (R27.mono hJ31) R31)) Try.func25 rfl rfl)) rfl rfl ?_
  rintro _ w7 ⟨J32, hJ32, rfl, M⟩
  have hS := (⟨(M.less (hle.trans (hle.trans hJ27 hJ31) hJ32) (fun _ _ => rfl)), trivial⟩ : _ ∧ _)
  refine ⟨fun _ => hS, ?_⟩
  replace M := M.less hJ32 hoJ31
  refine wa_q 11 rfl (by kernel_rfl) (q_pickT rfl rfl rfl) hS rfl rfl ?_
  refine wa_q 12 rfl (by kernel_rfl) (q_move rfl) hS rfl rfl ?_
  refine wa_q 13 rfl (by kernel_rfl) ((q_guard 12 rfl rfl rfl rfl (q_ldbA 0 Try.underlying25 rfl sz25 rfl rfl rfl rfl)).mono fun _ h => h.1) hS rfl rfl ?_
  refine wa_q 15 rfl (by kernel_rfl) ((q_guard 12 rfl rfl rfl rfl (q_ldbA 0 Try.underlying25 rfl sz25 rfl rfl rfl rfl)).mono fun _ h => h.1) hS rfl rfl ?_
  refine wa_e 14 rfl (by kernel_rfl) (e_guard 12 rfl rfl rfl rfl (e_callC M (sequentialT_c t M.imm ⟨_, _, rfl, ((Rf1.mono hJ27).mono hJ31), ((Ra1.mono hJ27).mono hJ31)⟩) Try.func16 rfl rfl)) rfl rfl ?_
  rintro _ w8 ⟨J36, hJ36, rfl, M⟩
  have hS := (⟨(M.less (hle.trans (hle.trans hJ27 hJ31) hJ36) (fun _ _ => rfl)), trivial⟩ : _ ∧ _)
  refine ⟨fun _ => hS, ?_⟩
  replace M := M.less hJ36 hoJ31
  refine wa_e 16 rfl (by kernel_rfl) (e_guard 12 rfl rfl rfl rfl (e_callC M (sequential3_c t M.imm ⟨_, _, rfl, ((Rf1.mono hJ27).mono hJ31), ((Ra1.mono hJ27).mono hJ31)⟩) Try.func27 rfl rfl)) rfl rfl ?_
  rintro _ w9 ⟨J38, hJ38, rfl, M⟩
  have hS := (⟨(M.less (hle.trans (hle.trans hJ27 hJ31) hJ38) (fun _ _ => rfl)), trivial⟩ : _ ∧ _)
  refine ⟨fun _ => hS, ?_⟩
  replace M := M.less hJ38 hoJ31
  refine wa_q 17 rfl (by kernel_rfl) (q_guard 12 rfl rfl rfl rfl (q_to (congrArg Value.bool (beq_self_eq_true _)) (q_eqlB Try.underlying4 rfl rfl))) hS rfl rfl ?_
  refine wa_q 18 rfl (by kernel_rfl) (q_pickT rfl rfl rfl) hS rfl rfl ?_
  refine wa_q 19 rfl (by kernel_rfl) (q_assign rfl) hS rfl rfl ?_
  refine wa_done (by kernel_rfl) ?_
  exact ⟨(J31), ⟨(hle.trans hJ27 hJ31), M⟩, ⟨rfl, trivial⟩, unw_take 20 rfl rfl⟩
 rintro I6 jr3 w10 ⟨hI6, M⟩
 have hoI6 := M.old
 refine wc_ret ?_
 exact out1 rfl rfl ⟨_, _, rfl, M.grow, rfl⟩
end Go.Proofs.Ytfepjcmjkaolgaa.G
