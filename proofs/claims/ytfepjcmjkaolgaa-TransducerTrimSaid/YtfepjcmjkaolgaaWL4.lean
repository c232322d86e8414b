/- Walks of the program's functions. -/
import Derived.Test.YtfepjcmjkaolgaaWSj
import Derived.Test.YtfepjcmjkaolgaaWRg
set_option linter.all false
namespace Go.Proofs.Ytfepjcmjkaolgaa.G
open Go Go.RowKit
set_option maxRecDepth 4000 in
set_option maxHeartbeats 1000000 in
theorem lawTrim_c (t : Tra) {v1 : Value} {I : Heap} {w : World} (hI : hle I (hp w)) (R1 : t.rd I v1) : Calls A 6 #[v1] w (Ret w I fun r _ => r = .bool true) := by
 obtain ⟨fu1, au1, rfl, Rf1, Ra1⟩ := R1
 have M := Mem.start hI
 refine enter Try.func6 rfl 21 Try.ntmps6 [_] rfl ?_
 refine wc_seq ?_
 refine wc_region ?_
 refine wl_e (e_box M rfl) rfl rfl ?_
 rintro _ w1 ⟨b1, rfl, M⟩
 refine wl_as M rfl rfl ?_
 refine wl_nil ?_
 refine wc_seq ?_
 refine wc_seq ?_
 refine wc_join (α := Unit) [3, 4, 5, 6, 7, 8, 9, 10, 11] (fun _ => [(11, .bool ((decide (12 < t.states)) || (decide (60 < (t.arcs.length : Int)))))]) (fun _ w' => Mem w I I (box b1 25 [.int .i64 t.states, .int .i64 t.start, sv fu1, sv au1] :: []) w') ?_ ?_
 ·refine wc_region ?_
  refine wl_m M (q_fa fo_25_0 rfl) rfl rfl ?_
  refine wl_m M (q_ldb 0 Try.underlying3 rfl rfl rfl rfl) rfl rfl ?_
  refine wl_m M (q_gtr rfl rfl) rfl rfl ?_
  refine wl_mv M rfl rfl ?_
  rcases Bool.eq_false_or_eq_true (decide (12 < t.states)) with hg6 | hg6
  ·refine wl_m M (q_off 3 rfl rfl rfl hg6) rfl rfl ?_
   refine wl_m M (q_off 3 rfl rfl rfl hg6) rfl rfl ?_
   refine wl_m M (q_off 3 rfl rfl rfl hg6) rfl rfl ?_
   refine wl_m M (q_off 3 rfl rfl rfl hg6) rfl rfl ?_
   refine wl_m M (q_pickT rfl hg6 rfl) rfl rfl ?_
   refine wl_nil ?_
   exact ⟨(), M, ⟨(show some (Value.bool true) = some (Value.bool ((decide (12 < t.states)) || (decide (60 < (t.arcs.length : Int))))) from by first | (simp only [hg6, Bool.true_or, Bool.false_or, Bool.true_and, Bool.false_and, Bool.or_true, Bool.or_false, Bool.and_true, Bool.and_false]; done) | simp_all), trivial⟩, unw_take 9 rfl rfl⟩
  refine wl_m M (q_guard 3 rfl rfl rfl hg6 (q_fa fo_25_3 rfl)) rfl rfl ?_
  refine wl_m M (q_guard 3 rfl rfl rfl hg6 (q_ldb 0 Try.underlying23 rfl rfl rfl rfl)) rfl rfl ?_
  refine wl_m M (q_guard 3 rfl rfl rfl hg6 (q_lenR Ra1 Try.underlying23 rfl)) rfl rfl ?_
  refine wl_m M (q_guard 3 rfl rfl rfl hg6 (q_gtr rfl rfl)) rfl rfl ?_
  refine wl_m M (q_pickF rfl hg6 rfl) rfl rfl ?_
  refine wl_nil ?_
  exact ⟨(), M, ⟨(show some (Value.bool (decide (60 < (t.arcs.length : Int)))) = some (Value.bool ((decide (12 < t.states)) || (decide (60 < (t.arcs.length : Int))))) from by first | (simp only [hg6, Bool.true_or, Bool.false_or, Bool.true_and, Bool.false_and, Bool.or_true, Bool.or_false, Bool.and_true, Bool.and_false]; done) | simp_all), trivial⟩, unw_take 9 rfl rfl⟩
 rintro _ jr1 w2 M
 refine wc_cond rfl (fun ht11 => ?_) (fun ht11 => ?_)
 ·refine wc_seq ?_
  refine wc_region ?_
  refine wl_e (e_callC M (awake3_c M.imm) Try.func12 rfl rfl) rfl rfl ?_
  rintro _ w3 ⟨J12, hJ12, rfl, M⟩
  replace M := M.less hJ12 (fun _ _ => rfl)
  refine wl_as M rfl rfl ?_
  refine wl_nil ?_
  refine wc_ret ?_
  exact out1 rfl rfl ⟨_, _, rfl, M.grow, rfl⟩
 refine wc_skip ?_
 refine wc_seq ?_
 refine wc_join (α := Heap) [2, 13, 14, 15, 16, 17, 18, 19, 20] (fun ((I6) : Heap) => [(2, .bool true)]) (fun ((I6) : Heap) w' => hle I I6 ∧ Mem w I I6 (box b1 25 [.int .i64 t.states, .int .i64 t.start, sv fu1, sv au1] :: []) w') ?_ ?_
 ·refine wc_draws (fun w' => Mem w I I (box b1 25 [.int .i64 t.states, .int .i64 t.start, sv fu1, sv au1] :: []) w' ∧ True) [] fol ?_
  replace M := M.drew
  have hS := (⟨M, trivial⟩ : _ ∧ _)
  refine wa_e 0 rfl (by kernel_rfl) (e_callC M (awake3_c M.imm) Try.func12 rfl rfl) rfl rfl ?_
  rintro _ w4 ⟨J13, hJ13, rfl, M⟩
  have hS := (⟨(M.less hJ13 (fun _ _ => rfl)), trivial⟩ : _ ∧ _)
  refine ⟨fun _ => hS, ?_⟩
  replace M := M.less hJ13 (fun _ _ => rfl)
  refine wa_q 1 rfl (by kernel_rfl) (q_move rfl) hS rfl rfl ?_
  refine wa_q 2 rfl (by kernel_rfl) ((q_guard 1 rfl rfl rfl rfl (q_ldbA 0 Try.underlying25 rfl sz25 rfl rfl rfl rfl)).mono fun _ h => h.1) hS rfl rfl ?_
  refine wa_q 4 rfl (by kernel_rfl) ((q_guard 1 rfl rfl rfl rfl (q_ldbA 0 Try.underlying25 rfl sz25 rfl rfl rfl rfl)).mono fun _ h => h.1) hS rfl rfl ?_
  refine wa_e 3 rfl (by kernel_rfl) (e_guard 1 rfl rfl rfl rfl (e_callC M (trimP_c t M.imm ⟨_, _, rfl, Rf1, Ra1⟩) Try.func19 rfl rfl)) rfl rfl ?_
  rintro _ w5 ⟨J16, hJ16, ⟨fu16, au16, rfl, Rf16, Ra16⟩, M⟩
  have hoJ16 := M.old
  have hS := (⟨(M.less hJ16 (fun _ _ => rfl)), trivial⟩ : _ ∧ _)
  refine ⟨fun _ => hS, ?_⟩
  refine wa_e 5 rfl (by kernel_rfl) (e_guard 1 rfl rfl rfl rfl (e_callC M (trim3_c t M.imm ⟨_, _, rfl, (Rf1.mono hJ16), (Ra1.mono hJ16)⟩) Try.func24 rfl rfl)) rfl rfl ?_
  rintro _ w6 ⟨J18, hJ18, ⟨fu18, au18, rfl, Rf18, Ra18⟩, M⟩
  have hoJ18 := M.old
  have hS := (⟨(M.less (hle.trans hJ16 hJ18) (fun _ _ => rfl)), trivial⟩ : _ ∧ _)
  refine ⟨fun _ => hS, ?_⟩
  refine wa_e 6 rfl (by kernel_rfl) (e_guard 1 rfl rfl rfl rfl (e_callC M (bool_to (decide_eq_true rfl) (same_c (TrimP t) (TrimP t) M.imm ⟨_, _, rfl, (Rf16.mono hJ18), (Ra16.mono hJ18)⟩ ⟨_, _, rfl, Rf18, Ra18⟩)) Try.func18 rfl rfl)) rfl rfl ?_
  rintro _ w7 ⟨J19, hJ19, rfl, M⟩
  have hS := (⟨(M.less (hle.trans (hle.trans hJ16 hJ18) hJ19) (fun _ _ => rfl)), trivial⟩ : _ ∧ _)
  refine ⟨fun _ => hS, ?_⟩
  replace M := M.less hJ19 hoJ18
  refine wa_q 7 rfl (by kernel_rfl) (q_pickT rfl rfl rfl) hS rfl rfl ?_
  refine wa_q 8 rfl (by kernel_rfl) (q_assign rfl) hS rfl rfl ?_
  refine wa_done (by kernel_rfl) ?_
  exact ⟨(J18), ⟨(hle.trans hJ16 hJ18), M⟩, ⟨rfl, trivial⟩, unw_take 9 rfl rfl⟩
 rintro I6 jr3 w8 ⟨hI6, M⟩
 have hoI6 := M.old
 refine wc_ret ?_
 exact out1 rfl rfl ⟨_, _, rfl, M.grow, rfl⟩
end Go.Proofs.Ytfepjcmjkaolgaa.G
