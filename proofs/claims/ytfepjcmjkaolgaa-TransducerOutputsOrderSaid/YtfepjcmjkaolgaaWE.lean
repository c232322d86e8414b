/- Walks of the program's functions. -/
import Derived.Test.YtfepjcmjkaolgaaWA
import Derived.Test.YtfepjcmjkaolgaaGRef
import Derived.Test.YtfepjcmjkaolgaaWSc
set_option linter.all false
namespace Go.Proofs.Ytfepjcmjkaolgaa.G
open Go Go.RowKit
theorem ints_c {xs ys : List Int} {u u2 : SV} {I : Heap} {w : World} (hI : hle I (hp w)) (R0 : rdSl EInt I (sv u) xs) (R1 : rdSl EInt I (sv u2) ys) : Calls A 25 #[sv u, sv u2] w (Ret w I fun v _ => v = .bool (decide (xs = ys))) := by
 have M := Mem.start hI
 refine enter Try.func25 rfl 26 Try.ntmps25 [_, _] rfl ?_
 refine wc_seq <| wc_region <| wl_as M rfl rfl <| wl_nil ?_
 refine wc_seq ?_
 refine wc_seq <| wc_region <| wl_mv M rfl rfl <| wl_m M (q_lenR R0 Try.underlying22 rfl) rfl rfl <| wl_mv M rfl rfl <| wl_m M (q_lenR R1 Try.underlying22 rfl) rfl rfl <| wl_m M (q_neq rfl rfl) rfl rfl <| wl_nil ?_
 refine wc_cond rfl (fun ht10 => ?_) (fun ht10 => ?_)
 ·refine wc_seq <| wc_region <| wl_as M rfl rfl <| wl_nil <| wc_ret ?_
  exact out1 rfl rfl ⟨_, _, rfl, M.grow, by rw [decide_eq_false (fun e => nd_t ht10 (by rw [e]))]⟩
 have hlen : xs.length = ys.length := by have := nd_f ht10; omega
 refine wc_skip ?_
 refine wc_seq ?_
 refine wc_seq <| wc_region <| wl_as M rfl rfl <| wl_nil <| wc_block ?_
 refine wc_loop (α := Nat) [4, 5, 11, 12, 13, 14, 15, 16, 17, 18, 19, 20, 21, 22, 23, 24, 25] (fun (k0 : Nat) => [(5, .int .i64 (k0 : Int))])
   (fun (k0 : Nat) w' => (k0 ≤ xs.length) ∧ (xs.take k0 = ys.take k0) ∧ Mem w I I ([]) w')
   (fun (k0 : Nat) => xs.length - k0) (0) ⟨rfl, trivial⟩ ?_ ?_
 ·refine ⟨Nat.zero_le _, rfl, ?_⟩
  exact M
 rintro k0 jj0 w1 ⟨hk0, he, M⟩
 refine wc_seq ?_
 refine wc_seq <| wc_region <| wl_mv M rfl rfl <| wl_mv M rfl rfl <| wl_m M (q_lenR R0 Try.underlying22 rfl) rfl rfl <| wl_m M (q_lss rfl rfl) rfl rfl <| wl_nil ?_
 refine wc_dec rfl (fun ht14 => ?_) (fun ht14 => ?_)
 ·obtain ⟨x0, hx0⟩ : ∃ x_, xs[k0]? = some x_ := ⟨_, List.getElem?_eq_getElem (by omega)⟩
  have hll0 := (R0).len_le
  have hll0 := R0.len_le
  obtain ⟨y0, hy0⟩ : ∃ y, ys[k0]? = some y := ⟨_, List.getElem?_eq_getElem (by omega)⟩
  refine wc_skip ?_
  refine wc_seq <| wc_block ?_
  refine wc_seq ?_
  refine wc_draws (fun w' => Mem w I I ([]) w' ∧ True) [] fol ?_
  replace M := M.drew
  have hS := (⟨M, trivial⟩ : _ ∧ _)
  refine wa_q 0 rfl (by kernel_rfl) (q_move rfl) hS rfl rfl ?_
  refine wa_q 1 rfl (by kernel_rfl) (q_move rfl) hS rfl rfl ?_
  refine wa_ixS (j := k0) 2 hS (fun _ h => R0.mono h.1.imm) rfl (by kernel_rfl) Try.underlying22 rfl rfl hx0 rfl (fun b19 o19 p19 => ?_)
  refine wa_q 3 rfl (by kernel_rfl) (q_ldp p19 rfl rfl) hS rfl rfl ?_
  refine wa_q 4 rfl (by kernel_rfl) (q_move rfl) hS rfl rfl ?_
  refine wa_q 5 rfl (by kernel_rfl) (q_move rfl) hS rfl rfl ?_
  refine wa_ixS (j := k0) 6 hS (fun _ h => R1.mono h.1.imm) rfl (by kernel_rfl) Try.underlying22 rfl rfl hy0 rfl (fun b23 o23 p23 => ?_)
  refine wa_q 7 rfl (by kernel_rfl) (q_ldp p23 rfl rfl) hS rfl rfl ?_
  refine wa_q 8 rfl (by kernel_rfl) (q_neq rfl rfl) hS rfl rfl ?_
  refine wa_done (by kernel_rfl) ?_
  refine wc_cond rfl (fun ht25 => ?_) (fun ht25 => ?_)
  ·refine wc_seq <| wc_region <| wl_as M rfl rfl <| wl_nil <| wc_ret ?_
   exact out1 rfl rfl ⟨_, _, rfl, M.grow, by rw [decide_eq_false (fun e => nd_t ht25 (by subst e; rw [hx0] at hy0; exact Option.some.inj hy0))]⟩
  refine wc_skip <| wc_region <| wl_mv M rfl rfl <| wl_m M (q_add rfl rfl (IntWalk.i64_in _ (by omega))) rfl rfl ?_
  refine wl_as M rfl rfl <| wl_nil ?_
  refine ⟨(k0 + 1), ?_, ⟨(by omega), (by rw [take_snoc hx0, take_snoc hy0, he, nd_f ht25]), M⟩, ⟨rfl, trivial⟩, unw_look rfl unw_base⟩
  show xs.length - (k0 + 1) < xs.length - k0
  omega
 have hke0 : k0 = xs.length := by omega
 rw [hke0, List.take_length, hlen, List.take_length] at he
 refine wc_exit rfl ?_
 refine wc_seq <| wc_region <| wl_as M rfl rfl <| wl_nil <| wc_ret ?_
 exact out1 rfl rfl ⟨_, _, rfl, M.grow, by rw [decide_eq_true he]⟩
theorem same_c (a b : Tra) {v1 v2 : Value} {I : Heap} {w : World} (hI : hle I (hp w)) (R1 : a.rd I v1) (R2 : b.rd I v2) : Calls A 18 #[v1, v2] w (Ret w I fun v _ => v = .bool (decide (a = b))) := by
 obtain ⟨fu1, au1, rfl, Rf1, Ra1⟩ := R1
 obtain ⟨fu2, au2, rfl, Rf2, Ra2⟩ := R2
 have M := Mem.start hI
 refine enter Try.func18 rfl 53 Try.ntmps18 [_, _] rfl ?_
 refine wc_seq <| wc_region <| wl_e (e_box M rfl) rfl rfl ?_
 rintro _ w1 ⟨b2, rfl, M⟩
 refine wl_e (e_box M rfl) rfl rfl ?_
 rintro _ w2 ⟨b3, rfl, M⟩
 refine wl_as M rfl rfl <| wl_nil ?_
 refine wc_seq ?_
 refine wc_seq ?_
 refine wc_join (α := Unit) [6, 7, 8, 9, 10, 11, 12, 13, 14, 15, 16, 17, 18, 19, 20, 21, 22, 23, 24, 25, 26, 27, 28, 29, 30, 31, 32, 33, 34] (fun _ => [(34, .bool ((((!decide (a.states = b.states)) || (!decide (a.start = b.start))) || (!(decide (a.finals = b.finals)))) || (!decide ((a.arcs.length : Int) = (b.arcs.length : Int)))))]) (fun _ w' => Mem w I I (box b3 25 [.int .i64 b.states, .int .i64 b.start, sv fu2, sv au2] :: box b2 25 [.int .i64 a.states, .int .i64 a.start, sv fu1, sv au1] :: []) w') ?_ ?_
 ·refine wc_region <| wl_m M (q_fa fo_25_0 rfl) rfl rfl <| wl_m M (q_ldb 1 Try.underlying3 rfl rfl rfl rfl) rfl rfl <| wl_m M (q_fa fo_25_0 rfl) rfl rfl <| wl_m M (q_ldb 0 Try.underlying3 rfl rfl rfl rfl) rfl rfl <| wl_m M (q_neq rfl rfl) rfl rfl <| wl_mv M rfl rfl ?_
  rcases Bool.eq_false_or_eq_true (!decide (a.states = b.states)) with hg11 | hg11
  ·refine wl_m M (q_off 5 rfl rfl rfl hg11) rfl rfl <| wl_m M (q_off 5 rfl rfl rfl hg11) rfl rfl <| wl_m M (q_off 5 rfl rfl rfl hg11) rfl rfl <| wl_m M (q_off 5 rfl rfl rfl hg11) rfl rfl <| wl_m M (q_off 5 rfl rfl rfl hg11) rfl rfl <| wl_m M (q_pickT rfl hg11 rfl) rfl rfl <| wl_mv M rfl rfl <| wl_m M (q_off 12 rfl rfl rfl rfl) rfl rfl <| wl_m M (q_off 12 rfl rfl rfl rfl) rfl rfl <| wl_m M (q_off 12 rfl rfl rfl rfl) rfl rfl <| wl_m M (q_off 12 rfl rfl rfl rfl) rfl rfl <| wl_m M (q_off 12 rfl rfl rfl rfl) rfl rfl <| wl_m M (q_off 12 rfl rfl rfl rfl) rfl rfl ?_
   refine wl_m M (q_pickT rfl rfl rfl) rfl rfl <| wl_mv M rfl rfl <| wl_m M (q_off 20 rfl rfl rfl rfl) rfl rfl <| wl_m M (q_off 20 rfl rfl rfl rfl) rfl rfl <| wl_m M (q_off 20 rfl rfl rfl rfl) rfl rfl <| wl_m M (q_off 20 rfl rfl rfl rfl) rfl rfl <| wl_m M (q_off 20 rfl rfl rfl rfl) rfl rfl <| wl_m M (q_off 20 rfl rfl rfl rfl) rfl rfl <| wl_m M (q_off 20 rfl rfl rfl rfl) rfl rfl <| wl_m M (q_pickT rfl rfl rfl) rfl rfl <| wl_nil ?_
   exact ⟨(), M, ⟨(show some (Value.bool true) = some (Value.bool ((((!decide (a.states = b.states)) || (!decide (a.start = b.start))) || (!(decide (a.finals = b.finals)))) || (!decide ((a.arcs.length : Int) = (b.arcs.length : Int))))) from by first | (simp only [hg11, bL8]; done) | (simp_all; done) | (simp_all; omega)), trivial⟩, unw_take 29 rfl rfl⟩
  refine wl_m M (q_guard 5 rfl rfl rfl hg11 (q_fa fo_25_1 rfl)) rfl rfl <| wl_m M (q_guard 5 rfl rfl rfl hg11 (q_ldb 1 Try.underlying3 rfl rfl rfl rfl)) rfl rfl <| wl_m M (q_guard 5 rfl rfl rfl hg11 (q_fa fo_25_1 rfl)) rfl rfl <| wl_m M (q_guard 5 rfl rfl rfl hg11 (q_ldb 0 Try.underlying3 rfl rfl rfl rfl)) rfl rfl <| wl_m M (q_guard 5 rfl rfl rfl hg11 (q_neq rfl rfl)) rfl rfl <| wl_m M (q_pickF rfl hg11 rfl) rfl rfl <| wl_mv M rfl rfl ?_
  rcases Bool.eq_false_or_eq_true (!decide (a.start = b.start)) with hg18 | hg18
  ·refine wl_m M (q_off 12 rfl rfl rfl hg18) rfl rfl <| wl_m M (q_off 12 rfl rfl rfl hg18) rfl rfl <| wl_m M (q_off 12 rfl rfl rfl hg18) rfl rfl <| wl_m M (q_off 12 rfl rfl rfl hg18) rfl rfl <| wl_m M (q_off 12 rfl rfl rfl hg18) rfl rfl <| wl_m M (q_off 12 rfl rfl rfl hg18) rfl rfl <| wl_m M (q_pickT rfl hg18 rfl) rfl rfl <| wl_mv M rfl rfl <| wl_m M (q_off 20 rfl rfl rfl rfl) rfl rfl <| wl_m M (q_off 20 rfl rfl rfl rfl) rfl rfl <| wl_m M (q_off 20 rfl rfl rfl rfl) rfl rfl <| wl_m M (q_off 20 rfl rfl rfl rfl) rfl rfl <| wl_m M (q_off 20 rfl rfl rfl rfl) rfl rfl ?_
   refine wl_m M (q_off 20 rfl rfl rfl rfl) rfl rfl <| wl_m M (q_off 20 rfl rfl rfl rfl) rfl rfl <| wl_m M (q_pickT rfl rfl rfl) rfl rfl <| wl_nil ?_
   exact ⟨(), M, ⟨(show some (Value.bool true) = some (Value.bool ((((!decide (a.states = b.states)) || (!decide (a.start = b.start))) || (!(decide (a.finals = b.finals)))) || (!decide ((a.arcs.length : Int) = (b.arcs.length : Int))))) from by first | (simp only [hg11, hg18, bL8]; done) | (simp_all; done) | (simp_all; omega)), trivial⟩, unw_take 29 rfl rfl⟩
  refine wl_m M (q_guard 12 rfl rfl rfl hg18 (q_fa fo_25_2 rfl)) rfl rfl <| wl_m M (q_guard 12 rfl rfl rfl hg18 (q_ldb 1 Try.underlying22 rfl rfl rfl rfl)) rfl rfl <| wl_m M (q_guard 12 rfl rfl rfl hg18 (q_fa fo_25_2 rfl)) rfl rfl <| wl_m M (q_guard 12 rfl rfl rfl hg18 (q_ldb 0 Try.underlying22 rfl rfl rfl rfl)) rfl rfl <| wl_e (e_guard 12 rfl rfl rfl hg18 (e_callC M (ints_c M.imm Rf1 Rf2) Try.func25 rfl rfl)) rfl rfl ?_
  rintro _ w3 ⟨J23, hJ23, rfl, M⟩
  replace M := M.less hJ23 (fun _ _ => rfl)
  refine wl_m M (q_guard 12 rfl rfl rfl hg18 (q_not rfl)) rfl rfl <| wl_m M (q_pickF rfl hg18 rfl) rfl rfl <| wl_mv M rfl rfl ?_
  rcases Bool.eq_false_or_eq_true (!(decide (a.finals = b.finals))) with hg26 | hg26
  ·refine wl_m M (q_off 20 rfl rfl rfl hg26) rfl rfl <| wl_m M (q_off 20 rfl rfl rfl hg26) rfl rfl <| wl_m M (q_off 20 rfl rfl rfl hg26) rfl rfl <| wl_m M (q_off 20 rfl rfl rfl hg26) rfl rfl <| wl_m M (q_off 20 rfl rfl rfl hg26) rfl rfl <| wl_m M (q_off 20 rfl rfl rfl hg26) rfl rfl <| wl_m M (q_off 20 rfl rfl rfl hg26) rfl rfl <| wl_m M (q_pickT rfl hg26 rfl) rfl rfl <| wl_nil ?_
   exact ⟨(), M, ⟨(show some (Value.bool true) = some (Value.bool ((((!decide (a.states = b.states)) || (!decide (a.start = b.start))) || (!(decide (a.finals = b.finals)))) || (!decide ((a.arcs.length : Int) = (b.arcs.length : Int))))) from by first | (simp only [hg11, hg18, hg26, bL8]; done) | (simp_all; done) | (simp_all; omega)), trivial⟩, unw_take 29 rfl rfl⟩
  refine wl_m M (q_guard 20 rfl rfl rfl hg26 (q_fa fo_25_3 rfl)) rfl rfl <| wl_m M (q_guard 20 rfl rfl rfl hg26 (q_ldb 1 Try.underlying23 rfl rfl rfl rfl)) rfl rfl <| wl_m M (q_guard 20 rfl rfl rfl hg26 (q_lenR Ra1 Try.underlying23 rfl)) rfl rfl <| wl_m M (q_guard 20 rfl rfl rfl hg26 (q_fa fo_25_3 rfl)) rfl rfl <| wl_m M (q_guard 20 rfl rfl rfl hg26 (q_ldb 0 Try.underlying23 rfl rfl rfl rfl)) rfl rfl <| wl_m M (q_guard 20 rfl rfl rfl hg26 (q_lenR Ra2 Try.underlying23 rfl)) rfl rfl <| wl_m M (q_guard 20 rfl rfl rfl hg26 (q_neq rfl rfl)) rfl rfl <| wl_m M (q_pickF rfl hg26 rfl) rfl rfl <| wl_nil ?_
  exact ⟨(), M, ⟨(show some (Value.bool (!decide ((a.arcs.length : Int) = (b.arcs.length : Int)))) = some (Value.bool ((((!decide (a.states = b.states)) || (!decide (a.start = b.start))) || (!(decide (a.finals = b.finals)))) || (!decide ((a.arcs.length : Int) = (b.arcs.length : Int))))) from by first | (simp only [hg11, hg18, hg26, bL8]; done) | (simp_all; done) | (simp_all; omega)), trivial⟩, unw_take 29 rfl rfl⟩
 rintro _ jr1 w4 M
 refine wc_cond rfl (fun ht34 => ?_) (fun ht34 => ?_)
 ·refine wc_seq <| wc_region <| wl_as M rfl rfl <| wl_nil <| wc_ret ?_
  exact out1 rfl rfl ⟨_, _, rfl, M.grow, by rw [decide_eq_false (fun e => by subst e; simp at ht34)]⟩
 obtain ⟨⟨⟨h1, h2⟩, h3⟩, h4⟩ : ((a.states = b.states ∧ a.start = b.start) ∧ a.finals = b.finals) ∧ (a.arcs.length : Int) = b.arcs.length := by simpa using ht34
 refine wc_skip ?_
 refine wc_seq ?_
 refine wc_seq <| wc_region <| wl_as M rfl rfl <| wl_nil <| wc_block ?_
 refine wc_loop (α := Nat) [4, 5, 35, 36, 37, 38, 39, 40, 41, 42, 43, 44, 45, 46, 47, 48, 49, 50, 51, 52] (fun (k0 : Nat) => [(5, .int .i64 (k0 : Int))])
   (fun (k0 : Nat) w' => (k0 ≤ a.arcs.length) ∧ (a.arcs.take k0 = b.arcs.take k0) ∧ Mem w I I (box b3 25 [.int .i64 b.states, .int .i64 b.start, sv fu2, sv au2] :: box b2 25 [.int .i64 a.states, .int .i64 a.start, sv fu1, sv au1] :: []) w')
   (fun (k0 : Nat) => a.arcs.length - k0) (0) ⟨rfl, trivial⟩ ?_ ?_
 ·refine ⟨Nat.zero_le _, rfl, ?_⟩
  exact M
 rintro k0 jj0 w5 ⟨hk0, he, M⟩
 refine wc_seq ?_
 refine wc_seq <| wc_region <| wl_mv M rfl rfl <| wl_m M (q_fa fo_25_3 rfl) rfl rfl <| wl_m M (q_ldb 1 Try.underlying23 rfl rfl rfl rfl) rfl rfl <| wl_m M (q_lenR Ra1 Try.underlying23 rfl) rfl rfl <| wl_m M (q_lss rfl rfl) rfl rfl <| wl_nil ?_
 refine wc_dec rfl (fun ht39 => ?_) (fun ht39 => ?_)
 ·obtain ⟨x0, hx0⟩ : ∃ x_, a.arcs[k0]? = some x_ := ⟨_, List.getElem?_eq_getElem (by omega)⟩
  have hll0 := Ra1.len_le
  obtain ⟨y0, hy0⟩ : ∃ y, b.arcs[k0]? = some y := ⟨_, List.getElem?_eq_getElem (by omega)⟩
  refine wc_skip ?_
  refine wc_seq <| wc_block ?_
  refine wc_seq ?_
  refine wc_draws (fun w' => Mem w I I (box b3 25 [.int .i64 b.states, .int .i64 b.start, sv fu2, sv au2] :: box b2 25 [.int .i64 a.states, .int .i64 a.start, sv fu1, sv au1] :: []) w' ∧ True) [] fol ?_
  replace M := M.drew
  have hS := (⟨M, trivial⟩ : _ ∧ _)
  refine wa_q 0 rfl (by kernel_rfl) (q_fa fo_25_3 rfl) hS rfl rfl ?_
  refine wa_q 1 rfl (by kernel_rfl) ((q_ldb 1 Try.underlying23 rfl rfl rfl rfl).mono fun _ h => h.1) hS rfl rfl ?_
  refine wa_q 2 rfl (by kernel_rfl) (q_move rfl) hS rfl rfl ?_
  refine wa_ixS (j := k0) 3 hS (fun _ h => Ra1.mono h.1.imm) rfl (by kernel_rfl) Try.underlying23 rfl rfl hx0 rfl (fun b45 o45 p45 => ?_)
  refine wa_q 4 rfl (by kernel_rfl) (q_ldp p45 rfl rfl) hS rfl rfl ?_
  refine wa_q 5 rfl (by kernel_rfl) (q_fa fo_25_3 rfl) hS rfl rfl ?_
  refine wa_q 6 rfl (by kernel_rfl) ((q_ldb 0 Try.underlying23 rfl rfl rfl rfl).mono fun _ h => h.1) hS rfl rfl ?_
  refine wa_q 7 rfl (by kernel_rfl) (q_move rfl) hS rfl rfl ?_
  refine wa_ixS (j := k0) 8 hS (fun _ h => Ra2.mono h.1.imm) rfl (by kernel_rfl) Try.underlying23 rfl rfl hy0 rfl (fun b50 o50 p50 => ?_)
  refine wa_q 9 rfl (by kernel_rfl) (q_ldp p50 rfl rfl) hS rfl rfl ?_
  refine wa_q 10 rfl (by kernel_rfl) (q_neqK QArcE x0 y0 rfl rfl rfl) hS rfl rfl ?_
  refine wa_done (by kernel_rfl) ?_
  refine wc_cond rfl (fun ht52 => ?_) (fun ht52 => ?_)
  ·refine wc_seq <| wc_region <| wl_as M rfl rfl <| wl_nil <| wc_ret ?_
   exact out1 rfl rfl ⟨_, _, rfl, M.grow, by rw [decide_eq_false (fun e => nd_t ht52 (by subst e; rw [hx0] at hy0; exact Option.some.inj hy0))]⟩
  refine wc_skip <| wc_region <| wl_mv M rfl rfl <| wl_m M (q_add rfl rfl (IntWalk.i64_in _ (by omega))) rfl rfl ?_
  refine wl_as M rfl rfl <| wl_nil ?_
  refine ⟨(k0 + 1), ?_, ⟨(by omega), (by rw [take_snoc hx0, take_snoc hy0, he, nd_f ht52]), M⟩, ⟨rfl, trivial⟩, unw_look rfl unw_base⟩
  show a.arcs.length - (k0 + 1) < a.arcs.length - k0
  omega
 have hke0 : k0 = a.arcs.length := by omega
 rw [hke0, List.take_length, show a.arcs.length = b.arcs.length by omega, List.take_length] at he
 refine wc_exit rfl ?_
 refine wc_seq <| wc_region <| wl_as M rfl rfl <| wl_nil <| wc_ret ?_
 exact out1 rfl rfl ⟨_, _, rfl, M.grow, by rw [decide_eq_true (by cases a; cases b; simp_all)]⟩
theorem texts3_c {xs ys : List ByteArray} {u1 u2 : SV} {I : Heap} {w : World} (hI : hle I (hp w)) (R1 : rdSl EStr I (sv u1) xs) (R2 : rdSl EStr I (sv u2) ys) : Calls A 23 #[sv u1, sv u2] w (Ret w I fun r _ => r = .bool (decide (xs = ys))) := by
 have hll1 := R1.len_le
 have M := Mem.start hI
 refine enter Try.func23 rfl 26 Try.ntmps23 [_, _] rfl ?_
 refine wc_seq <| wc_region <| wl_as M rfl rfl <| wl_nil ?_
 refine wc_seq ?_
 refine wc_seq <| wc_region <| wl_mv M rfl rfl <| wl_m M (q_lenR R1 Try.underlying30 rfl) rfl rfl <| wl_mv M rfl rfl <| wl_m M (q_lenR R2 Try.underlying30 rfl) rfl rfl <| wl_m M (q_neq rfl rfl) rfl rfl <| wl_nil ?_
 refine wc_cond rfl (fun ht10 => ?_) (fun ht10 => ?_)
 ·refine wc_seq <| wc_region <| wl_as M rfl rfl <| wl_nil <| wc_ret ?_
  exact out1 rfl rfl ⟨_, _, rfl, M.grow, by rw [decide_eq_false (fun e => nd_t ht10 (by rw [e]))]⟩
 have hlen : (xs.length : Int) = ys.length := nd_f ht10
 refine wc_skip ?_
 refine wc_seq ?_
 refine wc_seq <| wc_region <| wl_as M rfl rfl <| wl_nil <| wc_block ?_
 refine wc_loop (α := Nat) [4, 5, 11, 12, 13, 14, 15, 16, 17, 18, 19, 20, 21, 22, 23, 24, 25] (fun (k0 : Nat) => [(5, .int .i64 (k0 : Int))])
   (fun (k0 : Nat) w' => (k0 ≤ xs.length) ∧ (xs.take k0 = ys.take k0) ∧ Mem w I I ([]) w')
   (fun (k0 : Nat) => xs.length - k0) (0) ⟨rfl, trivial⟩ ?_ ?_
 ·refine ⟨Nat.zero_le _, rfl, ?_⟩
  exact M
 rintro k0 jj0 w1 ⟨hk0, he, M⟩
 refine wc_seq ?_
 refine wc_seq <| wc_region <| wl_mv M rfl rfl <| wl_mv M rfl rfl <| wl_m M (q_lenR R1 Try.underlying30 rfl) rfl rfl <| wl_m M (q_lss rfl rfl) rfl rfl <| wl_nil ?_
 refine wc_dec rfl (fun ht14 => ?_) (fun ht14 => ?_)
 ·obtain ⟨x0, hx0⟩ : ∃ x_, xs[k0]? = some x_ := ⟨_, List.getElem?_eq_getElem (by omega)⟩
  have hll0 := (R1).len_le
  obtain ⟨y0, hy0⟩ : ∃ y, ys[k0]? = some y := ⟨_, List.getElem?_eq_getElem (by omega)⟩
  refine wc_skip ?_
  refine wc_seq <| wc_block ?_
  refine wc_seq ?_
  refine wc_draws (fun w' => Mem w I I ([]) w' ∧ True) [] fol ?_
  replace M := M.drew
  have hS := (⟨M, trivial⟩ : _ ∧ _)
  refine wa_q 0 rfl (by kernel_rfl) (q_move rfl) hS rfl rfl ?_
  refine wa_q 1 rfl (by kernel_rfl) (q_move rfl) hS rfl rfl ?_
  refine wa_ixS (j := k0) 2 hS (fun _ h => R1.mono h.1.imm) rfl (by kernel_rfl) Try.underlying30 rfl (ixe (by omega)) hx0 rfl (fun b19 o19 p19 => ?_)
  refine wa_q 3 rfl (by kernel_rfl) (q_ldp p19 rfl rfl) hS rfl rfl ?_
  refine wa_q 4 rfl (by kernel_rfl) (q_move rfl) hS rfl rfl ?_
  refine wa_q 5 rfl (by kernel_rfl) (q_move rfl) hS rfl rfl ?_
  refine wa_ixS (j := k0) 6 hS (fun _ h => R2.mono h.1.imm) rfl (by kernel_rfl) Try.underlying30 rfl (ixe (by omega)) hy0 rfl (fun b23 o23 p23 => ?_)
  refine wa_q 7 rfl (by kernel_rfl) (q_ldp p23 rfl rfl) hS rfl rfl ?_
  refine wa_q 8 rfl (by kernel_rfl) (q_neqS rfl rfl) hS rfl rfl ?_
  refine wa_done (by kernel_rfl) ?_
  refine wc_cond rfl (fun ht25 => ?_) (fun ht25 => ?_)
  ·refine wc_seq <| wc_region <| wl_as M rfl rfl <| wl_nil <| wc_ret ?_
   exact out1 rfl rfl ⟨_, _, rfl, M.grow, by rw [decide_eq_false (fun e => nd_t ht25 (by subst e; rw [hx0] at hy0; exact Option.some.inj hy0))]⟩
  refine wc_skip <| wc_region <| wl_mv M rfl rfl <| wl_m M (q_add rfl rfl (IntWalk.i64_in _ (by omega))) rfl rfl ?_
  refine wl_as M rfl rfl <| wl_nil ?_
  refine ⟨(k0 + 1), ?_, ⟨(by omega), (by rw [take_snoc hx0, take_snoc hy0, he, nd_f ht25]), M⟩, ⟨rfl, trivial⟩, unw_look rfl unw_base⟩
  show xs.length - (k0 + 1) < xs.length - k0
  omega
 have hke0 : k0 = xs.length := by omega
 rw [hke0, List.take_length, show xs.length = ys.length by omega, List.take_length] at he
 refine wc_exit rfl ?_
 refine wc_seq <| wc_region <| wl_as M rfl rfl <| wl_nil <| wc_ret ?_
 exact out1 rfl rfl ⟨_, _, rfl, M.grow, by rw [decide_eq_true he]⟩
end Go.Proofs.Ytfepjcmjkaolgaa.G
