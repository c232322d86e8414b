/- Walks of the program's functions. -/
import Derived.Test.YtfepjcmjkaolgaaGRef
set_option linter.all false
namespace Go.Proofs.Ytfepjcmjkaolgaa.G
open Go Go.RowKit
theorem isNaN_int (x : Int) {I : Heap} {w : World} (hI : hle I (hp w)) : Calls A 73 #[.int .i64 x] w (Ret w I fun r _ => r = .bool false) := by
 have M := Mem.start hI
 refine enter Try.func73 rfl 6 Try.ntmps73 [_] rfl ?_
 refine wc_seq <| wc_region <| wl_as M rfl rfl <| wl_nil ?_
 refine wc_seq <| wc_region <| wl_mv M rfl rfl <| wl_mv M rfl rfl <| wl_m M (q_neq rfl rfl) rfl rfl <| wl_as M rfl rfl <| wl_nil <| wc_ret ?_
 exact out1 rfl rfl ⟨_, _, rfl, M.grow, by simp⟩
theorem isNaN_rune (x : Int) {I : Heap} {w : World} (hI : hle I (hp w)) : Calls A 74 #[.int .i32 x] w (Ret w I fun r _ => r = .bool false) := by
 have M := Mem.start hI
 refine enter Try.func74 rfl 6 Try.ntmps74 [_] rfl ?_
 refine wc_seq <| wc_region <| wl_as M rfl rfl <| wl_nil ?_
 refine wc_seq <| wc_region <| wl_mv M rfl rfl <| wl_mv M rfl rfl <| wl_m M (q_neq rfl rfl) rfl rfl <| wl_as M rfl rfl <| wl_nil <| wc_ret ?_
 exact out1 rfl rfl ⟨_, _, rfl, M.grow, by simp⟩
theorem compare_int (x y : Int) {I : Heap} {w : World} (hI : hle I (hp w)) : Calls A 52 #[.int .i64 x, .int .i64 y] w (Ret w I fun r _ => r = .int .i64 (cmpI x y)) := by
 have M := Mem.start hI
 refine enter Try.func52 rfl 20 Try.ntmps52 [_, _] rfl ?_
 refine wc_seq <| wc_region <| wl_as M rfl rfl <| wl_nil ?_
 refine wc_seq <| wc_region <| wl_mv M rfl rfl <| wl_e (e_callC M (isNaN_int _ M.imm) Try.func73 rfl rfl) rfl rfl ?_
 rintro _ w1 ⟨J8, hJ8, rfl, M⟩
 replace M := M.less hJ8 (fun _ _ => rfl)
 refine wl_as M rfl rfl <| wl_nil ?_
 refine wc_seq <| wc_region <| wl_mv M rfl rfl <| wl_e (e_callC M (isNaN_int _ M.imm) Try.func73 rfl rfl) rfl rfl ?_
 rintro _ w2 ⟨J10, hJ10, rfl, M⟩
 replace M := M.less hJ10 (fun _ _ => rfl)
 refine wl_as M rfl rfl <| wl_nil ?_
 refine wc_seq ?_
 refine wc_seq <| wc_region <| wl_mv M rfl rfl <| wl_nil ?_
 refine wc_false rfl ?_
 refine wc_skip ?_
 refine wc_seq ?_
 refine wc_seq <| wc_region <| wl_mv M rfl rfl <| wl_nil ?_
 refine wc_false rfl ?_
 refine wc_skip ?_
 refine wc_seq ?_
 refine wc_seq <| wc_region <| wl_mv M rfl rfl <| wl_mv M rfl rfl <| wl_m M (q_lss rfl rfl) rfl rfl <| wl_nil ?_
 refine wc_dec rfl (fun ht16 => ?_) (fun ht16 => ?_)
 ·refine wc_seq <| wc_region <| wl_as M rfl rfl <| wl_nil <| wc_ret ?_
  exact out1 rfl rfl ⟨_, _, rfl, M.grow, by unfold cmpI; simp [*]⟩
 refine wc_skip ?_
 refine wc_seq ?_
 refine wc_seq <| wc_region <| wl_mv M rfl rfl <| wl_mv M rfl rfl <| wl_m M (q_gtr rfl rfl) rfl rfl <| wl_nil ?_
 refine wc_dec rfl (fun ht19 => ?_) (fun ht19 => ?_)
 ·refine wc_seq <| wc_region <| wl_as M rfl rfl <| wl_nil <| wc_ret ?_
  exact out1 rfl rfl ⟨_, _, rfl, M.grow, by unfold cmpI; simp [*]⟩
 refine wc_skip ?_
 refine wc_seq <| wc_region <| wl_as M rfl rfl <| wl_nil <| wc_ret ?_
 exact out1 rfl rfl ⟨_, _, rfl, M.grow, by unfold cmpI; simp [*]⟩
theorem compare_rune (x y : Int) {I : Heap} {w : World} (hI : hle I (hp w)) : Calls A 53 #[.int .i32 x, .int .i32 y] w (Ret w I fun r _ => r = .int .i64 (cmpI x y)) := by
 have M := Mem.start hI
 refine enter Try.func53 rfl 20 Try.ntmps53 [_, _] rfl ?_
 refine wc_seq <| wc_region <| wl_as M rfl rfl <| wl_nil ?_
 refine wc_seq <| wc_region <| wl_mv M rfl rfl <| wl_e (e_callC M (isNaN_rune _ M.imm) Try.func74 rfl rfl) rfl rfl ?_
 rintro _ w1 ⟨J8, hJ8, rfl, M⟩
 replace M := M.less hJ8 (fun _ _ => rfl)
 refine wl_as M rfl rfl <| wl_nil ?_
 refine wc_seq <| wc_region <| wl_mv M rfl rfl <| wl_e (e_callC M (isNaN_rune _ M.imm) Try.func74 rfl rfl) rfl rfl ?_
 rintro _ w2 ⟨J10, hJ10, rfl, M⟩
 replace M := M.less hJ10 (fun _ _ => rfl)
 refine wl_as M rfl rfl <| wl_nil ?_
 refine wc_seq ?_
 refine wc_seq <| wc_region <| wl_mv M rfl rfl <| wl_nil ?_
 refine wc_false rfl ?_
 refine wc_skip ?_
 refine wc_seq ?_
 refine wc_seq <| wc_region <| wl_mv M rfl rfl <| wl_nil ?_
 refine wc_false rfl ?_
 refine wc_skip ?_
 refine wc_seq ?_
 refine wc_seq <| wc_region <| wl_mv M rfl rfl <| wl_mv M rfl rfl <| wl_m M (q_lss rfl rfl) rfl rfl <| wl_nil ?_
 refine wc_dec rfl (fun ht16 => ?_) (fun ht16 => ?_)
 ·refine wc_seq <| wc_region <| wl_as M rfl rfl <| wl_nil <| wc_ret ?_
  exact out1 rfl rfl ⟨_, _, rfl, M.grow, by unfold cmpI; simp [*]⟩
 refine wc_skip ?_
 refine wc_seq ?_
 refine wc_seq <| wc_region <| wl_mv M rfl rfl <| wl_mv M rfl rfl <| wl_m M (q_gtr rfl rfl) rfl rfl <| wl_nil ?_
 refine wc_dec rfl (fun ht19 => ?_) (fun ht19 => ?_)
 ·refine wc_seq <| wc_region <| wl_as M rfl rfl <| wl_nil <| wc_ret ?_
  exact out1 rfl rfl ⟨_, _, rfl, M.grow, by unfold cmpI; simp [*]⟩
 refine wc_skip ?_
 refine wc_seq <| wc_region <| wl_as M rfl rfl <| wl_nil <| wc_ret ?_
 exact out1 rfl rfl ⟨_, _, rfl, M.grow, by unfold cmpI; simp [*]⟩
theorem or_c {xs : List Int} {u : SV} {I : Heap} {w : World} (hI : hle I (hp w)) (R0 : rdSl EInt I (sv u) xs) : Calls A 51 #[sv u] w (Ret w I fun r _ => r = .int .i64 (orL xs)) := by
 have M := Mem.start hI
 refine enter Try.func51 rfl 18 Try.ntmps51 [_] rfl ?_
 refine wc_seq <| wc_region <| wl_as M rfl rfl <| wl_nil ?_
 refine wc_seq <| wc_region <| wl_as M rfl rfl <| wl_nil ?_
 refine wc_seq ?_
 refine wc_seq <| wc_region <| wl_mv M rfl rfl <| wl_m M (q_lenR R0 Try.underlying22 rfl) rfl rfl <| wl_mv M rfl rfl <| wl_nil <| wc_block ?_
 refine wc_loop (α := Nat) [2, 5, 8, 9, 10, 11, 12, 13, 14, 15, 16] (fun (k0 : Nat) => [(8, .int .i64 (k0 : Int))])
   (fun (k0 : Nat) w' => (k0 ≤ xs.length) ∧ (orL xs = orL (xs.drop k0)) ∧ Mem w I I ([]) w')
   (fun (k0 : Nat) => xs.length - k0) (0) ⟨rfl, trivial⟩ ?_ ?_
 ·refine ⟨Nat.zero_le _, rfl, ?_⟩
  exact M
 rintro k0 jj0 w1 ⟨hk0, ho, M⟩
 refine wc_seq <| wc_region <| wl_m M (q_lss rfl rfl) rfl rfl <| wl_nil ?_
 refine wc_seq ?_
 refine wc_dec rfl (fun ht9 => ?_) (fun ht9 => ?_)
 ·obtain ⟨x0, hx0⟩ : ∃ x_, xs[k0]? = some x_ := ⟨_, List.getElem?_eq_getElem (by omega)⟩
  have hll0 := (R0).len_le
  refine wc_skip ?_
  refine wc_seq <| wc_block ?_
  refine wc_seq <| wc_region ?_
  refine wl_ix (j := k0) M R0 Try.underlying22 rfl rfl hx0 rfl (fun b10 o10 p10 => ?_)
  refine wl_m M (q_ldp p10 rfl rfl) rfl rfl <| wl_as M rfl rfl <| wl_nil ?_
  refine wc_seq <| wc_region <| wl_mv M rfl rfl <| wl_mv M rfl rfl <| wl_m M (q_neq rfl rfl) rfl rfl <| wl_nil ?_
  refine wc_cond rfl (fun ht14 => ?_) (fun ht14 => ?_)
  ·refine wc_seq <| wc_region <| wl_mv M rfl rfl <| wl_as M rfl rfl <| wl_nil <| wc_ret ?_
   exact out1 rfl rfl ⟨_, _, rfl, M.grow, by rw [ho, drop_cons hx0, orL, if_neg (by simpa using ht14)]; rfl⟩
  refine wc_skip <| wc_region <| wl_m M (q_add rfl rfl (IntWalk.i64_in _ (by omega))) rfl rfl ?_
  refine wl_mv M rfl rfl <| wl_nil ?_
  refine ⟨(k0 + 1), ?_, ⟨(by omega), (by rw [ho, drop_cons hx0, orL, if_pos]; simpa using ht14), M⟩, ⟨rfl, trivial⟩, unw_look rfl unw_base⟩
  show xs.length - (k0 + 1) < xs.length - k0
  omega
 have hke0 : k0 = xs.length := by omega
 rw [hke0, List.drop_length] at ho
 refine wc_exit rfl ?_
 refine wc_seq <| wc_region <| wl_mv M rfl rfl <| wl_as M rfl rfl <| wl_nil <| wc_ret ?_
 exact out1 rfl rfl ⟨_, _, rfl, M.grow, by rw [ho]; rfl⟩
theorem index_c {xs : List Int} {x : Int} {u : SV} {I : Heap} {w : World} (hI : hle I (hp w)) (R0 : rdSl EInt I (sv u) xs) : Calls A 70 #[sv u, .int .i64 x] w (Ret w I fun r _ => r = .int .i64 (idxI xs x)) := by
 have M := Mem.start hI
 refine enter Try.func70 rfl 19 Try.ntmps70 [_, _] rfl ?_
 refine wc_seq <| wc_region <| wl_as M rfl rfl <| wl_nil ?_
 refine wc_seq ?_
 refine wc_seq <| wc_region <| wl_mv M rfl rfl <| wl_m M (q_lenR R0 Try.underlying22 rfl) rfl rfl <| wl_mv M rfl rfl <| wl_nil <| wc_block ?_
 refine wc_loop (α := Nat) [4, 5, 8, 9, 10, 11, 12, 13, 14, 15, 16, 17, 18] (fun (k0 : Nat) => [(8, .int .i64 (k0 : Int))])
   (fun (k0 : Nat) w' => (k0 ≤ xs.length) ∧ (x ∉ xs.take k0) ∧ Mem w I I ([]) w')
   (fun (k0 : Nat) => xs.length - k0) (0) ⟨rfl, trivial⟩ ?_ ?_
 ·refine ⟨Nat.zero_le _, by simp, ?_⟩
  exact M
 rintro k0 jj0 w1 ⟨hk0, hn, M⟩
 refine wc_seq <| wc_region <| wl_m M (q_lss rfl rfl) rfl rfl <| wl_nil ?_
 refine wc_seq ?_
 refine wc_dec rfl (fun ht9 => ?_) (fun ht9 => ?_)
 ·obtain ⟨x0, hx0⟩ : ∃ x_, xs[k0]? = some x_ := ⟨_, List.getElem?_eq_getElem (by omega)⟩
  have hll0 := (R0).len_le
  refine wc_skip ?_
  refine wc_seq <| wc_block ?_
  refine wc_seq <| wc_region <| wl_mv M rfl rfl <| wl_as M rfl rfl <| wl_nil ?_
  refine wc_seq <| wc_region <| wl_mv M rfl rfl <| wl_mv M rfl rfl <| wl_mv M rfl rfl ?_
  refine wl_ix (j := k0) M R0 Try.underlying22 rfl rfl hx0 rfl (fun b14 o14 p14 => ?_)
  refine wl_m M (q_ldp p14 rfl rfl) rfl rfl <| wl_m M (q_eql rfl rfl) rfl rfl <| wl_nil ?_
  refine wc_dec rfl (fun ht16 => ?_) (fun ht16 => ?_)
  ·refine wc_seq <| wc_region <| wl_mv M rfl rfl <| wl_as M rfl rfl <| wl_nil <| wc_ret ?_
   exact out1 rfl rfl ⟨_, _, rfl, M.grow, by rw [idxI_at (ht16 ▸ hx0) hn]⟩
  refine wc_skip <| wc_region <| wl_m M (q_add rfl rfl (IntWalk.i64_in _ (by omega))) rfl rfl ?_
  refine wl_mv M rfl rfl <| wl_nil ?_
  refine ⟨(k0 + 1), ?_, ⟨(by omega), (by rw [take_snoc hx0]; simp only [List.mem_append, List.mem_singleton, not_or]; exact ⟨hn, ht16⟩), M⟩, ⟨rfl, trivial⟩, unw_look rfl unw_base⟩
  show xs.length - (k0 + 1) < xs.length - k0
  omega
 have hke0 : k0 = xs.length := by omega
 rw [hke0, List.take_length] at hn
 refine wc_exit rfl ?_
 refine wc_seq <| wc_region <| wl_as M rfl rfl <| wl_nil <| wc_ret ?_
 exact out1 rfl rfl ⟨_, _, rfl, M.grow, by rw [idxI, if_neg hn]⟩
theorem contains_c {xs : List Int} {x : Int} {u : SV} {I : Heap} {w : World} (hI : hle I (hp w)) (R0 : rdSl EInt I (sv u) xs) : Calls A 47 #[sv u, .int .i64 x] w (Ret w I fun r _ => r = .bool (decide (x ∈ xs))) := by
 have M := Mem.start hI
 refine enter Try.func47 rfl 9 Try.ntmps47 [_, _] rfl ?_
 refine wc_seq <| wc_region <| wl_as M rfl rfl <| wl_nil ?_
 refine wc_seq <| wc_region <| wl_mv M rfl rfl <| wl_mv M rfl rfl <| wl_e (e_callC M (index_c M.imm R0) Try.func70 rfl rfl) rfl rfl ?_
 rintro _ w1 ⟨J7, hJ7, rfl, M⟩
 replace M := M.less hJ7 (fun _ _ => rfl)
 refine wl_m M (q_geq rfl rfl) rfl rfl <| wl_as M rfl rfl <| wl_nil <| wc_ret ?_
 exact out1 rfl rfl ⟨_, _, rfl, M.grow, by rw [idxI_nn]⟩
theorem validRune_c (r : Int) {I : Heap} {w : World} (hI : hle I (hp w)) : Calls A 32 #[.int .i32 r] w (Ret w I fun v _ => v = .bool (vRune r)) := by
 have M := Mem.start hI
 refine enter Try.func32 rfl 17 Try.ntmps32 [_] rfl ?_
 refine wc_seq <| wc_region <| wl_as M rfl rfl <| wl_nil ?_
 refine wc_seq ?_
 refine wc_join (α := Unit) [2, 3, 4, 5, 6, 7, 8, 9, 10, 11, 12, 13, 14, 15, 16] (fun _ => [(2, .bool (((decide (0 ≤ r)) && (decide (r ≤ 1114111))) && ((decide (r < 55296)) || (decide (57343 < r)))))]) (fun _ w' => Mem w I I ([]) w') ?_ ?_
 ·refine wc_region <| wl_mv M rfl rfl <| wl_m M (q_geq rfl rfl) rfl rfl <| wl_mv M rfl rfl ?_
  rcases Bool.eq_false_or_eq_true (decide (0 ≤ r)) with hg5 | hg5
  ·refine wl_m M (q_guard 2 rfl rfl rfl hg5 (q_move rfl)) rfl rfl <| wl_m M (q_guard 2 rfl rfl rfl hg5 (q_leq rfl rfl)) rfl rfl <| wl_m M (q_pickT rfl hg5 rfl) rfl rfl <| wl_mv M rfl rfl ?_
   rcases Bool.eq_false_or_eq_true (decide (r ≤ 1114111)) with hg9 | hg9
   ·refine wl_m M (q_guard 6 rfl rfl rfl hg9 (q_move rfl)) rfl rfl <| wl_m M (q_guard 6 rfl rfl rfl hg9 (q_lss rfl rfl)) rfl rfl <| wl_m M (q_guard 6 rfl rfl rfl hg9 (q_move rfl)) rfl rfl ?_
    rcases Bool.eq_false_or_eq_true (decide (r < 55296)) with hg12 | hg12
    ·refine wl_m M (q_off 9 rfl rfl rfl hg12) rfl rfl <| wl_m M (q_off 9 rfl rfl rfl hg12) rfl rfl <| wl_m M (q_guard 6 rfl rfl rfl hg9 (q_pickT rfl hg12 rfl)) rfl rfl <| wl_m M (q_pickT rfl hg9 rfl) rfl rfl <| wl_as M rfl rfl <| wl_nil ?_
     exact ⟨(), M, ⟨(show some (Value.bool true) = some (Value.bool (((decide (0 ≤ r)) && (decide (r ≤ 1114111))) && ((decide (r < 55296)) || (decide (57343 < r))))) from by first | (simp only [hg12, hg5, hg9, bL8]; done) | (simp_all; done) | (simp_all; omega)), trivial⟩, unw_take 15 rfl rfl⟩
    refine wl_m M (q_guard 9 rfl rfl rfl hg12 (q_move rfl)) rfl rfl <| wl_m M (q_guard 9 rfl rfl rfl hg12 (q_gtr rfl rfl)) rfl rfl <| wl_m M (q_guard 6 rfl rfl rfl hg9 (q_pickF rfl hg12 rfl)) rfl rfl <| wl_m M (q_pickT rfl hg9 rfl) rfl rfl <| wl_as M rfl rfl <| wl_nil ?_
    exact ⟨(), M, ⟨(show some (Value.bool (decide (57343 < r))) = some (Value.bool (((decide (0 ≤ r)) && (decide (r ≤ 1114111))) && ((decide (r < 55296)) || (decide (57343 < r))))) from by first | (simp only [hg12, hg5, hg9, bL8]; done) | (simp_all; done) | (simp_all; omega)), trivial⟩, unw_take 15 rfl rfl⟩
   refine wl_m M (q_off 6 rfl rfl rfl hg9) rfl rfl <| wl_m M (q_off 6 rfl rfl rfl hg9) rfl rfl <| wl_m M (q_off 6 rfl rfl rfl hg9) rfl rfl <| wl_m M (q_offu 9 rfl rfl rfl) rfl rfl <| wl_m M (q_offu 9 rfl rfl rfl) rfl rfl <| wl_m M (q_off 6 rfl rfl rfl hg9) rfl rfl <| wl_m M (q_pickF rfl hg9 rfl) rfl rfl <| wl_as M rfl rfl <| wl_nil ?_
   exact ⟨(), M, ⟨(show some (Value.bool false) = some (Value.bool (((decide (0 ≤ r)) && (decide (r ≤ 1114111))) && ((decide (r < 55296)) || (decide (57343 < r))))) from by first | (simp only [hg5, hg9, bL8]; done) | (simp_all; done) | (simp_all; omega)), trivial⟩, unw_take 15 rfl rfl⟩
  refine wl_m M (q_off 2 rfl rfl rfl hg5) rfl rfl <| wl_m M (q_off 2 rfl rfl rfl hg5) rfl rfl <| wl_m M (q_pickF rfl hg5 rfl) rfl rfl <| wl_mv M rfl rfl <| wl_m M (q_off 6 rfl rfl rfl rfl) rfl rfl <| wl_m M (q_off 6 rfl rfl rfl rfl) rfl rfl <| wl_m M (q_off 6 rfl rfl rfl rfl) rfl rfl <| wl_m M (q_offu 9 rfl rfl rfl) rfl rfl <| wl_m M (q_offu 9 rfl rfl rfl) rfl rfl <| wl_m M (q_off 6 rfl rfl rfl rfl) rfl rfl <| wl_m M (q_pickF rfl rfl rfl) rfl rfl <| wl_as M rfl rfl <| wl_nil ?_
  exact ⟨(), M, ⟨(show some (Value.bool false) = some (Value.bool (((decide (0 ≤ r)) && (decide (r ≤ 1114111))) && ((decide (r < 55296)) || (decide (57343 < r))))) from by first | (simp only [hg5, bL8]; done) | (simp_all; done) | (simp_all; omega)), trivial⟩, unw_take 15 rfl rfl⟩
 rintro _ jr1 w1 M
 refine wc_ret ?_
 exact out1 rfl rfl ⟨_, _, rfl, M.grow, rfl⟩
theorem valid1_c {t : Tra} {fu au : SV} {b : Nat} (x : Int) {I : Heap} {w : World} (hI : hle I (hp w)) (Hb : I b = some (.cells ([.int .i64 t.states, .int .i64 t.start, sv fu, sv au] : List Value).toArray 25 (0, 0))) : Calls A 31 #[.int .i64 x, .pointer (some ⟨b, 0, none⟩)] w (Ret w I fun v _ => v = .bool (inR x t.states)) := by
 have M := Mem.start hI
 refine enter Try.func31 rfl 12 Try.ntmps31 [_, _] rfl ?_
 refine wc_seq <| wc_region <| wl_as M rfl rfl <| wl_nil ?_
 refine wc_seq ?_
 refine wc_join (α := Unit) [3, 4, 5, 6, 7, 8, 9, 10, 11] (fun _ => [(3, .bool ((decide (0 ≤ x)) && (decide (x < t.states))))]) (fun _ w' => Mem w I I ([]) w') ?_ ?_
 ·refine wc_region <| wl_mv M rfl rfl <| wl_m M (q_geq rfl rfl) rfl rfl <| wl_mv M rfl rfl ?_
  rcases Bool.eq_false_or_eq_true (decide (0 ≤ x)) with hg6 | hg6
  ·refine wl_m M (q_guard 2 rfl rfl rfl hg6 (q_move rfl)) rfl rfl <| wl_m M (q_guard 2 rfl rfl rfl hg6 (q_fa fo_25_0 rfl)) rfl rfl <| wl_m M (q_guard 2 rfl rfl rfl hg6 (q_ldbI Hb Try.underlying3 rfl rfl rfl)) rfl rfl <| wl_m M (q_guard 2 rfl rfl rfl hg6 (q_lss rfl rfl)) rfl rfl <| wl_m M (q_pickT rfl hg6 rfl) rfl rfl <| wl_as M rfl rfl <| wl_nil ?_
   exact ⟨(), M, ⟨(show some (Value.bool (decide (x < t.states))) = some (Value.bool ((decide (0 ≤ x)) && (decide (x < t.states)))) from by first | (simp only [hg6, bL8]; done) | (simp_all; done) | (simp_all; omega)), trivial⟩, unw_take 9 rfl rfl⟩
  refine wl_m M (q_off 2 rfl rfl rfl hg6) rfl rfl <| wl_m M (q_off 2 rfl rfl rfl hg6) rfl rfl <| wl_m M (q_off 2 rfl rfl rfl hg6) rfl rfl <| wl_m M (q_off 2 rfl rfl rfl hg6) rfl rfl <| wl_m M (q_pickF rfl hg6 rfl) rfl rfl <| wl_as M rfl rfl <| wl_nil ?_
  exact ⟨(), M, ⟨(show some (Value.bool false) = some (Value.bool ((decide (0 ≤ x)) && (decide (x < t.states)))) from by first | (simp only [hg6, bL8]; done) | (simp_all; done) | (simp_all; omega)), trivial⟩, unw_take 9 rfl rfl⟩
 rintro _ jr1 w1 M
 refine wc_ret ?_
 exact out1 rfl rfl ⟨_, _, rfl, M.grow, rfl⟩
theorem valid_c (t : Tra) {v : Value} {I : Heap} {w : World} (hI : hle I (hp w)) (R : t.rd I v) : Calls A 11 #[v] w (Ret w I fun r _ => r = .bool (validT t)) := by
 obtain ⟨fu, au, rfl, Rf, Ra⟩ := R
 have M := Mem.start hI
 refine enter Try.func11 rfl 86 Try.ntmps11 [_] rfl ?_
 refine wc_seq <| wc_region <| wl_e (e_box M rfl) rfl rfl ?_
 rintro _ w1 ⟨b1, rfl, M⟩
 refine wl_as M rfl rfl <| wl_nil ?_
 refine wc_seq ?_
 refine wc_seq ?_
 refine wc_join (α := Unit) [8, 9, 10, 11, 12, 13, 14, 15, 16, 17, 18, 19, 20, 21] (fun _ => [(21, .bool (((decide (t.states < 1)) || (decide (512 < t.states))) || (decide (4096 < (t.arcs.length : Int)))))]) (fun _ w' => Mem w I I (box b1 25 [.int .i64 t.states, .int .i64 t.start, sv fu, sv au] :: []) w') ?_ ?_
 ·refine wc_region <| wl_m M (q_fa fo_25_0 rfl) rfl rfl <| wl_m M (q_ldb 0 Try.underlying3 rfl rfl rfl rfl) rfl rfl <| wl_m M (q_lss rfl rfl) rfl rfl <| wl_mv M rfl rfl ?_
  rcases Bool.eq_false_or_eq_true (decide (t.states < 1)) with hg11 | hg11
  ·refine wl_m M (q_off 3 rfl rfl rfl hg11) rfl rfl <| wl_m M (q_off 3 rfl rfl rfl hg11) rfl rfl <| wl_m M (q_off 3 rfl rfl rfl hg11) rfl rfl <| wl_m M (q_pickT rfl hg11 rfl) rfl rfl <| wl_mv M rfl rfl <| wl_m M (q_off 8 rfl rfl rfl rfl) rfl rfl <| wl_m M (q_off 8 rfl rfl rfl rfl) rfl rfl <| wl_m M (q_off 8 rfl rfl rfl rfl) rfl rfl <| wl_m M (q_off 8 rfl rfl rfl rfl) rfl rfl <| wl_m M (q_pickT rfl rfl rfl) rfl rfl <| wl_nil ?_
   exact ⟨(), M, ⟨(show some (Value.bool true) = some (Value.bool (((decide (t.states < 1)) || (decide (512 < t.states))) || (decide (4096 < (t.arcs.length : Int))))) from by first | (simp only [hg11, bL8]; done) | (simp_all; done) | (simp_all; omega)), trivial⟩, unw_take 14 rfl rfl⟩
  refine wl_m M (q_guard 3 rfl rfl rfl hg11 (q_fa fo_25_0 rfl)) rfl rfl <| wl_m M (q_guard 3 rfl rfl rfl hg11 (q_ldb 0 Try.underlying3 rfl rfl rfl rfl)) rfl rfl <| wl_m M (q_guard 3 rfl rfl rfl hg11 (q_gtr rfl rfl)) rfl rfl <| wl_m M (q_pickF rfl hg11 rfl) rfl rfl <| wl_mv M rfl rfl ?_
  rcases Bool.eq_false_or_eq_true (decide (512 < t.states)) with hg16 | hg16
  ·refine wl_m M (q_off 8 rfl rfl rfl hg16) rfl rfl <| wl_m M (q_off 8 rfl rfl rfl hg16) rfl rfl <| wl_m M (q_off 8 rfl rfl rfl hg16) rfl rfl <| wl_m M (q_off 8 rfl rfl rfl hg16) rfl rfl <| wl_m M (q_pickT rfl hg16 rfl) rfl rfl <| wl_nil ?_
   exact ⟨(), M, ⟨(show some (Value.bool true) = some (Value.bool (((decide (t.states < 1)) || (decide (512 < t.states))) || (decide (4096 < (t.arcs.length : Int))))) from by first | (simp only [hg11, hg16, bL8]; done) | (simp_all; done) | (simp_all; omega)), trivial⟩, unw_take 14 rfl rfl⟩
  refine wl_m M (q_guard 8 rfl rfl rfl hg16 (q_fa fo_25_3 rfl)) rfl rfl <| wl_m M (q_guard 8 rfl rfl rfl hg16 (q_ldb 0 Try.underlying23 rfl rfl rfl rfl)) rfl rfl <| wl_m M (q_guard 8 rfl rfl rfl hg16 (q_lenR Ra Try.underlying23 rfl)) rfl rfl <| wl_m M (q_guard 8 rfl rfl rfl hg16 (q_gtr rfl rfl)) rfl rfl <| wl_m M (q_pickF rfl hg16 rfl) rfl rfl <| wl_nil ?_
  exact ⟨(), M, ⟨(show some (Value.bool (decide (4096 < (t.arcs.length : Int)))) = some (Value.bool (((decide (t.states < 1)) || (decide (512 < t.states))) || (decide (4096 < (t.arcs.length : Int))))) from by first | (simp only [hg11, hg16, bL8]; done) | (simp_all; done) | (simp_all; omega)), trivial⟩, unw_take 14 rfl rfl⟩
 rintro _ jr1 w2 M
 refine wc_cond rfl (fun ht21 => ?_) (fun ht21 => ?_)
 ·refine wc_seq <| wc_region <| wl_as M rfl rfl <| wl_nil <| wc_ret ?_
  exact out1 rfl rfl ⟨_, _, rfl, M.grow, by rw [validT, ht21]; rfl⟩
 refine wc_skip ?_
 refine wc_seq ?_
 obtain ⟨I9, M, hI9, Hb⟩ := M.frzBox 0 rfl
 have hoI9 := M.old
 refine wc_region <| wl_m M (q_makeFunc (vs := [.pointer (some ⟨b1, 0, none⟩)]) rfl) rfl rfl <| wl_as M rfl rfl <| wl_nil ?_
 refine wc_seq ?_
 refine wc_seq <| wc_region <| wl_m M (q_fa fo_25_2 rfl) rfl rfl <| wl_m M (q_ldbI Hb Try.underlying22 rfl rfl rfl) rfl rfl <| wl_m M (q_lenR (Rf.mono hI9) Try.underlying22 rfl) rfl rfl <| wl_mv M rfl rfl <| wl_nil <| wc_block ?_
 refine wc_loop (α := Nat) [2, 4, 5, 26, 27, 28, 29, 30, 31, 32, 33, 34, 35, 36, 37, 38, 39, 40, 41, 42, 43, 44, 45, 46, 47, 48, 49] (fun (k0 : Nat) => [(26, .int .i64 (k0 : Int))])
   (fun (k0 : Nat) w' => (k0 ≤ t.finals.length) ∧ ((List.range k0).all (finAt t.states t.finals) = true) ∧ Mem w I I9 ([]) w')
   (fun (k0 : Nat) => t.finals.length - k0) (0) ⟨rfl, trivial⟩ ?_ ?_
 ·refine ⟨Nat.zero_le _, rfl, ?_⟩
  exact M
 rintro k0 jj0 w3 ⟨hk0, hf, M⟩
 have hoI9 := M.old
 refine wc_seq <| wc_region <| wl_m M (q_lss rfl rfl) rfl rfl <| wl_nil ?_
 refine wc_seq ?_
 refine wc_dec rfl (fun ht27 => ?_) (fun ht27 => ?_)
 ·obtain ⟨x0, hx0⟩ : ∃ x_, t.finals[k0]? = some x_ := ⟨_, List.getElem?_eq_getElem (by omega)⟩
  have hll0 := ((Rf.mono hI9)).len_le
  refine wc_skip ?_
  refine wc_seq <| wc_block ?_
  refine wc_seq <| wc_region <| wl_mv M rfl rfl ?_
  refine wl_ix (j := k0) M (Rf.mono hI9) Try.underlying22 rfl rfl hx0 rfl (fun b29 o29 p29 => ?_)
  refine wl_m M (q_ldp p29 rfl rfl) rfl rfl <| wl_as M rfl rfl <| wl_as M rfl rfl <| wl_nil ?_
  refine wc_seq ?_
  refine wc_join (α := Unit) [31, 32, 33, 34, 35, 36, 37, 38, 39, 40, 41, 42, 43, 44, 45, 46, 47, 48] (fun _ => [(48, .bool ((!(inR x0 t.states)) || ((decide (0 < (k0 : Int))) && (decide (x0 ≤ (t.finals.getD (k0 - 1) 0))))))]) (fun _ w' => Mem w I I9 ([]) w') ?_ ?_
  ·refine wc_region <| wl_mv M rfl rfl <| wl_mv M rfl rfl <| wl_e (e_callVC (vs := [.int .i64 x0]) (caps := [.pointer (some ⟨b1, 0, none⟩)]) M (valid1_c (t := t) x0 M.imm Hb) Try.func31 rfl rfl rfl) rfl rfl ?_
   rintro _ w4 ⟨J33, hJ33, rfl, M⟩
   replace M := M.less hJ33 hoI9
   refine wl_m M (q_not rfl) rfl rfl <| wl_mv M rfl rfl ?_
   rcases Bool.eq_false_or_eq_true (!(inR x0 t.states)) with hg35 | hg35
   ·refine wl_m M (q_off 4 rfl rfl rfl hg35) rfl rfl <| wl_m M (q_off 4 rfl rfl rfl hg35) rfl rfl <| wl_m M (q_off 4 rfl rfl rfl hg35) rfl rfl <| wl_m M (q_offu 7 rfl rfl rfl) rfl rfl <| wl_m M (q_offu 7 rfl rfl rfl) rfl rfl <| wl_m M (q_offu 7 rfl rfl rfl) rfl rfl <| wl_m M (q_offu 7 rfl rfl rfl) rfl rfl <| wl_m M (q_offu 7 rfl rfl rfl) rfl rfl <| wl_m M (q_offu 7 rfl rfl rfl) rfl rfl <| wl_m M (q_offu 7 rfl rfl rfl) rfl rfl <| wl_m M (q_offu 7 rfl rfl rfl) rfl rfl <| wl_m M (q_off 4 rfl rfl rfl hg35) rfl rfl <| wl_m M (q_pickT rfl hg35 rfl) rfl rfl ?_
    refine wl_nil ?_
    exact ⟨(), M, ⟨(show some (Value.bool true) = some (Value.bool ((!(inR x0 t.states)) || ((decide (0 < (k0 : Int))) && (decide (x0 ≤ (t.finals.getD (k0 - 1) 0)))))) from by first | (simp only [hg35, bL8]; done) | (simp_all; done) | (simp_all; omega)), trivial⟩, unw_take 18 rfl rfl⟩
   refine wl_m M (q_guard 4 rfl rfl rfl hg35 (q_move rfl)) rfl rfl <| wl_m M (q_guard 4 rfl rfl rfl hg35 (q_gtr rfl rfl)) rfl rfl <| wl_m M (q_guard 4 rfl rfl rfl hg35 (q_move rfl)) rfl rfl ?_
   rcases Bool.eq_false_or_eq_true (decide (0 < (k0 : Int))) with hg38 | hg38
   ·refine wl_m M (q_guard 7 rfl rfl rfl hg38 (q_fa fo_25_2 rfl)) rfl rfl <| wl_m M (q_guard 7 rfl rfl rfl hg38 (q_ldbI Hb Try.underlying22 rfl rfl rfl)) rfl rfl <| wl_m M (q_guard 7 rfl rfl rfl hg38 (q_move rfl)) rfl rfl <| wl_m M (q_guard 7 rfl rfl rfl hg38 (q_sub rfl rfl (IntWalk.i64_in _ (by omega)))) rfl rfl ?_
    have hk38 : 0 < k0 := by have := of_decide_eq_true hg38; omega
    refine wl_ixG (j := (k0 - 1)) 7 rfl rfl rfl hg38 M (Rf.mono hI9) Try.underlying22 rfl (ixe (by omega)) (getD_at (d := 0) (by omega)) rfl (fun b43 o43 p43 => ?_)
    refine wl_m M (q_guard 7 rfl rfl rfl hg38 (q_ldp p43 rfl rfl)) rfl rfl <| wl_m M (q_guard 7 rfl rfl rfl hg38 (q_move rfl)) rfl rfl <| wl_m M (q_guard 7 rfl rfl rfl hg38 (q_geq rfl rfl)) rfl rfl <| wl_m M (q_guard 4 rfl rfl rfl hg35 (q_pickT rfl hg38 rfl)) rfl rfl <| wl_m M (q_pickF rfl hg35 rfl) rfl rfl <| wl_nil ?_
    exact ⟨(), M, ⟨(show some (Value.bool (decide (x0 ≤ (t.finals.getD (k0 - 1) 0)))) = some (Value.bool ((!(inR x0 t.states)) || ((decide (0 < (k0 : Int))) && (decide (x0 ≤ (t.finals.getD (k0 - 1) 0)))))) from by first | (simp only [hg35, hg38, bL8]; done) | (simp_all; done) | (simp_all; omega)), trivial⟩, unw_take 18 rfl rfl⟩
   refine wl_m M (q_off 7 rfl rfl rfl hg38) rfl rfl <| wl_m M (q_off 7 rfl rfl rfl hg38) rfl rfl <| wl_m M (q_off 7 rfl rfl rfl hg38) rfl rfl <| wl_m M (q_off 7 rfl rfl rfl hg38) rfl rfl <| wl_m M (q_off 7 rfl rfl rfl hg38) rfl rfl <| wl_m M (q_off 7 rfl rfl rfl hg38) rfl rfl <| wl_m M (q_off 7 rfl rfl rfl hg38) rfl rfl <| wl_m M (q_off 7 rfl rfl rfl hg38) rfl rfl <| wl_m M (q_guard 4 rfl rfl rfl hg35 (q_pickF rfl hg38 rfl)) rfl rfl <| wl_m M (q_pickF rfl hg35 rfl) rfl rfl <| wl_nil ?_
   exact ⟨(), M, ⟨(show some (Value.bool false) = some (Value.bool ((!(inR x0 t.states)) || ((decide (0 < (k0 : Int))) && (decide (x0 ≤ (t.finals.getD (k0 - 1) 0)))))) from by first | (simp only [hg35, hg38, bL8]; done) | (simp_all; done) | (simp_all; omega)), trivial⟩, unw_take 18 rfl rfl⟩
  rintro _ jr7 w5 M
  refine wc_cond rfl (fun ht48 => ?_) (fun ht48 => ?_)
  ·refine wc_seq <| wc_region <| wl_as M rfl rfl <| wl_nil <| wc_ret ?_
   exact out1 rfl rfl ⟨_, _, rfl, M.grow, by rw [validT, all_range_false (k := k0) (by omega) (by rw [finAt_of hx0, ht48]; rfl)]; simp⟩
  refine wc_skip <| wc_region <| wl_m M (q_add rfl rfl (IntWalk.i64_in _ (by omega))) rfl rfl ?_
  refine wl_mv M rfl rfl <| wl_nil ?_
  refine ⟨(k0 + 1), ?_, ⟨(by omega), (all_range_succ hf (by rw [finAt_of hx0, ht48]; rfl)), M⟩, ⟨rfl, trivial⟩, unw_look rfl (unw_hav rfl (unw_look rfl unw_base))⟩
  show t.finals.length - (k0 + 1) < t.finals.length - k0
  omega
 have hke0 : k0 = t.finals.length := by omega
 rw [hke0] at hf
 refine wc_exit rfl ?_
 refine wc_seq ?_
 refine wc_seq <| wc_region <| wl_m M (q_fa fo_25_3 rfl) rfl rfl <| wl_m M (q_ldbI Hb Try.underlying23 rfl rfl rfl) rfl rfl <| wl_m M (q_lenR (Ra.mono hI9) Try.underlying23 rfl) rfl rfl <| wl_mv M rfl rfl <| wl_nil <| wc_block ?_
 refine wc_loop (α := Nat) [2, 7, 53, 54, 55, 56, 57, 58, 59, 60, 61, 62, 63, 64, 65, 66, 67, 68, 69, 70, 71, 72, 73, 74, 75, 76, 77, 78, 79, 80, 81] (fun (k2 : Nat) => [(53, .int .i64 (k2 : Int))])
   (fun (k2 : Nat) w' => (k2 ≤ t.arcs.length) ∧ ((t.arcs.take k2).all (arcOk t.states) = true) ∧ Mem w I I9 ([]) w')
   (fun (k2 : Nat) => t.arcs.length - k2) (0) ⟨rfl, trivial⟩ ?_ ?_
 ·refine ⟨Nat.zero_le _, rfl, ?_⟩
  exact M
 rintro k2 jj2 w6 ⟨hk2, ha, M⟩
 have hoI9 := M.old
 refine wc_seq <| wc_region <| wl_m M (q_lss rfl rfl) rfl rfl <| wl_nil ?_
 refine wc_seq ?_
 refine wc_dec rfl (fun ht54 => ?_) (fun ht54 => ?_)
 ·obtain ⟨x2, hx2⟩ : ∃ x_, t.arcs[k2]? = some x_ := ⟨_, List.getElem?_eq_getElem (by omega)⟩
  have hll2 := ((Ra.mono hI9)).len_le
  refine wc_skip ?_
  refine wc_seq <| wc_block ?_
  refine wc_seq <| wc_region ?_
  refine wl_ix (j := k2) M (Ra.mono hI9) Try.underlying23 rfl rfl hx2 rfl (fun b55 o55 p55 => ?_)
  refine wl_m M (q_ldp p55 rfl rfl) rfl rfl <| wl_e (e_alloc M z50) rfl rfl ?_
  rintro _ w7 ⟨b7, rfl, M⟩
  refine wl_e0 (e_stW 0 M rfl rfl rfl sz50 rfl rfl) rfl ?_
  intro _ w8 M
  simp only [sC0, sCS] at M
  refine wl_nil ?_
  refine wc_seq ?_
  refine wc_join (α := Unit) [57, 58, 59, 60, 61, 62, 63, 64, 65, 66, 67, 68, 69, 70, 71, 72, 73, 74, 75, 76, 77, 78, 79, 80] (fun _ => [(80, .bool ((((!(inR x2.src t.states)) || (!(inR x2.dst t.states))) || (!(vRune x2.inp))) || (!(vRune x2.out))))]) (fun _ w' => Mem w I I9 (box b7 50 [.int .i64 x2.src, .int .i64 x2.dst, .int .i32 x2.inp, .int .i32 x2.out] :: []) w') ?_ ?_
  ·refine wc_region <| wl_mv M rfl rfl <| wl_m M (q_fa fo_50_0 rfl) rfl rfl <| wl_m M (q_ldb 0 Try.underlying3 rfl rfl rfl rfl) rfl rfl <| wl_e (e_callVC (vs := [.int .i64 x2.src]) (caps := [.pointer (some ⟨b1, 0, none⟩)]) M (valid1_c (t := t) x2.src M.imm Hb) Try.func31 rfl rfl rfl) rfl rfl ?_
   rintro _ w9 ⟨J60, hJ60, rfl, M⟩
   replace M := M.less hJ60 hoI9
   refine wl_m M (q_not rfl) rfl rfl <| wl_mv M rfl rfl ?_
   rcases Bool.eq_false_or_eq_true (!(inR x2.src t.states)) with hg62 | hg62
   ·refine wl_m M (q_off 5 rfl rfl rfl hg62) rfl rfl <| wl_m M (q_off 5 rfl rfl rfl hg62) rfl rfl <| wl_m M (q_off 5 rfl rfl rfl hg62) rfl rfl <| wl_m M (q_off 5 rfl rfl rfl hg62) rfl rfl <| wl_m M (q_off 5 rfl rfl rfl hg62) rfl rfl <| wl_m M (q_pickT rfl hg62 rfl) rfl rfl <| wl_mv M rfl rfl <| wl_m M (q_off 12 rfl rfl rfl rfl) rfl rfl <| wl_m M (q_off 12 rfl rfl rfl rfl) rfl rfl <| wl_m M (q_off 12 rfl rfl rfl rfl) rfl rfl <| wl_m M (q_off 12 rfl rfl rfl rfl) rfl rfl <| wl_m M (q_pickT rfl rfl rfl) rfl rfl <| wl_mv M rfl rfl ?_
    refine wl_m M (q_off 18 rfl rfl rfl rfl) rfl rfl <| wl_m M (q_off 18 rfl rfl rfl rfl) rfl rfl <| wl_m M (q_off 18 rfl rfl rfl rfl) rfl rfl <| wl_m M (q_off 18 rfl rfl rfl rfl) rfl rfl <| wl_m M (q_pickT rfl rfl rfl) rfl rfl <| wl_nil ?_
    exact ⟨(), M, ⟨(show some (Value.bool true) = some (Value.bool ((((!(inR x2.src t.states)) || (!(inR x2.dst t.states))) || (!(vRune x2.inp))) || (!(vRune x2.out)))) from by first | (simp only [hg62, bL8]; done) | (simp_all; done) | (simp_all; omega)), trivial⟩, unw_take 24 rfl rfl⟩
   refine wl_m M (q_guard 5 rfl rfl rfl hg62 (q_move rfl)) rfl rfl <| wl_m M (q_guard 5 rfl rfl rfl hg62 (q_fa fo_50_1 rfl)) rfl rfl <| wl_m M (q_guard 5 rfl rfl rfl hg62 (q_ldb 0 Try.underlying3 rfl rfl rfl rfl)) rfl rfl <| wl_e (e_guard 5 rfl rfl rfl hg62 (e_callVC (vs := [.int .i64 x2.dst]) (caps := [.pointer (some ⟨b1, 0, none⟩)]) M (valid1_c (t := t) x2.dst M.imm Hb) Try.func31 rfl rfl rfl)) rfl rfl ?_
   rintro _ w10 ⟨J66, hJ66, rfl, M⟩
   replace M := M.less hJ66 hoI9
   refine wl_m M (q_guard 5 rfl rfl rfl hg62 (q_not rfl)) rfl rfl <| wl_m M (q_pickF rfl hg62 rfl) rfl rfl <| wl_mv M rfl rfl ?_
   rcases Bool.eq_false_or_eq_true (!(inR x2.dst t.states)) with hg69 | hg69
   ·refine wl_m M (q_off 12 rfl rfl rfl hg69) rfl rfl <| wl_m M (q_off 12 rfl rfl rfl hg69) rfl rfl <| wl_m M (q_off 12 rfl rfl rfl hg69) rfl rfl <| wl_m M (q_off 12 rfl rfl rfl hg69) rfl rfl <| wl_m M (q_pickT rfl hg69 rfl) rfl rfl <| wl_mv M rfl rfl <| wl_m M (q_off 18 rfl rfl rfl rfl) rfl rfl <| wl_m M (q_off 18 rfl rfl rfl rfl) rfl rfl <| wl_m M (q_off 18 rfl rfl rfl rfl) rfl rfl <| wl_m M (q_off 18 rfl rfl rfl rfl) rfl rfl <| wl_m M (q_pickT rfl rfl rfl) rfl rfl <| wl_nil ?_
    exact ⟨(), M, ⟨(show some (Value.bool true) = some (Value.bool ((((!(inR x2.src t.states)) || (!(inR x2.dst t.states))) || (!(vRune x2.inp))) || (!(vRune x2.out)))) from by first | (simp only [hg62, hg69, bL8]; done) | (simp_all; done) | (simp_all; omega)), trivial⟩, unw_take 24 rfl rfl⟩
   refine wl_m M (q_guard 12 rfl rfl rfl hg69 (q_fa fo_50_2 rfl)) rfl rfl <| wl_m M (q_guard 12 rfl rfl rfl hg69 (q_ldb 0 Try.underlying21 rfl rfl rfl rfl)) rfl rfl <| wl_e (e_guard 12 rfl rfl rfl hg69 (e_callC M (validRune_c x2.inp M.imm) Try.func32 rfl rfl)) rfl rfl ?_
   rintro _ w11 ⟨J72, hJ72, rfl, M⟩
   replace M := M.less hJ72 hoI9
   refine wl_m M (q_guard 12 rfl rfl rfl hg69 (q_not rfl)) rfl rfl <| wl_m M (q_pickF rfl hg69 rfl) rfl rfl <| wl_mv M rfl rfl ?_
   rcases Bool.eq_false_or_eq_true (!(vRune x2.inp)) with hg75 | hg75
   ·refine wl_m M (q_off 18 rfl rfl rfl hg75) rfl rfl <| wl_m M (q_off 18 rfl rfl rfl hg75) rfl rfl <| wl_m M (q_off 18 rfl rfl rfl hg75) rfl rfl <| wl_m M (q_off 18 rfl rfl rfl hg75) rfl rfl <| wl_m M (q_pickT rfl hg75 rfl) rfl rfl <| wl_nil ?_
    exact ⟨(), M, ⟨(show some (Value.bool true) = some (Value.bool ((((!(inR x2.src t.states)) || (!(inR x2.dst t.states))) || (!(vRune x2.inp))) || (!(vRune x2.out)))) from by first | (simp only [hg62, hg69, hg75, bL8]; done) | (simp_all; done) | (simp_all; omega)), trivial⟩, unw_take 24 rfl rfl⟩
   refine wl_m M (q_guard 18 rfl rfl rfl hg75 (q_fa fo_50_3 rfl)) rfl rfl <| wl_m M (q_guard 18 rfl rfl rfl hg75 (q_ldb 0 Try.underlying21 rfl rfl rfl rfl)) rfl rfl <| wl_e (e_guard 18 rfl rfl rfl hg75 (e_callC M (validRune_c x2.out M.imm) Try.func32 rfl rfl)) rfl rfl ?_
   rintro _ w12 ⟨J78, hJ78, rfl, M⟩
   replace M := M.less hJ78 hoI9
   refine wl_m M (q_guard 18 rfl rfl rfl hg75 (q_not rfl)) rfl rfl <| wl_m M (q_pickF rfl hg75 rfl) rfl rfl <| wl_nil ?_
   exact ⟨(), M, ⟨(show some (Value.bool (!(vRune x2.out))) = some (Value.bool ((((!(inR x2.src t.states)) || (!(inR x2.dst t.states))) || (!(vRune x2.inp))) || (!(vRune x2.out)))) from by first | (simp only [hg62, hg69, hg75, bL8]; done) | (simp_all; done) | (simp_all; omega)), trivial⟩, unw_take 24 rfl rfl⟩
  rintro _ jr13 w13 M
  refine wc_cond rfl (fun ht80 => ?_) (fun ht80 => ?_)
  ·refine wc_seq <| wc_region <| wl_as M rfl rfl <| wl_nil <| wc_ret ?_
   exact out1 rfl rfl ⟨_, _, rfl, M.grow, by rw [validT, all_false_at (f := arcOk t.states) hx2 (by rw [arcOk, ht80]; rfl)]; simp⟩
  refine wc_skip <| wc_region <| wl_m M (q_add rfl rfl (IntWalk.i64_in _ (by omega))) rfl rfl ?_
  refine wl_mv M rfl rfl <| wl_nil ?_
  replace M := M.drop 0
  refine ⟨(k2 + 1), ?_, ⟨(by omega), (all_take_succ hx2 ha (by rw [arcOk, ht80]; rfl)), M⟩, ⟨rfl, trivial⟩, unw_look rfl (unw_hav rfl (unw_look rfl unw_base))⟩
  show t.arcs.length - (k2 + 1) < t.arcs.length - k2
  omega
 have hke2 : k2 = t.arcs.length := by omega
 rw [hke2, List.take_length] at ha
 refine wc_exit rfl ?_
 refine wc_seq <| wc_region <| wl_mv M rfl rfl <| wl_m M (q_fa fo_25_1 rfl) rfl rfl <| wl_m M (q_ldbI Hb Try.underlying3 rfl rfl rfl) rfl rfl <| wl_e (e_callVC (vs := [.int .i64 t.start]) (caps := [.pointer (some ⟨b1, 0, none⟩)]) M (valid1_c (t := t) t.start M.imm Hb) Try.func31 rfl rfl rfl) rfl rfl ?_
 rintro _ w14 ⟨J85, hJ85, rfl, M⟩
 replace M := M.less hJ85 hoI9
 refine wl_as M rfl rfl <| wl_nil <| wc_ret ?_
 exact out1 rfl rfl ⟨_, _, rfl, M.grow, by rw [validT, ht21, hf, ha]; rfl⟩
end Go.Proofs.Ytfepjcmjkaolgaa.G
