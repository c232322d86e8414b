/- Walks of the program's functions. -/
import Derived.Test.YtfepjcmjkaolgaaGTr3
import Derived.Test.YtfepjcmjkaolgaaWE
set_option linter.all false
namespace Go.Proofs.Ytfepjcmjkaolgaa.G
open Go Go.RowKit
end Go.Proofs.Ytfepjcmjkaolgaa.G

set_option linter.all false
namespace Go.Proofs.Ytfepjcmjkaolgaa.G
open Go Go.RowKit
theorem final3_c (t : Tra) (x : Int) {v1 : Value} {I : Heap} {w : World} (hI : hle I (hp w)) (R1 : t.rd I v1) : Calls A 28 #[v1, .int .i64 x] w (Ret w I fun r _ => r = .bool (decide (x ∈ t.finals))) := by
 obtain ⟨fu1, au1, rfl, Rf1, Ra1⟩ := R1
 have hlf := Rf1.len_le
 have M := Mem.start hI
 refine enter Try.func28 rfl 20 Try.ntmps28 [_, _] rfl ?_
 refine wc_seq <| wc_region <| wl_e (e_box M rfl) rfl rfl ?_
 rintro _ w1 ⟨b2, rfl, M⟩
 refine wl_as M rfl rfl <| wl_nil ?_
 refine wc_seq ?_
 refine wc_seq <| wc_region <| wl_as M rfl rfl <| wl_nil <| wc_block ?_
 refine wc_loop (α := Nat) [4, 5, 6, 7, 8, 9, 10, 11, 12, 13, 14, 15, 16, 17, 18, 19] (fun (k0 : Nat) => [(5, .int .i64 (k0 : Int))])
   (fun (k0 : Nat) w' => (k0 ≤ t.finals.length) ∧ (x ∉ t.finals.take k0) ∧ Mem w I I (box b2 25 [.int .i64 t.states, .int .i64 t.start, sv fu1, sv au1] :: []) w')
   (fun (k0 : Nat) => t.finals.length - k0) (0) ⟨rfl, trivial⟩ ?_ ?_
 ·refine ⟨Nat.zero_le _, (by simp), ?_⟩
  exact M
 rintro k0 jj0 w2 ⟨hk0, hno, M⟩
 refine wc_seq ?_
 refine wc_seq <| wc_region <| wl_mv M rfl rfl <| wl_m M (q_fa fo_25_2 rfl) rfl rfl <| wl_m M (q_ldb 0 Try.underlying22 rfl rfl rfl rfl) rfl rfl <| wl_m M (q_lenR Rf1 Try.underlying22 rfl) rfl rfl <| wl_m M (q_lss rfl rfl) rfl rfl <| wl_nil ?_
 refine wc_dec rfl (fun ht10 => ?_) (fun ht10 => ?_)
 ·obtain ⟨x0, hx0⟩ : ∃ x_, t.finals[k0]? = some x_ := ⟨_, List.getElem?_eq_getElem (by omega)⟩
  refine wc_skip ?_
  refine wc_seq <| wc_block ?_
  refine wc_seq <| wc_region <| wl_m M (q_fa fo_25_2 rfl) rfl rfl <| wl_m M (q_ldb 0 Try.underlying22 rfl rfl rfl rfl) rfl rfl <| wl_mv M rfl rfl ?_
  refine wl_ix (j := k0) M Rf1 Try.underlying22 rfl rfl hx0 rfl (fun b16 o16 p16 => ?_)
  refine wl_m M (q_ldp p16 rfl rfl) rfl rfl <| wl_mv M rfl rfl <| wl_m M (q_eql rfl rfl) rfl rfl <| wl_nil ?_
  refine wc_dec rfl (fun ht19 => ?_) (fun ht19 => ?_)
  ·refine wc_seq <| wc_region <| wl_as M rfl rfl <| wl_nil <| wc_ret ?_
   exact out1 rfl rfl ⟨_, _, rfl, M.grow, by rw [decide_eq_true (List.mem_of_getElem? (ht19 ▸ hx0))]⟩
  refine wc_skip <| wc_region <| wl_mv M rfl rfl <| wl_m M (q_add rfl rfl (IntWalk.i64_in _ (by omega))) rfl rfl ?_
  refine wl_as M rfl rfl <| wl_nil ?_
  refine ⟨(k0 + 1), ?_, ⟨(by omega), (by rw [take_snoc hx0, List.mem_append, List.mem_singleton]; exact fun h => h.elim hno fun e => ht19 e.symm), M⟩, ⟨rfl, trivial⟩, unw_look rfl unw_base⟩
  show t.finals.length - (k0 + 1) < t.finals.length - k0
  omega
 have hke0 : k0 = t.finals.length := by omega
 rw [hke0, List.take_length] at hno
 refine wc_exit rfl ?_
 refine wc_seq <| wc_region <| wl_as M rfl rfl <| wl_nil <| wc_ret ?_
 exact out1 rfl rfl ⟨_, _, rfl, M.grow, by rw [decide_eq_false hno]⟩
end Go.Proofs.Ytfepjcmjkaolgaa.G
