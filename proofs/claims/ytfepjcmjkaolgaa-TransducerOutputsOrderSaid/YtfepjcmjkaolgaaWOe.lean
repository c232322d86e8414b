/- Walks of the program's functions. -/
import Derived.Test.YtfepjcmjkaolgaaGLgr
import Derived.Test.YtfepjcmjkaolgaaWOd
set_option linter.all false
namespace Go.Proofs.Ytfepjcmjkaolgaa.G
open Go Go.RowKit
theorem outF_c {cs : List TCfg} {ut : SV} {bs bq : Nat} (c : TCfg) {I : Heap} {w : World} (hI : hle I (hp w)) (Hq : I bq = some (.cells ([sv ut, .map (some bs)] : List Value).toArray 72 (0, 0))) (Rs : rdMp QTCfg Value.bool I (.map (some bs)) (tr cs)) : Calls A 45 #[ETCfg.val c, .pointer (some ⟨bq, 0, none⟩)] w (Ret w I fun r _ => r = .bool (decide (c ∈ cs))) := by
 have M := Mem.start hI
 refine enter Try.func45 rfl 8 Try.ntmps45 [_, _] rfl ?_
 refine wc_seq <| wc_region <| wl_e (e_box M rfl) rfl rfl ?_
 rintro _ w1 ⟨b2, rfl, M⟩
 refine wl_as M rfl rfl <| wl_nil ?_
 refine wc_seq <| wc_region <| wl_m M (q_fa fo_72_1 rfl) rfl rfl <| wl_m M (q_ldbI Hq Try.underlying69 rfl rfl rfl) rfl rfl <| wl_m M (q_ldbA 0 Try.underlying58 rfl sz58 rfl rfl rfl rfl) rfl rfl <| wl_m M (q_lkI (k := c) (z := false) Rs Try.underlying69 zv4 rfl rfl) rfl rfl <| wl_as M rfl rfl <| wl_nil <| wc_ret ?_
 exact out1 rfl rfl ⟨_, _, rfl, M.grow, by rw [aget_tr]⟩
theorem indexF_c {es cs : List TCfg} {ut u : SV} {bs bq : Nat} {I : Heap} {w : World} (hI : hle I (hp w)) (Re : rdSl ETCfg I (sv u) es) (Hq : I bq = some (.cells ([sv ut, .map (some bs)] : List Value).toArray 72 (0, 0))) (Rs : rdMp QTCfg Value.bool I (.map (some bs)) (tr cs)) : Calls A 65 #[sv u, .func (.func 45) #[] #[.pointer (some ⟨bq, 0, none⟩)]] w (Ret w I fun r _ => ∃ i : Int, r = .int .i64 i ∧ decide (0 ≤ i) = es.any fun c => decide (c ∈ cs)) := by
 have M := Mem.start hI
 refine enter Try.func65 rfl 19 Try.ntmps65 [_, _] rfl ?_
 refine wc_seq <| wc_region <| wl_as M rfl rfl <| wl_nil ?_
 refine wc_seq ?_
 refine wc_seq <| wc_region <| wl_mv M rfl rfl <| wl_m M (q_lenR Re Try.underlying56 rfl) rfl rfl <| wl_mv M rfl rfl <| wl_nil <| wc_block ?_
 refine wc_loop (α := Nat) [4, 5, 8, 9, 10, 11, 12, 13, 14, 15, 16, 17, 18] (fun (k0 : Nat) => [(8, .int .i64 (k0 : Int))])
   (fun (k0 : Nat) w' => (k0 ≤ es.length) ∧ ((es.take k0).any (fun c => decide (c ∈ cs)) = false) ∧ Mem w I I ([]) w')
   (fun (k0 : Nat) => es.length - k0) (0) ⟨rfl, trivial⟩ ?_ ?_
 ·refine ⟨Nat.zero_le _, rfl, ?_⟩
  exact M
 rintro k0 jj0 w1 ⟨hk0, hno, M⟩
 refine wc_seq <| wc_region <| wl_m M (q_lss rfl rfl) rfl rfl <| wl_nil ?_
 refine wc_seq ?_
 refine wc_dec rfl (fun ht9 => ?_) (fun ht9 => ?_)
 ·obtain ⟨x0, hx0⟩ : ∃ x_, es[k0]? = some x_ := ⟨_, List.getElem?_eq_getElem (by omega)⟩
  have hll0 := (Re).len_le
  refine wc_skip ?_
  refine wc_seq <| wc_block ?_
  refine wc_seq <| wc_region <| wl_mv M rfl rfl <| wl_as M rfl rfl <| wl_nil ?_
  refine wc_seq <| wc_region <| wl_mv M rfl rfl <| wl_mv M rfl rfl <| wl_mv M rfl rfl ?_
  refine wl_ix (j := k0) M Re Try.underlying56 rfl rfl hx0 rfl (fun b14 o14 p14 => ?_)
  refine wl_m M (q_ldp p14 rfl rfl) rfl rfl <| wl_e (e_callVC (vs := [ETCfg.val x0]) (caps := [.pointer (some ⟨bq, 0, none⟩)]) M (outF_c x0 M.imm Hq Rs) Try.func45 rfl rfl rfl) rfl rfl ?_
  rintro _ w2 ⟨J16, hJ16, rfl, M⟩
  replace M := M.less hJ16 (fun _ _ => rfl)
  refine wl_nil ?_
  refine wc_cond rfl (fun ht16 => ?_) (fun ht16 => ?_)
  ·have hin : x0 ∈ cs := by simpa using ht16
   refine wc_seq <| wc_region <| wl_mv M rfl rfl <| wl_as M rfl rfl <| wl_nil <| wc_ret ?_
   exact out1 rfl rfl ⟨_, _, rfl, M.grow, _, rfl, by rw [decide_eq_true (by omega), eq_comm, List.any_eq_true]; exact ⟨x0, List.mem_of_getElem? hx0, by simpa using hin⟩⟩
  refine wc_skip <| wc_region <| wl_m M (q_add rfl rfl (IntWalk.i64_in _ (by omega))) rfl rfl ?_
  refine wl_mv M rfl rfl <| wl_nil ?_
  refine ⟨(k0 + 1), ?_, ⟨(by omega), (by rw [take_snoc hx0, List.any_append, hno]; simpa using ht16), M⟩, ⟨rfl, trivial⟩, unw_look rfl unw_base⟩
  show es.length - (k0 + 1) < es.length - k0
  omega
 have hke0 : k0 = es.length := by omega
 rw [hke0, List.take_length] at hno
 refine wc_exit rfl ?_
 refine wc_seq <| wc_region <| wl_as M rfl rfl <| wl_nil <| wc_ret ?_
 exact out1 rfl rfl ⟨_, _, rfl, M.grow, _, rfl, by rw [hno]; decide⟩
theorem containsF_c {es cs : List TCfg} {ut u : SV} {bs bq : Nat} {I : Heap} {w : World} (hI : hle I (hp w)) (Re : rdSl ETCfg I (sv u) es) (Hq : I bq = some (.cells ([sv ut, .map (some bs)] : List Value).toArray 72 (0, 0))) (Rs : rdMp QTCfg Value.bool I (.map (some bs)) (tr cs)) : Calls A 41 #[sv u, .func (.func 45) #[] #[.pointer (some ⟨bq, 0, none⟩)]] w (Ret w I fun r _ => r = .bool (es.any fun c => decide (c ∈ cs))) := by
 have M := Mem.start hI
 refine enter Try.func41 rfl 9 Try.ntmps41 [_, _] rfl ?_
 refine wc_seq <| wc_region <| wl_as M rfl rfl <| wl_nil ?_
 refine wc_seq <| wc_region <| wl_mv M rfl rfl <| wl_mv M rfl rfl <| wl_e (e_callC M (indexF_c M.imm Re Hq Rs) Try.func65 rfl rfl) rfl rfl ?_
 rintro _ w1 ⟨J7, hJ7, ⟨i7, rfl, hi7⟩, M⟩
 have hoJ7 := M.old
 refine wl_m M (q_geq rfl rfl) rfl rfl <| wl_as M rfl rfl <| wl_nil <| wc_ret ?_
 exact out1 rfl rfl ⟨_, _, rfl, M.grow, by rw [hi7]⟩
theorem outG_c {cs : List TCfg} {ut : SV} {bs bq : Nat} (c : TCfg) {I : Heap} {w : World} (hI : hle I (hp w)) (Hq : I bq = some (.cells ([sv ut, .map (some bs)] : List Value).toArray 72 (0, 0))) (Rs : rdMp QTCfg Value.bool I (.map (some bs)) (tr cs)) : Calls A 42 #[ETCfg.val c, .pointer (some ⟨bq, 0, none⟩)] w (Ret w I fun r _ => r = .bool (decide (c ∈ cs))) := by
 have M := Mem.start hI
 refine enter Try.func42 rfl 8 Try.ntmps42 [_, _] rfl ?_
 refine wc_seq <| wc_region <| wl_e (e_box M rfl) rfl rfl ?_
 rintro _ w1 ⟨b2, rfl, M⟩
 refine wl_as M rfl rfl <| wl_nil ?_
 refine wc_seq <| wc_region <| wl_m M (q_fa fo_72_1 rfl) rfl rfl <| wl_m M (q_ldbI Hq Try.underlying69 rfl rfl rfl) rfl rfl <| wl_m M (q_ldbA 0 Try.underlying58 rfl sz58 rfl rfl rfl rfl) rfl rfl <| wl_m M (q_lkI (k := c) (z := false) Rs Try.underlying69 zv4 rfl rfl) rfl rfl <| wl_as M rfl rfl <| wl_nil <| wc_ret ?_
 exact out1 rfl rfl ⟨_, _, rfl, M.grow, by rw [aget_tr]⟩
theorem indexG_c {es cs : List TCfg} {ut u : SV} {bs bq : Nat} {I : Heap} {w : World} (hI : hle I (hp w)) (Re : rdSl ETCfg I (sv u) es) (Hq : I bq = some (.cells ([sv ut, .map (some bs)] : List Value).toArray 72 (0, 0))) (Rs : rdMp QTCfg Value.bool I (.map (some bs)) (tr cs)) : Calls A 65 #[sv u, .func (.func 42) #[] #[.pointer (some ⟨bq, 0, none⟩)]] w (Ret w I fun r _ => ∃ i : Int, r = .int .i64 i ∧ decide (0 ≤ i) = es.any fun c => decide (c ∈ cs)) := by
 have M := Mem.start hI
 refine enter Try.func65 rfl 19 Try.ntmps65 [_, _] rfl ?_
 refine wc_seq <| wc_region <| wl_as M rfl rfl <| wl_nil ?_
 refine wc_seq ?_
 refine wc_seq <| wc_region <| wl_mv M rfl rfl <| wl_m M (q_lenR Re Try.underlying56 rfl) rfl rfl <| wl_mv M rfl rfl <| wl_nil <| wc_block ?_
 refine wc_loop (α := Nat) [4, 5, 8, 9, 10, 11, 12, 13, 14, 15, 16, 17, 18] (fun (k0 : Nat) => [(8, .int .i64 (k0 : Int))])
   (fun (k0 : Nat) w' => (k0 ≤ es.length) ∧ ((es.take k0).any (fun c => decide (c ∈ cs)) = false) ∧ Mem w I I ([]) w')
   (fun (k0 : Nat) => es.length - k0) (0) ⟨rfl, trivial⟩ ?_ ?_
 ·refine ⟨Nat.zero_le _, rfl, ?_⟩
  exact M
 rintro k0 jj0 w1 ⟨hk0, hno, M⟩
 refine wc_seq <| wc_region <| wl_m M (q_lss rfl rfl) rfl rfl <| wl_nil ?_
 refine wc_seq ?_
 refine wc_dec rfl (fun ht9 => ?_) (fun ht9 => ?_)
 ·obtain ⟨x0, hx0⟩ : ∃ x_, es[k0]? = some x_ := ⟨_, List.getElem?_eq_getElem (by omega)⟩
  have hll0 := (Re).len_le
  refine wc_skip ?_
  refine wc_seq <| wc_block ?_
  refine wc_seq <| wc_region <| wl_mv M rfl rfl <| wl_as M rfl rfl <| wl_nil ?_
  refine wc_seq <| wc_region <| wl_mv M rfl rfl <| wl_mv M rfl rfl <| wl_mv M rfl rfl ?_
  refine wl_ix (j := k0) M Re Try.underlying56 rfl rfl hx0 rfl (fun b14 o14 p14 => ?_)
  refine wl_m M (q_ldp p14 rfl rfl) rfl rfl <| wl_e (e_callVC (vs := [ETCfg.val x0]) (caps := [.pointer (some ⟨bq, 0, none⟩)]) M (outG_c x0 M.imm Hq Rs) Try.func42 rfl rfl rfl) rfl rfl ?_
  rintro _ w2 ⟨J16, hJ16, rfl, M⟩
  replace M := M.less hJ16 (fun _ _ => rfl)
  refine wl_nil ?_
  refine wc_cond rfl (fun ht16 => ?_) (fun ht16 => ?_)
  ·have hin : x0 ∈ cs := by simpa using ht16
   refine wc_seq <| wc_region <| wl_mv M rfl rfl <| wl_as M rfl rfl <| wl_nil <| wc_ret ?_
   exact out1 rfl rfl ⟨_, _, rfl, M.grow, _, rfl, by rw [decide_eq_true (by omega), eq_comm, List.any_eq_true]; exact ⟨x0, List.mem_of_getElem? hx0, by simpa using hin⟩⟩
  refine wc_skip <| wc_region <| wl_m M (q_add rfl rfl (IntWalk.i64_in _ (by omega))) rfl rfl ?_
  refine wl_mv M rfl rfl <| wl_nil ?_
  refine ⟨(k0 + 1), ?_, ⟨(by omega), (by rw [take_snoc hx0, List.any_append, hno]; simpa using ht16), M⟩, ⟨rfl, trivial⟩, unw_look rfl unw_base⟩
  show es.length - (k0 + 1) < es.length - k0
  omega
 have hke0 : k0 = es.length := by omega
 rw [hke0, List.take_length] at hno
 refine wc_exit rfl ?_
 refine wc_seq <| wc_region <| wl_as M rfl rfl <| wl_nil <| wc_ret ?_
 exact out1 rfl rfl ⟨_, _, rfl, M.grow, _, rfl, by rw [hno]; decide⟩
theorem containsG_c {es cs : List TCfg} {ut u : SV} {bs bq : Nat} {I : Heap} {w : World} (hI : hle I (hp w)) (Re : rdSl ETCfg I (sv u) es) (Hq : I bq = some (.cells ([sv ut, .map (some bs)] : List Value).toArray 72 (0, 0))) (Rs : rdMp QTCfg Value.bool I (.map (some bs)) (tr cs)) : Calls A 41 #[sv u, .func (.func 42) #[] #[.pointer (some ⟨bq, 0, none⟩)]] w (Ret w I fun r _ => r = .bool (es.any fun c => decide (c ∈ cs))) := by
 have M := Mem.start hI
 refine enter Try.func41 rfl 9 Try.ntmps41 [_, _] rfl ?_
 refine wc_seq <| wc_region <| wl_as M rfl rfl <| wl_nil ?_
 refine wc_seq <| wc_region <| wl_mv M rfl rfl <| wl_mv M rfl rfl <| wl_e (e_callC M (indexG_c M.imm Re Hq Rs) Try.func65 rfl rfl) rfl rfl ?_
 rintro _ w1 ⟨J7, hJ7, ⟨i7, rfl, hi7⟩, M⟩
 have hoJ7 := M.old
 refine wl_m M (q_geq rfl rfl) rfl rfl <| wl_as M rfl rfl <| wl_nil <| wc_ret ?_
 exact out1 rfl rfl ⟨_, _, rfl, M.grow, by rw [hi7]⟩
end Go.Proofs.Ytfepjcmjkaolgaa.G
