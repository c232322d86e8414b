/- Walks of the program's functions. -/
import Derived.Test.YtfepjcmjkaolgaaDoorWE
import Derived.Test.YtfepjcmjkaolgaaDoorGChk
set_option linter.all false
namespace Go.Proofs.YtfepjcmjkaolgaaDoor.G
open Go Go.RowKit
theorem runes3_c (s : ByteArray) (hs : s.size ≤ 70368744177664) {I : Heap} {w : World} (hI : hle I (hp w)) (hT : Tabs I) : Calls A 21 #[.string s] w (Ret w I fun r I' => ∃ u : SV, r = .tuple #[sv u, .bool (okR s)] ∧ rdSl ERune I' (sv u) (runesR s)) := by
 have M := Mem.start hI
 refine enter Tryd.func21 rfl 23 Tryd.ntmps21 [_] rfl ?_
 refine wc_seq ?_
 refine wc_region ?_
 refine wl_as M rfl rfl ?_
 refine wl_as M rfl rfl ?_
 refine wl_nil ?_
 refine wc_seq ?_
 refine wc_seq ?_
 refine wc_region ?_
 refine wl_mv M rfl rfl ?_
 refine wl_e (e_callC M (validS_c s hs M.imm hT) Tryd.func47 rfl rfl) rfl rfl ?_
 rintro _ w1 ⟨J7, hJ7, rfl, M⟩
 replace M := M.less hJ7 (fun _ _ => rfl)
 refine wl_m M (q_not rfl) rfl rfl ?_
 refine wl_nil ?_
 refine wc_cond rfl (fun ht8 => ?_) (fun ht8 => ?_)
 ·refine wc_seq ?_
  refine wc_region ?_
  refine wl_as M rfl rfl ?_
  refine wl_as M rfl rfl ?_
  refine wl_nil ?_
  refine wc_ret ?_
  exact out2 rfl rfl rfl ⟨_, _, rfl, M.grow, nilV, by rw [okR, show Lib.validD s.data.toList = false by simpa using ht8]; rfl, by rw [runesR, okR, show Lib.validD s.data.toList = false by simpa using ht8]; exact rdSl_nil _⟩
 refine wc_skip ?_
 refine wc_seq ?_
 refine wc_region ?_
 refine wl_mv M rfl rfl ?_
 refine wl_e (e_cvRI (E := ERune) (s := s) M (fun _ => rfl) Tryd.underlying9 Tryd.underlying43 Tryd.underlying21 hs rfl) rfl rfl ?_
 rintro v10 w2 ⟨J10, hJ10, R10, M⟩
 obtain ⟨u10, rfl⟩ := rdSl_slice R10
 have hoJ10 := M.old
 replace R10 : rdSl ERune J10 (sv u10) (runesL s) := R10
 refine wl_as M rfl rfl ?_
 refine wl_nil ?_
 refine wc_seq ?_
 refine wc_seq ?_
 refine wc_region ?_
 refine wl_as M rfl rfl ?_
 refine wl_nil ?_
 refine wc_block ?_
 refine wc_loop (α := Nat) [2, 3, 5, 11, 12, 13, 14, 15, 16, 17, 18, 19, 20, 21] (fun (k0 : Nat) => [(5, .int .i64 (k0 : Int))])
   (fun (k0 : Nat) w' => (k0 ≤ (runesL s).length) ∧ ((0 : Int) ∉ (runesL s).take k0) ∧ Mem w I J10 ([]) w')
   (fun (k0 : Nat) => (runesL s).length - k0) (0) ⟨rfl, trivial⟩ ?_ ?_
 ·refine ⟨Nat.zero_le _, by simp, ?_⟩
  exact M
 rintro k0 jj0 w3 ⟨hk0, hn, M⟩
 have hoJ10 := M.old
 refine wc_seq ?_
 refine wc_seq ?_
 refine wc_region ?_
 refine wl_mv M rfl rfl ?_
 refine wl_mv M rfl rfl ?_
 refine wl_m M (q_lenR R10 Tryd.underlying43 rfl) rfl rfl ?_
 refine wl_m M (q_lss rfl rfl) rfl rfl ?_
 refine wl_nil ?_
 refine wc_dec rfl (fun ht14 => ?_) (fun ht14 => ?_)
 ·obtain ⟨x0, hx0⟩ : ∃ x_, (runesL s)[k0]? = some x_ := ⟨_, List.getElem?_eq_getElem (by omega)⟩
  have hll0 := (R10).len_le
  have hll0 := R10.len_le
  refine wc_skip ?_
  refine wc_seq ?_
  refine wc_block ?_
  refine wc_seq ?_
  refine wc_region ?_
  refine wl_mv M rfl rfl ?_
  refine wl_mv M rfl rfl ?_
  refine wl_ix (j := k0) M R10 Tryd.underlying43 rfl rfl hx0 rfl (fun b19 o19 p19 => ?_)
  refine wl_m M (q_ldp p19 rfl rfl) rfl rfl ?_
  refine wl_m M (q_eql rfl rfl) rfl rfl ?_
  refine wl_nil ?_
  refine wc_dec rfl (fun ht21 => ?_) (fun ht21 => ?_)
  ·refine wc_seq ?_
   refine wc_region ?_
   refine wl_as M rfl rfl ?_
   refine wl_as M rfl rfl ?_
   refine wl_nil ?_
   refine wc_ret ?_
   have hko : okR s = false := by rw [okR, decide_eq_true (List.mem_of_getElem? (ht21 ▸ hx0))]; simp
   exact out2 rfl rfl rfl ⟨_, _, rfl, M.grow, nilV, by rw [hko]; rfl, by rw [runesR, hko]; exact rdSl_nil _⟩
  refine wc_skip ?_
  refine wc_region ?_
  refine wl_mv M rfl rfl ?_
  refine wl_m M (q_add rfl rfl (IntWalk.i64_in _ (by omega))) rfl rfl ?_
  refine wl_as M rfl rfl ?_
  refine wl_nil ?_
  refine ⟨(k0 + 1), ?_, ⟨(by omega), (by rw [take_snoc hx0]; simp only [List.mem_append, List.mem_singleton, not_or]; exact ⟨hn, fun e => ht21 e.symm⟩), M⟩, ⟨rfl, trivial⟩, unw_look rfl unw_base⟩
  show (runesL s).length - (k0 + 1) < (runesL s).length - k0
  omega
 have hke0 : k0 = (runesL s).length := by omega
 rw [hke0, List.take_length] at hn
 refine wc_exit rfl ?_
 refine wc_seq ?_
 refine wc_region ?_
 refine wl_mv M rfl rfl ?_
 refine wl_as M rfl rfl ?_
 refine wl_as M rfl rfl ?_
 refine wl_nil ?_
 refine wc_ret ?_
 have hko : okR s = true := by rw [okR, decide_eq_false hn, show Lib.validD s.data.toList = true by simpa using ht8]; rfl
 exact out2 rfl rfl rfl ⟨_, _, rfl, M.grow, u10, by rw [hko], by rw [runesR, if_pos hko]; exact R10⟩
end Go.Proofs.YtfepjcmjkaolgaaDoor.G
