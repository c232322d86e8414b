/- Walks of the program's functions. -/
import Derived.Test.YtmjieefhjmiagaaGreatDoorWFc
import Derived.Test.YtmjieefhjmiagaaGreatDoorWU
set_option linter.all false
namespace Go.Proofs.YtmjieefhjmiagaaGreatDoor.G
open Go Go.RowKit
theorem functional_c {t : Tra} {ws : List ByteArray} (hs : ∀ s ∈ ws, s.size ≤ 70368744177664) {v1 : Value} {u : SV} {I : Heap} {w : World} (hI : hle I (hp w)) (hT : Tabs I) (R1 : t.rd I v1) (R2 : rdSl EStr I (sv u) ws) :
    Calls A 21 #[v1, sv u] w (Ret w I fun r _ => r = .tuple #[.bool (FncS t ws).1, .int .i64 (FncS t ws).2]) := by
 obtain ⟨fu1, au1, rfl, Rf1, Ra1⟩ := R1
 have M := Mem.start hI
 refine enter Tryz.func21 rfl 29 Tryz.ntmps21 [_, _] rfl ?_
 refine wc_seq ?_
 refine wc_region ?_
 refine wl_e (e_box M rfl) rfl rfl ?_
 rintro _ w1 ⟨b2, rfl, M⟩
 refine wl_as M rfl rfl ?_
 refine wl_as M rfl rfl ?_
 refine wl_nil ?_
 refine wc_seq ?_
 refine wc_seq ?_
 refine wc_region ?_
 refine wl_m M (q_ldbA 0 Tryz.underlying25 rfl sz25 rfl rfl rfl rfl) rfl rfl ?_
 refine wl_e (e_callC M (valid_c t M.imm ⟨_, _, rfl, Rf1, Ra1⟩) Tryz.func34 rfl rfl) rfl rfl ?_
 rintro _ w2 ⟨J10, hJ10, rfl, M⟩
 replace M := M.less hJ10 (fun _ _ => rfl)
 refine wl_m M (q_not rfl) rfl rfl ?_
 refine wl_nil ?_
 refine wc_cond rfl (fun ht11 => ?_) (fun ht11 => ?_)
 ·refine wc_seq ?_
  refine wc_region ?_
  refine wl_as M rfl rfl ?_
  refine wl_as M rfl rfl ?_
  refine wl_nil ?_
  refine wc_ret ?_
  exact out2 rfl rfl rfl ⟨_, _, rfl, M.grow, by rw [fnc_inv (by simpa using ht11)]⟩
 have hv : validT t = true := by simpa using ht11
 obtain ⟨m, ht, hfn, hfl⟩ := validT_ok hv
 have hlb := valid_lab hv
 refine wc_skip ?_
 refine wc_seq ?_
 refine wc_seq ?_
 refine wc_region ?_
 refine wl_mv M rfl rfl ?_
 refine wl_e (e_callC M (check_c hs M.imm hT R2) Tryz.func44 rfl rfl) rfl rfl ?_
 rintro _ w3 ⟨J13, hJ13, rfl, M⟩
 replace M := M.less hJ13 (fun _ _ => rfl)
 refine wl_as M rfl rfl ?_
 refine wl_nil ?_
 refine wc_seq ?_
 refine wc_region ?_
 refine wl_mv M rfl rfl ?_
 refine wl_m M (q_neq rfl rfl) rfl rfl ?_
 refine wl_nil ?_
 refine wc_cond rfl (fun ht15 => ?_) (fun ht15 => ?_)
 ·have hc0 : ¬ chkS ws = 0 := by simpa using ht15
  refine wc_seq ?_
  refine wc_region ?_
  refine wl_mv M rfl rfl ?_
  refine wl_as M rfl rfl ?_
  refine wl_as M rfl rfl ?_
  refine wl_nil ?_
  refine wc_ret ?_
  exact out2 rfl rfl rfl ⟨_, _, rfl, M.grow, by rw [FncS, if_pos hv, if_neg hc0]⟩
 have hc0 : chkS ws = 0 := by simpa using ht15
 have hwl := chk_len hc0
 refine wc_skip ?_
 refine wc_seq ?_
 refine wc_seq ?_
 refine wc_region ?_
 refine wl_mv M rfl rfl ?_
 refine wl_m M (q_lenR R2 Tryz.underlying31 rfl) rfl rfl ?_
 refine wl_mv M rfl rfl ?_
 refine wl_nil ?_
 refine wc_block ?_
 refine wc_loop (α := Nat) [4, 5, 8, 19, 20, 21, 22, 23, 24, 25, 26, 27, 28] (fun (k0 : Nat) => [(19, .int .i64 (k0 : Int))])
   (fun (k0 : Nat) w' => (k0 ≤ ws.length) ∧ ((ws.take k0).all (fun w => sglB t (runesL w)) = true) ∧ Mem w I I (box b2 25 [.int .i64 t.states, .int .i64 t.start, sv fu1, sv au1] :: []) w')
   (fun (k0 : Nat) => ws.length - k0) (0) ⟨rfl, trivial⟩ ?_ ?_
 ·refine ⟨Nat.zero_le _, rfl, ?_⟩
  exact M
 rintro k0 jj0 w4 ⟨hk0, ha, M⟩
 refine wc_seq ?_
 refine wc_region ?_
 refine wl_m M (q_lss rfl rfl) rfl rfl ?_
 refine wl_nil ?_
 refine wc_seq ?_
 refine wc_dec rfl (fun ht20 => ?_) (fun ht20 => ?_)
 ·obtain ⟨x0, hx0⟩ : ∃ x_, ws[k0]? = some x_ := ⟨_, List.getElem?_eq_getElem (by omega)⟩
  have hll0 := (R2).len_le
  refine wc_skip ?_
  refine wc_seq ?_
  refine wc_block ?_
  refine wc_seq ?_
  refine wc_region ?_
  refine wl_ix (j := k0) M R2 Tryz.underlying31 rfl rfl hx0 rfl (fun b21 o21 p21 => ?_)
  refine wl_m M (q_ldp p21 rfl rfl) rfl rfl ?_
  refine wl_as M rfl rfl ?_
  refine wl_nil ?_
  refine wc_seq ?_
  refine wc_region ?_
  refine wl_m M (q_ldbA 0 Tryz.underlying25 rfl sz25 rfl rfl rfl rfl) rfl rfl ?_
  refine wl_mv M rfl rfl ?_
  refine wl_e (e_cvRI (E := ERune) (s := x0) M (fun _ => rfl) Tryz.underlying9 Tryz.underlying29 Tryz.underlying21 (hs x0 (List.mem_of_getElem? hx0)) rfl) rfl rfl ?_
  rintro v25 w5 ⟨J25, hJ25, R25, M⟩
  obtain ⟨u25, rfl⟩ := rdSl_slice R25
  have hoJ25 := M.old
  replace R25 : rdSl ERune J25 (sv u25) (runesL x0) := R25
  refine wl_e (e_callC M (single_c ht hlb hfn hfl (Nat.le_trans (hwl x0 (List.mem_of_getElem? hx0)) (by decide)) M.imm ⟨_, _, rfl, (Rf1.mono hJ25), (Ra1.mono hJ25)⟩ R25) Tryz.func45 rfl rfl) rfl rfl ?_
  rintro _ w6 ⟨J26, hJ26, rfl, M⟩
  replace M := M.less hJ26 hoJ25
  refine wl_m M (q_not rfl) rfl rfl ?_
  refine wl_nil ?_
  refine wc_cond rfl (fun ht27 => ?_) (fun ht27 => ?_)
  ·refine wc_seq ?_
   refine wc_region ?_
   refine wl_as M rfl rfl ?_
   refine wl_as M rfl rfl ?_
   refine wl_nil ?_
   refine wc_ret ?_
   exact out2 rfl rfl rfl ⟨_, _, rfl, M.grow, by rw [FncS, if_pos hv, if_pos hc0, all_false_at (f := fun w => sglB t (runesL w)) hx0 (by simpa using ht27)]⟩
  refine wc_skip ?_
  refine wc_region ?_
  refine wl_m M (q_add rfl rfl (IntWalk.i64_in _ (by omega))) rfl rfl ?_
  refine wl_mv M rfl rfl ?_
  refine wl_nil ?_
  replace M := M.less hJ25 (fun _ _ => rfl)
  refine ⟨(k0 + 1), ?_, ⟨(by omega), (all_take_succ (f := fun w => sglB t (runesL w)) hx0 ha (by simpa using ht27)), M⟩, ⟨rfl, trivial⟩, unw_look rfl unw_base⟩
  show ws.length - (k0 + 1) < ws.length - k0
  omega
 have hke0 : k0 = ws.length := by omega
 rw [hke0, List.take_length] at ha
 refine wc_exit rfl ?_
 refine wc_seq ?_
 refine wc_region ?_
 refine wl_as M rfl rfl ?_
 refine wl_as M rfl rfl ?_
 refine wl_nil ?_
 refine wc_ret ?_
 exact out2 rfl rfl rfl ⟨_, _, rfl, M.grow, by rw [FncS, if_pos hv, if_pos hc0, ha]⟩
end Go.Proofs.YtmjieefhjmiagaaGreatDoor.G
