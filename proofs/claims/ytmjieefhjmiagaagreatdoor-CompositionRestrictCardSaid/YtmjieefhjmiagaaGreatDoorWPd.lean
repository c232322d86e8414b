/- Walks of the program's functions. -/
import Derived.Test.YtmjieefhjmiagaaGreatDoorWPc
import Derived.Test.YtmjieefhjmiagaaGreatDoorWD
import Derived.Test.YtmjieefhjmiagaaGreatDoorGArr
set_option linter.all false
namespace Go.Proofs.YtmjieefhjmiagaaGreatDoor.G
open Go Go.RowKit
theorem restrict_c (a : Tra) (ws : List ByteArray) (hfew : fewB a = true) (hws : ws.length ≤ 1000) (hsz : ∀ s ∈ ws, s.size ≤ 100000) {v1 : Value} {u : SV} {I : Heap} {w : World} (hI : hle I (hp w)) (hT : Tabs I) (R1 : a.rd I v1) (R0 : rdSl EStr I (sv u) ws) :
    Calls A 18 #[v1, sv u] w (Ret w I fun r I' => ∃ (v : Value) (t : Tra) (e : Int), r = .tuple #[v, .int .i64 e] ∧ t.rd I' v ∧ (t, e) = RestrS a ws) := by
 obtain ⟨fu1, au1, rfl, Rf1, Ra1⟩ := R1
 have M := Mem.start hI
 refine enter Tryz.func18 rfl 26 Tryz.ntmps18 [_, _] rfl ?_
 refine wc_seq ?_
 refine wc_region ?_
 refine wl_e (e_box M rfl) rfl rfl ?_
 rintro _ w1 ⟨b2, rfl, M⟩
 refine wl_e (e_alloc M z25) rfl rfl ?_
 rintro _ w2 ⟨b4, rfl, M⟩
 refine wl_as M rfl rfl ?_
 refine wl_nil ?_
 refine wc_seq ?_
 refine wc_seq ?_
 refine wc_region ?_
 refine wl_m M (q_ldbA 1 Tryz.underlying25 rfl sz25 rfl rfl rfl rfl) rfl rfl ?_
 refine wl_e (e_callC M (valid_c a M.imm ⟨fu1, au1, rfl, Rf1, Ra1⟩) Tryz.func34 rfl rfl) rfl rfl ?_
 rintro _ w3 ⟨J9, hJ9, rfl, M⟩
 replace M := M.less hJ9 (fun _ _ => rfl)
 refine wl_m M (q_not rfl) rfl rfl ?_
 refine wl_nil ?_
 refine wc_cond rfl (fun ht10 => ?_) (fun ht10 => ?_)
 ·refine wc_seq ?_
  refine wc_region ?_
  refine wl_m M (q_build (bd_25) trivial) rfl rfl ?_
  refine wl_e0 (e_stW 0 M rfl rfl rfl sz25 rfl rfl) rfl ?_
  intro _ w4 M
  simp only [sC0, sCS] at M
  refine wl_as M rfl rfl ?_
  refine wl_nil ?_
  refine wc_ret ?_
  exact outc2 rfl rfl (load_boxA M 0 Tryz.underlying25 rfl sz25 rfl rfl rfl) rfl ⟨_, _, rfl, M.grow, _, zeroTra, 1, rfl, ⟨nilV, nilV, rfl, rdSl_nil _, rdSl_nil _⟩, (restr_bad ht10).symm⟩
 have hv : validT a = true := by simpa using ht10
 refine wc_skip ?_
 refine wc_seq ?_
 refine wc_region ?_
 refine wl_mv M rfl rfl ?_
 refine wl_e (e_callC M (words_c ws hws hsz M.imm hT R0) Tryz.func39 rfl rfl) rfl rfl ?_
 rintro _ w5 ⟨J14, hJ14, ⟨_, t14, e14, rfl, ⟨fu14, au14, rfl, Rf14, Ra14⟩, hc14⟩, M⟩
 replace hc14 : (t14, e14) = PairsS (wordP ws) := hc14
 have hoJ14 := M.old
 refine wl_mv M rfl rfl ?_
 refine wl_m M (q_ext rfl rfl) rfl rfl ?_
 refine wl_m M (q_ext rfl rfl) rfl rfl ?_
 refine wl_e (e_alloc M z25) rfl rfl ?_
 rintro _ w6 ⟨b6, rfl, M⟩
 refine wl_e0 (e_stW 0 M rfl rfl rfl sz25 rfl rfl) rfl ?_
 intro _ w7 M
 simp only [sC0, sCS] at M
 refine wl_as M rfl rfl ?_
 refine wl_nil ?_
 refine wc_seq ?_
 refine wc_seq ?_
 refine wc_region ?_
 refine wl_mv M rfl rfl ?_
 refine wl_m M (q_neq rfl rfl) rfl rfl ?_
 refine wl_nil ?_
 refine wc_cond rfl (fun ht18 => ?_) (fun ht18 => ?_)
 ·have her : ¬ e14 = 0 := by simpa using ht18
  refine wc_seq ?_
  refine wc_region ?_
  refine wl_m M (q_build (bd_25) trivial) rfl rfl ?_
  refine wl_mv M rfl rfl ?_
  refine wl_e0 (e_stW 1 M rfl rfl rfl sz25 rfl rfl) rfl ?_
  intro _ w8 M
  simp only [sC0, sCS] at M
  refine wl_as M rfl rfl ?_
  refine wl_nil ?_
  refine wc_ret ?_
  exact outc2 rfl rfl (load_boxA M 1 Tryz.underlying25 rfl sz25 rfl rfl rfl) rfl ⟨_, _, rfl, M.grow, _, zeroTra, _, rfl, ⟨nilV, nilV, rfl, rdSl_nil _, rdSl_nil _⟩, (restr_err hv hc14 her).symm⟩
 have her : e14 = 0 := by simpa using ht18
 refine wc_skip ?_
 refine wc_seq ?_
 refine wc_region ?_
 refine wl_m M (q_ldbA 0 Tryz.underlying25 rfl sz25 rfl rfl rfl rfl) rfl rfl ?_
 refine wl_m M (q_ldbA 2 Tryz.underlying25 rfl sz25 rfl rfl rfl rfl) rfl rfl ?_
 refine wl_e (e_callC M (compose_c t14 a (restr_big hc14 her hfew) M.imm ⟨_, _, rfl, Rf14, Ra14⟩ ⟨fu1, au1, rfl, (Rf1.mono hJ14), (Ra1.mono hJ14)⟩) Tryz.func23 rfl rfl) rfl rfl ?_
 rintro _ w9 ⟨J23, hJ23, ⟨_, t23, e23, rfl, ⟨fu23, au23, rfl, Rf23, Ra23⟩, hc23⟩, M⟩
 replace hc23 : (t23, e23) = CompS t14 a := cmp_S hc23
 have hoJ23 := M.old
 refine wl_m M (q_ext rfl rfl) rfl rfl ?_
 refine wl_m M (q_ext rfl rfl) rfl rfl ?_
 refine wl_e0 (e_stW 1 M rfl rfl rfl sz25 rfl rfl) rfl ?_
 intro _ w10 M
 simp only [sC0, sCS] at M
 refine wl_as M rfl rfl ?_
 refine wl_nil ?_
 refine wc_ret ?_
 exact outc2 rfl rfl (load_boxA M 1 Tryz.underlying25 rfl sz25 rfl rfl rfl) rfl ⟨_, _, rfl, M.grow, _, t23, e23, rfl, ⟨_, _, rfl, Rf23, Ra23⟩, hc23.trans (restr_ok hv hc14 her).symm⟩
end Go.Proofs.YtmjieefhjmiagaaGreatDoor.G
