/- Walks of the program's functions. -/
import Derived.Test.YtoilmeiikgegcaaDoorWLb
import Derived.Test.YtoilmeiikgegcaaDoorWSc
import Derived.Test.YtoilmeiikgegcaaDoorWSd
set_option linter.all false
namespace Go.Proofs.YtoilmeiikgegcaaDoor.G
open Go Go.RowKit
theorem lawLabels_c (a : Tra) {v1 : Value} {I : Heap} {w : World} (hI : hle I (hp w)) (hT : Tabs I) (R1 : a.rd I v1) : Calls A 7 #[v1] w (Ret w I fun r _ => r = .bool true) := by
 obtain ⟨fu1, au1, rfl, Rf1, Ra1⟩ := R1
 have M := Mem.start hI
 refine enter Tryd.func7 rfl 58 Tryd.ntmps7 [_] rfl ?_
 refine wc_seq ?_
 refine wc_region ?_
 refine wl_e (e_box M rfl) rfl rfl ?_
 rintro _ w1 ⟨b1, rfl, M⟩
 refine wl_as M rfl rfl ?_
 refine wl_nil ?_
 refine wc_seq ?_
 refine wc_seq ?_
 refine wc_region ?_
 refine wl_e (e_callC M (awake4_c M.imm hT) Tryd.func14 rfl rfl) rfl rfl ?_
 rintro _ w2 ⟨J7, hJ7, rfl, M⟩
 replace M := M.less hJ7 (fun _ _ => rfl)
 refine wl_m M (q_not rfl) rfl rfl ?_
 refine wl_nil ?_
 refine wc_cond rfl (fun ht8 => ?_) (fun ht8 => ?_)
 ·refine wc_seq ?_
  refine wc_region ?_
  refine wl_as M rfl rfl ?_
  refine wl_nil ?_
  refine wc_ret ?_
  exact absurd ht8 (by decide)
 refine wc_skip ?_
 refine wc_seq ?_
 refine wc_seq ?_
 refine wc_region ?_
 refine wl_m M (q_ldbA 0 Tryd.underlying29 rfl sz29 rfl rfl rfl rfl) rfl rfl ?_
 refine wl_e (e_callC M (large4_c a M.imm ⟨_, _, rfl, Rf1, Ra1⟩) Tryd.func24 rfl rfl) rfl rfl ?_
 rintro _ w3 ⟨J10, hJ10, rfl, M⟩
 replace M := M.less hJ10 (fun _ _ => rfl)
 refine wl_nil ?_
 refine wc_cond rfl (fun ht10 => ?_) (fun ht10 => ?_)
 ·refine wc_seq ?_
  refine wc_region ?_
  refine wl_as M rfl rfl ?_
  refine wl_nil ?_
  refine wc_ret ?_
  exact out1 rfl rfl ⟨_, _, rfl, M.grow, rfl⟩
 refine wc_skip ?_
 refine wc_seq ?_
 refine wc_region ?_
 refine wl_m M (q_ldbA 0 Tryd.underlying29 rfl sz29 rfl rfl rfl rfl) rfl rfl ?_
 refine wl_e (e_callC M (invert_c a M.imm ⟨_, _, rfl, Rf1, Ra1⟩) Tryd.func25 rfl rfl) rfl rfl ?_
 rintro _ w4 ⟨J13, hJ13, ⟨_, t13, e13, rfl, ⟨fu13, au13, rfl, Rf13, Ra13⟩, hc13⟩, M⟩
 have hoJ13 := M.old
 refine wl_mv M rfl rfl ?_
 refine wl_m M (q_ext rfl rfl) rfl rfl ?_
 refine wl_m M (q_ext rfl rfl) rfl rfl ?_
 refine wl_e (e_alloc M z29) rfl rfl ?_
 rintro _ w5 ⟨b3, rfl, M⟩
 refine wl_e0 (e_stW 0 M rfl rfl rfl sz29 rfl rfl) rfl ?_
 intro _ w6 M
 simp only [sC0, sCS] at M
 refine wl_as M rfl rfl ?_
 refine wl_nil ?_
 refine wc_seq ?_
 refine wc_region ?_
 refine wl_m M (q_ldbA 1 Tryd.underlying29 rfl sz29 rfl rfl rfl rfl) rfl rfl ?_
 refine wl_e (e_callC M (invert4_c a M.imm ⟨_, _, rfl, (Rf1.mono hJ13), (Ra1.mono hJ13)⟩) Tryd.func26 rfl rfl) rfl rfl ?_
 rintro _ w7 ⟨J18, hJ18, ⟨_, t18, e18, rfl, ⟨fu18, au18, rfl, Rf18, Ra18⟩, hc18⟩, M⟩
 have hoJ18 := M.old
 refine wl_mv M rfl rfl ?_
 refine wl_m M (q_ext rfl rfl) rfl rfl ?_
 refine wl_m M (q_ext rfl rfl) rfl rfl ?_
 refine wl_e (e_alloc M z29) rfl rfl ?_
 rintro _ w8 ⟨b5, rfl, M⟩
 refine wl_e0 (e_stW 0 M rfl rfl rfl sz29 rfl rfl) rfl ?_
 intro _ w9 M
 simp only [sC0, sCS] at M
 refine wl_as M rfl rfl ?_
 refine wl_nil ?_
 refine wc_seq ?_
 refine wc_seq ?_
 refine wc_region ?_
 refine wl_m M (q_ldbA 1 Tryd.underlying29 rfl sz29 rfl rfl rfl rfl) rfl rfl ?_
 refine wl_mv M rfl rfl ?_
 refine wl_m M (q_ldbA 0 Tryd.underlying29 rfl sz29 rfl rfl rfl rfl) rfl rfl ?_
 refine wl_mv M rfl rfl ?_
 refine wl_e (e_callC M (agree4_c t13 t18 e13 e18 M.imm ⟨_, _, rfl, (Rf13.mono hJ18), (Ra13.mono hJ18)⟩ ⟨_, _, rfl, Rf18, Ra18⟩) Tryd.func19 rfl rfl) rfl rfl ?_
 rintro _ w10 ⟨J25, hJ25, rfl, M⟩
 replace M := M.less hJ25 hoJ18
 refine wl_m M (q_not rfl) rfl rfl ?_
 refine wl_nil ?_
 refine wc_cond rfl (fun ht26 => ?_) (fun ht26 => ?_)
 ·refine wc_seq ?_
  refine wc_region ?_
  refine wl_as M rfl rfl ?_
  refine wl_nil ?_
  refine wc_ret ?_
  exact absurd ht26 (by rw [decide_eq_true (hc13.trans hc18.symm)]; decide)
 refine wc_skip ?_
 refine wc_seq ?_
 refine wc_region ?_
 refine wl_m M (q_ldbA 2 Tryd.underlying29 rfl sz29 rfl rfl rfl rfl) rfl rfl ?_
 refine wl_e (e_callC M (domain_c a M.imm ⟨_, _, rfl, ((Rf1.mono hJ13).mono hJ18), ((Ra1.mono hJ13).mono hJ18)⟩) Tryd.func27 rfl rfl) rfl rfl ?_
 rintro _ w11 ⟨J29, hJ29, ⟨_, t29, e29, rfl, ⟨fu29, au29, rfl, Rf29, Ra29⟩, hc29⟩, M⟩
 have hoJ29 := M.old
 refine wl_mv M rfl rfl ?_
 refine wl_m M (q_ext rfl rfl) rfl rfl ?_
 refine wl_m M (q_ext rfl rfl) rfl rfl ?_
 refine wl_e0 (e_stW 1 M rfl rfl rfl sz29 rfl rfl) rfl ?_
 intro _ w12 M
 simp only [sC0, sCS] at M
 refine wl_as M rfl rfl ?_
 refine wl_nil ?_
 refine wc_seq ?_
 refine wc_region ?_
 refine wl_m M (q_ldbA 2 Tryd.underlying29 rfl sz29 rfl rfl rfl rfl) rfl rfl ?_
 refine wl_e (e_callC M (domain4_c a M.imm ⟨_, _, rfl, (((Rf1.mono hJ13).mono hJ18).mono hJ29), (((Ra1.mono hJ13).mono hJ18).mono hJ29)⟩) Tryd.func28 rfl rfl) rfl rfl ?_
 rintro _ w13 ⟨J34, hJ34, ⟨_, t34, e34, rfl, ⟨fu34, au34, rfl, Rf34, Ra34⟩, hc34⟩, M⟩
 have hoJ34 := M.old
 refine wl_mv M rfl rfl ?_
 refine wl_m M (q_ext rfl rfl) rfl rfl ?_
 refine wl_m M (q_ext rfl rfl) rfl rfl ?_
 refine wl_e0 (e_stW 0 M rfl rfl rfl sz29 rfl rfl) rfl ?_
 intro _ w14 M
 simp only [sC0, sCS] at M
 refine wl_as M rfl rfl ?_
 refine wl_nil ?_
 refine wc_seq ?_
 refine wc_seq ?_
 refine wc_region ?_
 refine wl_m M (q_ldbA 1 Tryd.underlying29 rfl sz29 rfl rfl rfl rfl) rfl rfl ?_
 refine wl_mv M rfl rfl ?_
 refine wl_m M (q_ldbA 0 Tryd.underlying29 rfl sz29 rfl rfl rfl rfl) rfl rfl ?_
 refine wl_mv M rfl rfl ?_
 refine wl_e (e_callC M (agree4_c t29 t34 e29 e34 M.imm ⟨_, _, rfl, (Rf29.mono hJ34), (Ra29.mono hJ34)⟩ ⟨_, _, rfl, Rf34, Ra34⟩) Tryd.func19 rfl rfl) rfl rfl ?_
 rintro _ w15 ⟨J41, hJ41, rfl, M⟩
 replace M := M.less hJ41 hoJ34
 refine wl_m M (q_not rfl) rfl rfl ?_
 refine wl_nil ?_
 refine wc_cond rfl (fun ht42 => ?_) (fun ht42 => ?_)
 ·refine wc_seq ?_
  refine wc_region ?_
  refine wl_as M rfl rfl ?_
  refine wl_nil ?_
  refine wc_ret ?_
  exact absurd ht42 (by rw [decide_eq_true (hc29.trans hc34.symm)]; decide)
 refine wc_skip ?_
 refine wc_seq ?_
 refine wc_region ?_
 refine wl_m M (q_ldbA 2 Tryd.underlying29 rfl sz29 rfl rfl rfl rfl) rfl rfl ?_
 refine wl_e (e_callC M (range_c a M.imm ⟨_, _, rfl, ((((Rf1.mono hJ13).mono hJ18).mono hJ29).mono hJ34), ((((Ra1.mono hJ13).mono hJ18).mono hJ29).mono hJ34)⟩) Tryd.func29 rfl rfl) rfl rfl ?_
 rintro _ w16 ⟨J45, hJ45, ⟨_, t45, e45, rfl, ⟨fu45, au45, rfl, Rf45, Ra45⟩, hc45⟩, M⟩
 have hoJ45 := M.old
 refine wl_mv M rfl rfl ?_
 refine wl_m M (q_ext rfl rfl) rfl rfl ?_
 refine wl_m M (q_ext rfl rfl) rfl rfl ?_
 refine wl_e0 (e_stW 1 M rfl rfl rfl sz29 rfl rfl) rfl ?_
 intro _ w17 M
 simp only [sC0, sCS] at M
 refine wl_as M rfl rfl ?_
 refine wl_nil ?_
 refine wc_seq ?_
 refine wc_region ?_
 refine wl_m M (q_ldbA 2 Tryd.underlying29 rfl sz29 rfl rfl rfl rfl) rfl rfl ?_
 refine wl_e (e_callC M (range4_c a M.imm ⟨_, _, rfl, (((((Rf1.mono hJ13).mono hJ18).mono hJ29).mono hJ34).mono hJ45), (((((Ra1.mono hJ13).mono hJ18).mono hJ29).mono hJ34).mono hJ45)⟩) Tryd.func30 rfl rfl) rfl rfl ?_
 rintro _ w18 ⟨J50, hJ50, ⟨_, t50, e50, rfl, ⟨fu50, au50, rfl, Rf50, Ra50⟩, hc50⟩, M⟩
 have hoJ50 := M.old
 refine wl_mv M rfl rfl ?_
 refine wl_m M (q_ext rfl rfl) rfl rfl ?_
 refine wl_m M (q_ext rfl rfl) rfl rfl ?_
 refine wl_e0 (e_stW 0 M rfl rfl rfl sz29 rfl rfl) rfl ?_
 intro _ w19 M
 simp only [sC0, sCS] at M
 refine wl_as M rfl rfl ?_
 refine wl_nil ?_
 refine wc_seq ?_
 refine wc_region ?_
 refine wl_m M (q_ldbA 1 Tryd.underlying29 rfl sz29 rfl rfl rfl rfl) rfl rfl ?_
 refine wl_mv M rfl rfl ?_
 refine wl_m M (q_ldbA 0 Tryd.underlying29 rfl sz29 rfl rfl rfl rfl) rfl rfl ?_
 refine wl_mv M rfl rfl ?_
 refine wl_e (e_callC M (agree4_c t45 t50 e45 e50 M.imm ⟨_, _, rfl, (Rf45.mono hJ50), (Ra45.mono hJ50)⟩ ⟨_, _, rfl, Rf50, Ra50⟩) Tryd.func19 rfl rfl) rfl rfl ?_
 rintro _ w20 ⟨J57, hJ57, rfl, M⟩
 replace M := M.less hJ57 hoJ50
 refine wl_as M rfl rfl ?_
 refine wl_nil ?_
 refine wc_ret ?_
 exact out1 rfl rfl ⟨_, _, rfl, M.grow, by rw [decide_eq_true (hc45.trans hc50.symm)]⟩
end Go.Proofs.YtoilmeiikgegcaaDoor.G
