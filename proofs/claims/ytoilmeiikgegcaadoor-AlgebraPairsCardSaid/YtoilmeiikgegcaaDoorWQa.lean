/- Walks of the program's functions. -/
import Derived.Test.YtoilmeiikgegcaaDoorGSit
import Derived.Test.YtoilmeiikgegcaaDoorWA
set_option linter.all false
namespace Go.Proofs.YtoilmeiikgegcaaDoor.G
open Go Go.RowKit
theorem text4_c (s : ByteArray) (hs : s.size ≤ 70368744177664) {I : Heap} {w : World} (hI : hle I (hp w)) : Calls A 44 #[.string s] w (Ret w I fun r _ => r = .bool (okT s)) := by
 have M := Mem.start hI
 refine enter Tryd.func44 rfl 17 Tryd.ntmps44 [_] rfl ?_
 refine wc_seq ?_
 refine wc_region ?_
 refine wl_as M rfl rfl ?_
 refine wl_nil ?_
 refine wc_seq ?_
 refine wc_seq ?_
 refine wc_region ?_
 refine wl_mv M rfl rfl ?_
 refine wl_e (e_rngS M Tryd.underlying9 rfl) rfl rfl ?_
 rintro _ w1 ⟨r6, rfl, M⟩
 refine wl_nil ?_
 refine wc_block ?_
 refine wc_loop (α := Nat × Nat) [2, 4, 7, 8, 9, 10, 11] (fun ((b4, ps_6_0) : Nat × Nat) => [])
   (fun ((b4, ps_6_0) : Nat × Nat) w' => ((0 : Int) ∈ runesL s ↔ (0 : Int) ∈ rnF s b4 ps_6_0) ∧ (s.size ≤ ps_6_0 + b4) ∧ Mem w I I (sitr r6 s ps_6_0 :: []) w')
   (fun ((b4, ps_6_0) : Nat × Nat) => b4) (s.size, 0) trivial ?_ ?_
 ·refine ⟨Iff.rfl, (by omega), ?_⟩
  exact M
 rintro ⟨b4, ps_6_0⟩ jj0 w2 ⟨hz, hb, M⟩
 refine wc_seq ?_
 refine wc_region ?_
 refine wl_e (e_nxS 0 M rfl rfl) rfl rfl ?_
 rintro _ w3 (⟨rfl, hpo2, M⟩ | ⟨rfl, hpo2, M⟩)
 ·refine wl_m M (q_ext rfl rfl) rfl rfl ?_
  refine wl_nil ?_
  refine wc_seq ?_
  refine wc_false rfl ?_
  refine wc_exit rfl ?_
  refine wc_seq ?_
  refine wc_region ?_
  refine wl_mv M rfl rfl ?_
  refine wl_e (e_cvRI (E := ERune) (s := s) M (fun _ => rfl) Tryd.underlying9 Tryd.underlying47 Tryd.underlying21 hs rfl) rfl rfl ?_
  rintro v13 w4 ⟨J13, hJ13, R13, M⟩
  obtain ⟨u13, rfl⟩ := rdSl_slice R13
  have hoJ13 := M.old
  replace R13 : rdSl ERune J13 (sv u13) (runesL s) := R13
  refine wl_m M (q_cvS (E := ERune) (fun _ => rfl) rfl (fun _ M => R13.mono M.imm) Tryd.underlying47 Tryd.underlying21 Tryd.underlying9 rfl) rfl rfl ?_
  refine wl_mv M rfl rfl ?_
  refine wl_m M (q_eqlS rfl rfl) rfl rfl ?_
  refine wl_as M rfl rfl ?_
  refine wl_nil ?_
  refine wc_ret ?_
  exact out1 rfl rfl ⟨_, _, rfl, M.grow, by rw [okT_good (fun h => text_end hpo2 (hz.1 h))]⟩
 simp only [sC0, sCS] at M
 refine wl_m M (q_ext rfl rfl) rfl rfl ?_
 refine wl_nil ?_
 refine wc_seq ?_
 refine wc_true rfl ?_
 refine wc_skip ?_
 refine wc_block ?_
 refine wc_seq ?_
 refine wc_region ?_
 refine wl_m M (q_ext rfl rfl) rfl rfl ?_
 refine wl_as M rfl rfl ?_
 refine wl_nil ?_
 refine wc_seq ?_
 refine wc_region ?_
 refine wl_mv M rfl rfl ?_
 refine wl_m M (q_eql rfl rfl) rfl rfl ?_
 refine wl_nil ?_
 refine wc_dec rfl (fun ht11 => ?_) (fun ht11 => ?_)
 ·refine wc_seq ?_
  refine wc_region ?_
  refine wl_as M rfl rfl ?_
  refine wl_nil ?_
  refine wc_ret ?_
  exact out1 rfl rfl ⟨_, _, rfl, M.grow, by rw [okT_bad (hz.2 (text_zero hpo2 hb (by simpa using ht11)))]⟩
 refine wc_skip ?_
 refine ⟨(b4 - 1, ps_6_0 + (Utf8.decode s ps_6_0).2), ?_, ⟨(hz.trans (text_step hpo2 hb (by simpa using ht11)).1), (text_step hpo2 hb (by simpa using ht11)).2, M⟩, trivial, unw_look rfl unw_base⟩
 show (b4 - 1) < b4
 omega
end Go.Proofs.YtoilmeiikgegcaaDoor.G
