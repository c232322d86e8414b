/- Walks of the program's functions. -/
import Derived.Test.YtoilmeiikgegcaaDoorWLb
set_option linter.all false
namespace Go.Proofs.YtoilmeiikgegcaaDoor.G
open Go Go.RowKit
theorem reversed_c (s : ByteArray) (hs : s.size ≤ 70368744177664) {I : Heap} {w : World} (hI : hle I (hp w)) : Calls A 34 #[.string s] w (Ret w I fun r _ => r = .string (revS s)) := by
 have hrl := runesL_le s
 have M := Mem.start hI
 refine enter Tryd.func34 rfl 34 Tryd.ntmps34 [_] rfl ?_
 refine wc_seq ?_
 refine wc_region ?_
 refine wl_as M rfl rfl ?_
 refine wl_nil ?_
 refine wc_seq ?_
 refine wc_region ?_
 refine wl_mv M rfl rfl ?_
 refine wl_e (e_cvRR (E := ERune) (s := s) M (fun _ => rfl) Tryd.underlying9 Tryd.underlying47 Tryd.underlying21 rfl hs rfl) rfl rfl ?_
 rintro _ w1 ⟨u7, rfl, M⟩
 refine wl_as M rfl rfl ?_
 refine wl_nil ?_
 refine wc_seq ?_
 refine wc_seq ?_
 refine wc_region ?_
 refine wl_mv M rfl rfl ?_
 refine wl_m M (q_lenr 0 M rfl Tryd.underlying47 rfl) rfl rfl ?_
 refine wl_m M (q_sub rfl rfl (IntWalk.i64_in _ (by omega))) rfl rfl ?_
 refine wl_as M rfl rfl ?_
 refine wl_as M rfl rfl ?_
 refine wl_nil ?_
 refine wc_block ?_
 refine wc_loop (α := Nat × Int × (List Int)) [4, 5, 11, 12, 13, 14, 15, 16, 17, 18, 19, 20, 21, 22, 23, 24, 25, 26, 27, 28, 29, 30, 31] (fun ((k0, j0, l_7_0) : Nat × Int × (List Int)) => [(4, .int .i64 (k0 : Int)), (5, .int .i64 j0)])
   (fun ((k0, j0, l_7_0) : Nat × Int × (List Int)) w' => (j0 = ((runesL s).length : Int) - 1 - k0) ∧ (Swp (runesL s) l_7_0 k0) ∧ Mem w I I (row ERune (sv u7) l_7_0 :: []) w')
   (fun ((k0, j0, l_7_0) : Nat × Int × (List Int)) => (runesL s).length - k0) (0, ((runesL s).length : Int) - 1, runesL s) ⟨rfl, rfl, trivial⟩ ?_ ?_
 ·refine ⟨(by omega), Swp.init, ?_⟩
  exact M
 rintro ⟨k0, j0, l_7_0⟩ jj0 w2 ⟨hjk, hSw, M⟩
 refine wc_seq ?_
 refine wc_seq ?_
 refine wc_region ?_
 refine wl_mv M rfl rfl ?_
 refine wl_mv M rfl rfl ?_
 refine wl_m M (q_lss rfl rfl) rfl rfl ?_
 refine wl_nil ?_
 refine wc_dec rfl (fun ht13 => ?_) (fun ht13 => ?_)
 ·have hkj : (k0 : Int) < j0 := by simpa using ht13
  have hln := hSw.len
  obtain ⟨yi, hxi⟩ : ∃ y, l_7_0[k0]? = some y := ⟨_, List.getElem?_eq_getElem (by omega)⟩
  obtain ⟨yj, hxj⟩ : ∃ y, l_7_0[j0.toNat]? = some y := ⟨_, List.getElem?_eq_getElem (by omega)⟩
  refine wc_skip ?_
  refine wc_seq ?_
  refine wc_block ?_
  refine wc_draws (fun w' => Mem w I I (row ERune (sv u7) l_7_0 :: []) w' ∧ True) [13, 15] fol ?_
  replace M := M.drew
  have hS := (⟨M, trivial⟩ : _ ∧ _)
  refine wa_q 0 rfl (by kernel_rfl) (q_move rfl) hS rfl rfl ?_
  refine wa_q 1 rfl (by kernel_rfl) (q_move rfl) hS rfl rfl ?_
  refine wa_w 2 rfl (by kernel_rfl) (q_move rfl) (fun _ => hS) rfl rfl ?_
  refine wa_w 3 rfl (by kernel_rfl) (q_move rfl) (fun _ => hS) rfl rfl ?_
  refine wa_q 4 rfl (by kernel_rfl) (q_move rfl) hS rfl rfl ?_
  refine wa_q 5 rfl (by kernel_rfl) (q_move rfl) hS rfl rfl ?_
  refine wa_ixS (j := j0.toNat) 6 hS (fun _ h => h.1.rd (i := 0) rfl) rfl (by kernel_rfl) Tryd.underlying47 rfl (ixe (by omega)) hxj rfl (fun b24 o24 p24 => ?_)
  refine wa_q 7 rfl (by kernel_rfl) (q_ldp p24 rfl rfl) hS rfl rfl ?_
  refine wa_w 8 rfl (by kernel_rfl) (q_move rfl) (fun _ => hS) rfl rfl ?_
  refine wa_w 9 rfl (by kernel_rfl) (q_move rfl) (fun _ => hS) rfl rfl ?_
  refine wa_ixSw (j := k0) 10 hS (fun _ h => h.1.rd (i := 0) rfl) rfl (by kernel_rfl) Tryd.underlying47 rfl (ixe (by omega)) hxi rfl (fun b28 o28 p28 => ?_)
  refine wa_q 11 rfl (by kernel_rfl) (q_ldp p28 rfl rfl) hS rfl rfl ?_
  refine wa_ixw (j := k0) 12 0 M hS rfl rfl (by kernel_rfl) Tryd.underlying47 rfl (ixe (by omega)) (by omega) rfl (fun b30 o30 p30 => ?_)
  refine wa_e0 13 rfl (by kernel_rfl) (e_str (u := yj) 0 M rfl rfl rfl p30 (by omega) rfl) rfl ?_
  intro _ w3 M
  simp only [sC0, sCS] at M
  refine ⟨nofun, ?_⟩
  refine wa_ixw1 (j := j0.toNat) 14 0 M rfl rfl (by kernel_rfl) Tryd.underlying47 rfl (ixe (by omega)) (by rw [List.length_set]; omega) rfl nofun (fun b31 o31 p31 => ?_)
  refine wa_e0 15 rfl (by kernel_rfl) (e_str (u := yi) 0 M rfl rfl rfl p31 (by rw [List.length_set]; omega) rfl) rfl ?_
  intro _ w4 M
  simp only [sC0, sCS] at M
  refine ⟨nofun, ?_⟩
  refine wa_done (by kernel_rfl) ?_
  refine wc_region ?_
  refine wl_mv M rfl rfl ?_
  refine wl_m M (q_add rfl rfl (IntWalk.i64_in _ (by omega))) rfl rfl ?_
  refine wl_mv M rfl rfl ?_
  refine wl_m M (q_sub rfl rfl (IntWalk.i64_in _ (by omega))) rfl rfl ?_
  refine wl_as M rfl rfl ?_
  refine wl_as M rfl rfl ?_
  refine wl_nil ?_
  refine ⟨(k0 + 1, j0 - 1, (l_7_0.set k0 yj).set j0.toNat yi), ?_, ⟨(by omega), (hSw.step (by omega) (by omega) hxi hxj), M⟩, ⟨rfl, rfl, trivial⟩, unw_look rfl unw_base⟩
  show (runesL s).length - (k0 + 1) < (runesL s).length - k0
  omega
 have hkj : ¬ (k0 : Int) < j0 := by simpa using ht13
 have hrv := hSw.done (by omega)
 refine wc_exit rfl ?_
 refine wc_seq ?_
 refine wc_region ?_
 refine wl_mv M rfl rfl ?_
 refine wl_m M (q_cvS (E := ERune) (fun _ => rfl) rfl (fun _ M => M.rd (i := 0) rfl) Tryd.underlying47 Tryd.underlying21 Tryd.underlying9 rfl) rfl rfl ?_
 refine wl_as M rfl rfl ?_
 refine wl_nil ?_
 refine wc_ret ?_
 exact out1 rfl rfl ⟨_, _, rfl, (M.drop 0).grow, by rw [hrv]; rfl⟩
end Go.Proofs.YtoilmeiikgegcaaDoor.G
