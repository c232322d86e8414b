/- Walks of the program's functions. -/
import Derived.Test.YtfepjcmjkaolgaaGSrtT
set_option linter.all false
namespace Go.Proofs.Ytfepjcmjkaolgaa.G
open Go Go.RowKit
set_option maxRecDepth 4000 in
set_option maxHeartbeats 1000000 in
theorem trimP_c (t : Tra) {v : Value} {I : Heap} {w : World} (hI : hle I (hp w)) (R : t.rd I v) : Calls A 19 #[v] w (Ret w I fun r I' => (TrimP t).rd I' r) := by
 obtain ⟨fu1, au1, rfl, Rf1, Ra1⟩ := R
 have M := Mem.start hI
 refine enter Try.func19 rfl 139 Try.ntmps19 [_] rfl ?_
 refine wc_seq <| wc_region <| wl_e (e_box M rfl) rfl rfl ?_
 rintro _ w1 ⟨b1, rfl, M⟩
 refine wl_e (e_alloc M z25) rfl rfl ?_
 rintro _ w2 ⟨b2, rfl, M⟩
 refine wl_nil ?_
 refine wc_seq ?_
 refine wc_seq <| wc_region <| wl_m M (q_ldbA 1 Try.underlying25 rfl sz25 rfl rfl rfl rfl) rfl rfl <| wl_e (e_callC M (valid_c t M.imm ⟨_, _, rfl, Rf1, Ra1⟩) Try.func11 rfl rfl) rfl rfl ?_
 rintro _ w3 ⟨J15, hJ15, rfl, M⟩
 replace M := M.less hJ15 (fun _ _ => rfl)
 refine wl_m M (q_not rfl) rfl rfl <| wl_nil ?_
 refine wc_cond rfl (fun ht16 => ?_) (fun ht16 => ?_)
 ·refine wc_seq <| wc_region <| wl_m M (q_build (bd_25) trivial) rfl rfl ?_
  refine wl_e0 (e_stW 0 M rfl rfl rfl sz25 rfl rfl) rfl ?_
  intro _ w4 M
  simp only [sC0, sCS] at M
  refine wl_nil <| wc_ret ?_
  exact outc rfl rfl (load_boxA M 0 Try.underlying25 rfl sz25 rfl rfl rfl) ⟨_, _, rfl, M.grow, by rw [trimP_bad ht16]; exact ⟨nilV, nilV, rfl, rdSl_nil _, rdSl_nil _⟩⟩
 have hv : validT t = true := by simpa using ht16
 obtain ⟨m, ha, hrf⟩ := valid_rng hv
 have hrng := ha.rng hrf
 have hfl := valid_fl hv
 have hsd := validT_sorted hv
 have hs0 := ha.start
 have hal := ha.alen
 have hmst := ha.st
 have hmle := ha.le
 refine wc_skip ?_
 refine wc_seq ?_
 refine wc_seq <| wc_region <| wl_m M (q_ldbA 1 Try.underlying25 rfl sz25 rfl rfl rfl rfl) rfl rfl <| wl_e (e_callC M (emptyT_c t M.imm ⟨_, _, rfl, Rf1, Ra1⟩) Try.func17 rfl rfl) rfl rfl ?_
 rintro _ w5 ⟨J19, hJ19, rfl, M⟩
 replace M := M.less hJ19 (fun _ _ => rfl)
 refine wl_nil ?_
 refine wc_cond rfl (fun ht19 => ?_) (fun ht19 => ?_)
 ·refine wc_seq <| wc_region <| wl_m M (q_build (bd_25_0 _) ⟨⟨rfl, rfl⟩, trivial⟩) rfl rfl ?_
  refine wl_e0 (e_stW 0 M rfl rfl rfl sz25 rfl rfl) rfl ?_
  intro _ w6 M
  simp only [sC0, sCS] at M
  refine wl_nil <| wc_ret ?_
  exact outc rfl rfl (load_boxA M 0 Try.underlying25 rfl sz25 rfl rfl rfl) ⟨_, _, rfl, M.grow, by rw [trimP_one ha.start hv ht19]; exact ⟨nilV, nilV, rfl, rdSl_nil _, rdSl_nil _⟩⟩
 have hkst : kpS t t.start.toNat = true := by rw [empty_kp ha.start.1 hv] at ht19; simpa using ht19
 refine wc_skip ?_
 refine wc_seq ?_
 refine wc_join (α := Heap × (List Bool) × (List Bool) × SV × SV) [3, 4, 21, 22, 23, 24, 25, 26, 27, 28, 29] (fun ((I6, up, dn, u25, u29) : Heap × (List Bool) × (List Bool) × SV × SV) => [(3, sv u25), (4, sv u29)]) (fun ((I6, up, dn, u25, u29) : Heap × (List Bool) × (List Bool) × SV × SV) w' => hle I I6 ∧ rdSl EBool I6 (sv u25) up ∧ rdSl EBool I6 (sv u29) dn ∧ up.length = m ∧ dn.length = m ∧ (∀ s, bt up s ↔ Reach (stp t true) (· ∈ [t.start]) s) ∧ (∀ s, bt dn s ↔ Reach (stp t false) (· ∈ t.finals) s) ∧ Mem w I I6 (box b2 25 [.int .i64 0, .int .i64 0, .slice none 0 0, .slice none 0 0] :: box b1 25 [.int .i64 t.states, .int .i64 t.start, sv fu1, sv au1] :: []) w') ?_ ?_
 ·refine wc_draws (fun w' => Mem w I I (box b2 25 [.int .i64 0, .int .i64 0, .slice none 0 0, .slice none 0 0] :: box b1 25 [.int .i64 t.states, .int .i64 t.start, sv fu1, sv au1] :: []) w' ∧ True) [] fol ?_
  replace M := M.drew
  have hS := (⟨M, trivial⟩ : _ ∧ _)
  refine wa_q 0 rfl (by kernel_rfl) ((q_ldbA 1 Try.underlying25 rfl sz25 rfl rfl rfl rfl).mono fun _ h => h.1) hS rfl rfl ?_
  refine wa_q 1 rfl (by kernel_rfl) (q_fa fo_25_1 rfl) hS rfl rfl ?_
  refine wa_q 2 rfl (by kernel_rfl) ((q_ldb 1 Try.underlying3 rfl rfl rfl rfl).mono fun _ h => h.1) hS rfl rfl ?_
  refine wa_q 5 rfl (by kernel_rfl) ((q_ldbA 1 Try.underlying25 rfl sz25 rfl rfl rfl rfl).mono fun _ h => h.1) hS rfl rfl ?_
  refine wa_q 6 rfl (by kernel_rfl) (q_fa fo_25_2 rfl) hS rfl rfl ?_
  refine wa_q 7 rfl (by kernel_rfl) ((q_ldb 1 Try.underlying22 rfl rfl rfl rfl).mono fun _ h => h.1) hS rfl rfl ?_
  refine wa_e 3 rfl (by kernel_rfl) (e_bsI (E := EInt) (xs := [t.start]) M (bs_22_1 _) ⟨⟨rfl, rfl⟩, trivial⟩ rfl rfl (by decide)) rfl rfl ?_
  rintro _ w7 ⟨u24, J24, rfl, hJ24, R24, M⟩
  have hoJ24 := M.old
  have hS := (⟨(M.less hJ24 (fun _ _ => rfl)), trivial⟩ : _ ∧ _)
  refine ⟨fun _ => hS, ?_⟩
  refine wa_e 4 rfl (by kernel_rfl) (e_callC M (reachedT_c ha.st ha.le ha.arcs ha.alen (fr := [t.start]) (fun f hf => by rw [List.mem_singleton.1 hf]; exact ha.start) (by simp) false M.imm ⟨_, _, rfl, (Rf1.mono hJ24), (Ra1.mono hJ24)⟩ R24) Try.func48 rfl rfl) rfl rfl ?_
  rintro v25 w8 ⟨J25, hJ25, ⟨up, R25, hul, hup⟩, M⟩
  obtain ⟨u25, rfl⟩ := rdSl_slice R25
  have hoJ25 := M.old
  have hS := (⟨(M.less (hle.trans hJ24 hJ25) (fun _ _ => rfl)), trivial⟩ : _ ∧ _)
  refine ⟨fun _ => hS, ?_⟩
  refine wa_e 8 rfl (by kernel_rfl) (e_callC M (reachedT_c ha.st ha.le ha.arcs ha.alen (fr := t.finals) hrf hfl true M.imm ⟨_, _, rfl, ((Rf1.mono hJ24).mono hJ25), ((Ra1.mono hJ24).mono hJ25)⟩ ((Rf1.mono hJ24).mono hJ25)) Try.func48 rfl rfl) rfl rfl ?_
  rintro v29 w9 ⟨J29, hJ29, ⟨dn, R29, hdl, hdn⟩, M⟩
  obtain ⟨u29, rfl⟩ := rdSl_slice R29
  have hoJ29 := M.old
  have hS := (⟨(M.less (hle.trans (hle.trans hJ24 hJ25) hJ29) (fun _ _ => rfl)), trivial⟩ : _ ∧ _)
  refine ⟨fun _ => hS, ?_⟩
  refine wa_q 9 rfl (by kernel_rfl) (q_assign rfl) hS rfl rfl ?_
  refine wa_q 10 rfl (by kernel_rfl) (q_assign rfl) hS rfl rfl ?_
  refine wa_done (by kernel_rfl) ?_
  exact ⟨(J29, up, dn, u25, u29), ⟨(hle.trans (hle.trans hJ24 hJ25) hJ29), (R25.mono hJ29), R29, hul, hdl, hup, hdn, M⟩, ⟨rfl, rfl, trivial⟩, unw_take 11 rfl rfl⟩
 rintro ⟨I6, up, dn, u25, u29⟩ jr5 w10 ⟨hI6, R25, R29, hul, hdl, hup, hdn, M⟩
 have hoI6 := M.old
 refine wc_seq <| wc_region <| wl_m M (q_fa fo_25_0 rfl) rfl rfl <| wl_m M (q_ldb 1 Try.underlying3 rfl rfl rfl rfl) rfl rfl <| wl_e (e_make (E := EInt) (zv := 0) (m := m) M Try.underlying22 z3 (by rw [ha.st]; rfl) (by rw [ha.st]; rfl) (by show _ * 8 ≤ _; omega)) rfl rfl ?_
 rintro _ w11 ⟨u32, rfl, M⟩
 refine wl_as M rfl rfl <| wl_nil ?_
 refine wc_seq <| wc_region <| wl_e (e_alloc M z25) rfl rfl ?_
 rintro _ w12 ⟨b6, rfl, M⟩
 refine wl_nil ?_
 refine wc_seq ?_
 refine wc_seq ?_
 replace M := M.nilRow EInt
 replace M := M.nilRow EArc
 refine wc_region <| wl_m M (q_fa fo_25_0 rfl) rfl rfl <| wl_m M (q_ldb 5 Try.underlying3 rfl rfl rfl rfl) rfl rfl <| wl_mv M rfl rfl <| wl_nil <| wc_block ?_
 refine wc_loop (α := Nat × (List Int)) [7, 35, 36, 37, 38, 39, 40, 41, 42, 43, 44, 45, 46, 47, 48, 49, 50, 51, 52, 53, 54, 55, 56, 57, 58, 59, 60] (fun ((k0, l_32_0) : Nat × (List Int)) => [(35, .int .i64 (k0 : Int))])
   (fun ((k0, l_32_0) : Nat × (List Int)) w' => (k0 ≤ m) ∧ (l_32_0 = nuQ (kpS t) m k0) ∧ Mem w I I6 (row EArc (sv nilV) [] :: row EInt (sv nilV) [] :: box b6 25 [.int .i64 (rk (kpS t) k0 : Int), .int .i64 0, sv nilV, sv nilV] :: row EInt (sv u32) l_32_0 :: box b2 25 [.int .i64 0, .int .i64 0, .slice none 0 0, .slice none 0 0] :: box b1 25 [.int .i64 t.states, .int .i64 t.start, sv fu1, sv au1] :: []) w')
   (fun ((k0, l_32_0) : Nat × (List Int)) => m - k0) (0, List.replicate m 0) ⟨rfl, trivial⟩ ?_ ?_
 ·refine ⟨Nat.zero_le _, (by simp [nuQ]), ?_⟩
  exact M
 rintro ⟨k0, l_32_0⟩ jj0 w13 ⟨hk0, hnu, M⟩
 have hoI6 := M.old
 refine wc_seq <| wc_region <| wl_m M (q_lss rfl rfl) rfl rfl <| wl_nil ?_
 refine wc_seq ?_
 refine wc_dec rfl (fun ht36 => ?_) (fun ht36 => ?_)
 ·refine wc_skip ?_
  refine wc_seq <| wc_block ?_
  refine wc_seq <| wc_region <| wl_mv M rfl rfl <| wl_as M rfl rfl <| wl_nil ?_
  refine wc_seq <| wc_region <| wl_mv M rfl rfl <| wl_mv M rfl rfl ?_
  refine wl_ixw (j := k0) 3 M rfl Try.underlying22 rfl rfl (by rw [hnu, nuQ_len (by omega)]; omega) rfl (fun b40 o40 p40 => ?_)
  refine wl_e0 (e_str (u := -1) 3 M rfl rfl rfl p40 (by rw [hnu, nuQ_len (by omega)]; omega) rfl) rfl ?_
  intro _ w14 M
  simp only [sC0, sCS] at M
  refine wl_nil ?_
  refine wc_seq ?_
  refine wc_join (α := Unit) [41, 42, 43, 44, 45, 46, 47, 48, 49, 50] (fun _ => [(50, .bool ((up.getD k0 false) && (dn.getD k0 false)))]) (fun _ w' => Mem w I I6 (row EArc (sv nilV) [] :: row EInt (sv nilV) [] :: box b6 25 [.int .i64 (rk (kpS t) k0 : Int), .int .i64 0, sv nilV, sv nilV] :: row EInt (sv u32) (l_32_0.set k0 (-1)) :: box b2 25 [.int .i64 0, .int .i64 0, .slice none 0 0, .slice none 0 0] :: box b1 25 [.int .i64 t.states, .int .i64 t.start, sv fu1, sv au1] :: []) w') ?_ ?_
  ·refine wc_region <| wl_mv M rfl rfl <| wl_mv M rfl rfl ?_
   refine wl_ix (j := k0) M R25 Try.underlying89 rfl (ixe (by omega)) (getD_at (d := false) (by omega)) rfl (fun b43 o43 p43 => ?_)
   refine wl_m M (q_ldp p43 rfl rfl) rfl rfl <| wl_mv M rfl rfl ?_
   rcases Bool.eq_false_or_eq_true ((up.getD k0 false)) with hg45 | hg45
   ·refine wl_m M (q_guard 4 rfl rfl rfl hg45 (q_move rfl)) rfl rfl <| wl_m M (q_guard 4 rfl rfl rfl hg45 (q_move rfl)) rfl rfl ?_
    refine wl_ixG (j := k0) 4 rfl rfl rfl hg45 M R29 Try.underlying89 rfl (ixe (by omega)) (getD_at (d := false) (by omega)) rfl (fun b48 o48 p48 => ?_)
    refine wl_m M (q_guard 4 rfl rfl rfl hg45 (q_ldp p48 rfl rfl)) rfl rfl <| wl_m M (q_pickT rfl hg45 rfl) rfl rfl <| wl_nil ?_
    exact ⟨(), M, ⟨(show some (Value.bool (dn.getD k0 false)) = some (Value.bool ((up.getD k0 false) && (dn.getD k0 false))) from by first | (simp only [hg45, bL8]; done) | (simp_all; done) | (simp_all; omega)), trivial⟩, unw_take 10 rfl rfl⟩
   refine wl_m M (q_off 4 rfl rfl rfl hg45) rfl rfl <| wl_m M (q_off 4 rfl rfl rfl hg45) rfl rfl <| wl_m M (q_off 4 rfl rfl rfl hg45) rfl rfl <| wl_m M (q_off 4 rfl rfl rfl hg45) rfl rfl <| wl_m M (q_pickF rfl hg45 rfl) rfl rfl <| wl_nil ?_
   exact ⟨(), M, ⟨(show some (Value.bool false) = some (Value.bool ((up.getD k0 false) && (dn.getD k0 false))) from by first | (simp only [hg45, bL8]; done) | (simp_all; done) | (simp_all; omega)), trivial⟩, unw_take 10 rfl rfl⟩
  rintro _ jr12 w15 M
  refine wc_cond rfl (fun ht50 => ?_) (fun ht50 => ?_)
  ·have hrl := rk_le (kpS t) k0
   have hkk : kpS t k0 = true := by rw [← kpB_S hup hdn]; exact ht50
   refine wc_seq <| wc_region <| wl_mv M rfl rfl <| wl_mv M rfl rfl <| wl_m M (q_fa fo_25_0 rfl) rfl rfl <| wl_m M (q_ldb 2 Try.underlying3 rfl rfl rfl rfl) rfl rfl ?_
   refine wl_ixw (j := k0) 3 M rfl Try.underlying22 rfl rfl (by rw [hnu, List.length_set, nuQ_len (by omega)]; omega) rfl (fun b55 o55 p55 => ?_)
   refine wl_e0 (e_str (u := (rk (kpS t) k0 : Int)) 3 M rfl rfl rfl p55 (by rw [hnu, List.length_set, nuQ_len (by omega)]; omega) rfl) rfl ?_
   intro _ w16 M
   simp only [sC0, sCS] at M
   refine wl_nil <| wc_region <| wl_m M (q_fa fo_25_0 rfl) rfl rfl <| wl_m M (q_ldb 2 Try.underlying3 rfl rfl rfl rfl) rfl rfl <| wl_m M (q_add rfl rfl (IntWalk.i64_in _ (by omega))) rfl rfl ?_
   refine wl_m M (q_fa fo_25_0 rfl) rfl rfl ?_
   refine wl_e0 (e_stb 2 M rfl rfl rfl sz3 rfl rfl) rfl ?_
   intro _ w17 M
   simp only [sC0, sCS] at M
   refine wl_nil <| wc_region <| wl_m M (q_add rfl rfl (IntWalk.i64_in _ (by omega))) rfl rfl ?_
   refine wl_mv M rfl rfl <| wl_nil ?_
   rw [rk_hit hkk] at M
   refine ⟨(k0 + 1, (l_32_0.set k0 (-1)).set k0 (rk (kpS t) k0 : Int)), ?_, ⟨(by omega), (by rw [hnu, nuQ_hit (by omega) hkk]), M⟩, ⟨rfl, trivial⟩, unw_look rfl (unw_hav rfl (unw_look rfl unw_base))⟩
   show m - (k0 + 1) < m - k0
   omega
  have hkk : kpS t k0 = false := by rw [← kpB_S hup hdn]; exact ht50
  refine wc_skip <| wc_region <| wl_m M (q_add rfl rfl (IntWalk.i64_in _ (by omega))) rfl rfl ?_
  refine wl_mv M rfl rfl <| wl_nil ?_
  rw [← rk_skip hkk] at M
  refine ⟨(k0 + 1, l_32_0.set k0 (-1)), ?_, ⟨(by omega), (by rw [hnu, nuQ_skip (by omega) hkk]), M⟩, ⟨rfl, trivial⟩, unw_look rfl (unw_hav rfl (unw_look rfl unw_base))⟩
  show m - (k0 + 1) < m - k0
  omega
 have hke0 : k0 = m := by omega
 rw [hke0] at hnu
 refine wc_exit rfl ?_
 refine wc_seq <| wc_region <| wl_mv M rfl rfl <| wl_m M (q_fa fo_25_1 rfl) rfl rfl <| wl_m M (q_ldb 5 Try.underlying3 rfl rfl rfl rfl) rfl rfl ?_
 refine wl_ixr (j := ((t.start).toNat)) 3 M rfl Try.underlying22 rfl (ixe (by omega)) (by rw [hnu]; exact nuQ_at (by omega)) rfl (fun b64 o64 p64 => ?_)
 refine wl_m M (q_ldp p64 rfl rfl) rfl rfl <| wl_m M (q_fa fo_25_1 rfl) rfl rfl ?_
 refine wl_e0 (e_stb 2 M rfl rfl rfl sz3 rfl rfl) rfl ?_
 intro _ w18 M
 simp only [sC0, sCS] at M
 refine wl_nil ?_
 refine wc_seq ?_
 refine wc_seq <| wc_region <| wl_m M (q_fa fo_25_2 rfl) rfl rfl <| wl_m M (q_ldb 5 Try.underlying22 rfl rfl rfl rfl) rfl rfl <| wl_m M (q_lenR (Rf1.mono hI6) Try.underlying22 rfl) rfl rfl <| wl_mv M rfl rfl <| wl_nil <| wc_block ?_
 refine wc_loop (α := Nat × SV × (List Int)) [9, 70, 71, 72, 73, 74, 75, 76, 77, 78, 79, 80, 81, 82, 83, 84, 85, 86, 87, 88] (fun ((k2, u_f_2, l_f_2) : Nat × SV × (List Int)) => [(70, .int .i64 (k2 : Int))])
   (fun ((k2, u_f_2, l_f_2) : Nat × SV × (List Int)) w' => (k2 ≤ t.finals.length) ∧ (l_f_2 = (t.finals.take k2).flatMap (finQ (kpS t))) ∧ Mem w I I6 (row EArc (sv nilV) [] :: row EInt (sv u_f_2) l_f_2 :: box b6 25 [.int .i64 (rk (kpS t) k0 : Int), .int .i64 (nuP (kpS t) (t.start).toNat), sv u_f_2, sv nilV] :: row EInt (sv u32) l_32_0 :: box b2 25 [.int .i64 0, .int .i64 0, .slice none 0 0, .slice none 0 0] :: box b1 25 [.int .i64 t.states, .int .i64 t.start, sv fu1, sv au1] :: []) w')
   (fun ((k2, u_f_2, l_f_2) : Nat × SV × (List Int)) => t.finals.length - k2) (0, nilV, []) ⟨rfl, trivial⟩ ?_ ?_
 ·refine ⟨Nat.zero_le _, rfl, ?_⟩
  exact M
 rintro ⟨k2, u_f_2, l_f_2⟩ jj2 w19 ⟨hk2, hff, M⟩
 have hoI6 := M.old
 refine wc_seq <| wc_region <| wl_m M (q_lss rfl rfl) rfl rfl <| wl_nil ?_
 refine wc_seq ?_
 refine wc_dec rfl (fun ht71 => ?_) (fun ht71 => ?_)
 ·obtain ⟨x2, hx2⟩ : ∃ x_, t.finals[k2]? = some x_ := ⟨_, List.getElem?_eq_getElem (by omega)⟩
  have hll2 := ((Rf1.mono hI6)).len_le
  have hx2r := hrf x2 (List.mem_of_getElem? hx2)
  refine wc_skip ?_
  refine wc_seq <| wc_block ?_
  refine wc_seq <| wc_region ?_
  refine wl_ix (j := k2) M (Rf1.mono hI6) Try.underlying22 rfl rfl hx2 rfl (fun b72 o72 p72 => ?_)
  refine wl_m M (q_ldp p72 rfl rfl) rfl rfl <| wl_as M rfl rfl <| wl_nil ?_
  refine wc_seq <| wc_region <| wl_mv M rfl rfl <| wl_mv M rfl rfl ?_
  refine wl_ixr (j := ((x2).toNat)) 3 M rfl Try.underlying22 rfl (ixe (by omega)) (by rw [hnu]; exact nuQ_at (by omega)) rfl (fun b76 o76 p76 => ?_)
  refine wl_m M (q_ldp p76 rfl rfl) rfl rfl <| wl_m M (q_geq rfl rfl) rfl rfl <| wl_nil ?_
  refine wc_dec rfl (fun ht78 => ?_) (fun ht78 => ?_)
  ·have hk78 : kpS t x2.toNat = true := nuP_nn.symm.trans (decide_eq_true ht78)
   refine wc_draws (fun w' => Mem w I I6 (row EArc (sv nilV) [] :: box b6 25 [.int .i64 (rk (kpS t) k0 : Int), .int .i64 (nuP (kpS t) (t.start).toNat), sv u_f_2, sv nilV] :: row EInt (sv u32) l_32_0 :: box b2 25 [.int .i64 0, .int .i64 0, .slice none 0 0, .slice none 0 0] :: box b1 25 [.int .i64 t.states, .int .i64 t.start, sv fu1, sv au1] :: []) w' ∧ True) [9] fol ?_
   replace M := M.drew
   have hS := (⟨(M.drop 1), trivial⟩ : _ ∧ _)
   refine wa_q 0 rfl (by kernel_rfl) (q_fa fo_25_2 rfl) hS rfl rfl ?_
   refine wa_q 1 rfl (by kernel_rfl) ((q_ldb 1 Try.underlying22 rfl rfl rfl rfl).mono fun _ h => h.1) hS rfl rfl ?_
   refine wa_q 2 rfl (by kernel_rfl) (q_move rfl) hS rfl rfl ?_
   refine wa_q 3 rfl (by kernel_rfl) (q_move rfl) hS rfl rfl ?_
   refine wa_ixS (j := ((x2).toNat)) 4 hS (fun _ h => h.1.rd (i := 2) rfl) rfl (by kernel_rfl) Try.underlying22 rfl (ixe (by omega)) (by rw [hnu]; exact nuQ_at (by omega)) rfl (fun b83 o83 p83 => ?_)
   refine wa_q 5 rfl (by kernel_rfl) (q_ldp p83 rfl rfl) hS rfl rfl ?_
   refine wa_e 6 rfl (by kernel_rfl) (e_bsI (E := EInt) (xs := [(nuP (kpS t) (x2).toNat)]) M (bs_22_1 _) ⟨⟨rfl, rfl⟩, trivial⟩ rfl rfl (by decide)) rfl rfl ?_
   rintro _ w20 ⟨u85, J85, rfl, hJ85, R85, M⟩
   have hoJ85 := M.old
   have hS := (⟨((M.less hJ85 hoI6).drop 1), trivial⟩ : _ ∧ _)
   refine ⟨fun _ => hS, ?_⟩
   refine wa_e 7 rfl (by kernel_rfl) (e_app 1 M rfl R85 Try.underlying22 rfl rfl (by have := take_flat_len (finQ_len (kpS t)) t.finals k2; rw [hff]; show (_ + 1) * 8 ≤ _; omega)) rfl rfl ?_
   rintro _ w21 ⟨u86, rfl, M⟩
   simp only [sC0, sCS] at M
   have hS := (⟨((M.less hJ85 hoI6).drop 1), trivial⟩ : _ ∧ _)
   refine ⟨fun _ => hS, ?_⟩
   replace M := M.less hJ85 hoI6
   refine wa_q 8 rfl (by kernel_rfl) (q_fa fo_25_2 rfl) hS rfl rfl ?_
   refine wa_e0 9 rfl (by kernel_rfl) (e_stb 2 M rfl rfl rfl sz22 rfl rfl) rfl ?_
   intro _ w22 M
   simp only [sC0, sCS] at M
   refine ⟨nofun, ?_⟩
   refine wa_done (by kernel_rfl) ?_
   refine wc_region <| wl_m M (q_add rfl rfl (IntWalk.i64_in _ (by omega))) rfl rfl ?_
   refine wl_mv M rfl rfl <| wl_nil ?_
   refine ⟨(k2 + 1, u86, l_f_2 ++ [(nuP (kpS t) (x2).toNat)]), ?_, ⟨(by omega), (by rw [take_flat hx2, hff, finQ, if_pos hk78, nuP_at hk78]), M⟩, ⟨rfl, trivial⟩, unw_look rfl unw_base⟩
   show t.finals.length - (k2 + 1) < t.finals.length - k2
   omega
  have hk78 : kpS t x2.toNat = false := nuP_nn.symm.trans (decide_eq_false ht78)
  refine wc_skip <| wc_region <| wl_m M (q_add rfl rfl (IntWalk.i64_in _ (by omega))) rfl rfl ?_
  refine wl_mv M rfl rfl <| wl_nil ?_
  refine ⟨(k2 + 1, u_f_2, l_f_2), ?_, ⟨(by omega), (by rw [take_flat hx2, hff, finQ, if_neg (by rw [hk78]; decide), List.append_nil]), M⟩, ⟨rfl, trivial⟩, unw_look rfl unw_base⟩
  show t.finals.length - (k2 + 1) < t.finals.length - k2
  omega
 have hke2 : k2 = t.finals.length := by omega
 rw [hke2, List.take_length] at hff
 refine wc_exit rfl ?_
 refine wc_seq <| wc_region <| wl_e (e_mkm QArc Value.bool M) rfl rfl ?_
 rintro _ w23 ⟨b89, rfl, M⟩
 refine wl_as M rfl rfl <| wl_nil ?_
 refine wc_seq ?_
 refine wc_seq <| wc_region <| wl_m M (q_fa fo_25_3 rfl) rfl rfl <| wl_m M (q_ldb 6 Try.underlying23 rfl rfl rfl rfl) rfl rfl <| wl_m M (q_lenR (Ra1.mono hI6) Try.underlying23 rfl) rfl rfl <| wl_mv M rfl rfl <| wl_nil <| wc_block ?_
 refine wc_loop (α := Nat × SV × (List Arc) × (List (Arc × Bool))) [12, 13, 93, 94, 95, 96, 97, 98, 99, 100, 101, 102, 103, 104, 105, 106, 107, 108, 109, 110, 111, 112, 113, 114, 115, 116, 117, 118, 119, 120, 121, 122, 123, 124, 125, 126, 127, 128, 129, 130, 131, 132, 133, 134] (fun ((k4, u_a_4, l_a_4, m_89_4) : Nat × SV × (List Arc) × (List (Arc × Bool))) => [(93, .int .i64 (k4 : Int))])
   (fun ((k4, u_a_4, l_a_4, m_89_4) : Nat × SV × (List Arc) × (List (Arc × Bool))) w' => (k4 ≤ t.arcs.length) ∧ (l_a_4.Nodup ∧ ∀ z, z ∈ l_a_4 ↔ z ∈ (t.arcs.take k4).flatMap (arcQ (kpS t))) ∧ (m_89_4 = tr l_a_4) ∧ (l_a_4.length ≤ k4) ∧ Mem w I I6 (mpr QArc Value.bool b89 m_89_4 :: row EArc (sv u_a_4) l_a_4 :: row EInt (sv u_f_2) l_f_2 :: box b6 25 [.int .i64 (rk (kpS t) k0 : Int), .int .i64 (nuP (kpS t) (t.start).toNat), sv u_f_2, sv u_a_4] :: row EInt (sv u32) l_32_0 :: box b2 25 [.int .i64 0, .int .i64 0, .slice none 0 0, .slice none 0 0] :: box b1 25 [.int .i64 t.states, .int .i64 t.start, sv fu1, sv au1] :: []) w')
   (fun ((k4, u_a_4, l_a_4, m_89_4) : Nat × SV × (List Arc) × (List (Arc × Bool))) => t.arcs.length - k4) (0, nilV, [], []) ⟨rfl, trivial⟩ ?_ ?_
 ·refine ⟨Nat.zero_le _, ⟨by simp, by simp⟩, rfl, (by simp), ?_⟩
  exact M
 rintro ⟨k4, u_a_4, l_a_4, m_89_4⟩ jj4 w24 ⟨hk4, hnd, hmt, hln, M⟩
 have hoI6 := M.old
 refine wc_seq <| wc_region <| wl_m M (q_lss rfl rfl) rfl rfl <| wl_nil ?_
 refine wc_seq ?_
 refine wc_dec rfl (fun ht94 => ?_) (fun ht94 => ?_)
 ·obtain ⟨x4, hx4⟩ : ∃ x_, t.arcs[k4]? = some x_ := ⟨_, List.getElem?_eq_getElem (by omega)⟩
  have hll4 := ((Ra1.mono hI6)).len_le
  have hx4r := ha.arcs x4 (List.mem_of_getElem? hx4)
  refine wc_skip ?_
  refine wc_seq <| wc_block ?_
  refine wc_seq <| wc_region ?_
  refine wl_ix (j := k4) M (Ra1.mono hI6) Try.underlying23 rfl rfl hx4 rfl (fun b95 o95 p95 => ?_)
  refine wl_m M (q_ldp p95 rfl rfl) rfl rfl <| wl_e (e_alloc M z50) rfl rfl ?_
  rintro _ w25 ⟨b12, rfl, M⟩
  refine wl_e0 (e_stW 0 M rfl rfl rfl sz50 rfl rfl) rfl ?_
  intro _ w26 M
  simp only [sC0, sCS] at M
  refine wl_nil ?_
  refine wc_seq ?_
  refine wc_draws (fun w' => Mem w I I6 (box b12 50 [.int .i64 x4.src, .int .i64 x4.dst, .int .i32 x4.inp, .int .i32 x4.out] :: mpr QArc Value.bool b89 m_89_4 :: row EArc (sv u_a_4) l_a_4 :: row EInt (sv u_f_2) l_f_2 :: box b6 25 [.int .i64 (rk (kpS t) k0 : Int), .int .i64 (nuP (kpS t) (t.start).toNat), sv u_f_2, sv u_a_4] :: row EInt (sv u32) l_32_0 :: box b2 25 [.int .i64 0, .int .i64 0, .slice none 0 0, .slice none 0 0] :: box b1 25 [.int .i64 t.states, .int .i64 t.start, sv fu1, sv au1] :: []) w' ∧ True) [16] fol ?_
  replace M := M.drew
  have hS := (⟨M, trivial⟩ : _ ∧ _)
  refine wa_q 0 rfl (by kernel_rfl) (q_move rfl) hS rfl rfl ?_
  refine wa_q 1 rfl (by kernel_rfl) (q_fa fo_50_0 rfl) hS rfl rfl ?_
  refine wa_q 2 rfl (by kernel_rfl) ((q_ldb 0 Try.underlying3 rfl rfl rfl rfl).mono fun _ h => h.1) hS rfl rfl ?_
  refine wa_ixS (j := ((x4.src).toNat)) 3 hS (fun _ h => h.1.rd (i := 5) rfl) rfl (by kernel_rfl) Try.underlying22 rfl (ixe (by omega)) (by rw [hnu]; exact nuQ_at (by omega)) rfl (fun b100 o100 p100 => ?_)
  refine wa_q 4 rfl (by kernel_rfl) (q_ldp p100 rfl rfl) hS rfl rfl ?_
  refine wa_q 5 rfl (by kernel_rfl) (q_move rfl) hS rfl rfl ?_
  refine wa_q 6 rfl (by kernel_rfl) (q_fa fo_50_1 rfl) hS rfl rfl ?_
  refine wa_q 7 rfl (by kernel_rfl) ((q_ldb 0 Try.underlying3 rfl rfl rfl rfl).mono fun _ h => h.1) hS rfl rfl ?_
  refine wa_ixS (j := ((x4.dst).toNat)) 8 hS (fun _ h => h.1.rd (i := 5) rfl) rfl (by kernel_rfl) Try.underlying22 rfl (ixe (by omega)) (by rw [hnu]; exact nuQ_at (by omega)) rfl (fun b105 o105 p105 => ?_)
  refine wa_q 9 rfl (by kernel_rfl) (q_ldp p105 rfl rfl) hS rfl rfl ?_
  refine wa_q 10 rfl (by kernel_rfl) (q_fa fo_50_2 rfl) hS rfl rfl ?_
  refine wa_q 11 rfl (by kernel_rfl) ((q_ldb 0 Try.underlying21 rfl rfl rfl rfl).mono fun _ h => h.1) hS rfl rfl ?_
  refine wa_q 12 rfl (by kernel_rfl) (q_fa fo_50_3 rfl) hS rfl rfl ?_
  refine wa_q 13 rfl (by kernel_rfl) ((q_ldb 0 Try.underlying21 rfl rfl rfl rfl).mono fun _ h => h.1) hS rfl rfl ?_
  refine wa_q 14 rfl (by kernel_rfl) (q_build (bd_50_0_1_2_3 _ _ _ _) ⟨⟨rfl, rfl⟩, ⟨rfl, rfl⟩, ⟨rfl, rfl⟩, ⟨rfl, rfl⟩, trivial⟩) hS rfl rfl ?_
  refine wa_e 15 rfl (by kernel_rfl) (e_alloc M z50) rfl rfl ?_
  rintro _ w27 ⟨b13, rfl, M⟩
  have hS := (⟨(M.drop 0), trivial⟩ : _ ∧ _)
  refine ⟨fun _ => hS, ?_⟩
  refine wa_e0 16 rfl (by kernel_rfl) (e_stW 0 M rfl rfl rfl sz50 rfl rfl) rfl ?_
  intro _ w28 M
  simp only [sC0, sCS] at M
  refine ⟨nofun, ?_⟩
  refine wa_done (by kernel_rfl) ?_
  refine wc_seq ?_
  refine wc_join (α := Unit) [112, 113, 114, 115, 116, 117, 118, 119, 120, 121, 122, 123, 124, 125] (fun _ => [(125, .bool (((decide (0 ≤ (nuP (kpS t) (x4.src).toNat))) && (decide (0 ≤ (nuP (kpS t) (x4.dst).toNat)))) && (!((aget m_89_4 (Arc.mk (nuP (kpS t) (x4.src).toNat) (nuP (kpS t) (x4.dst).toNat) x4.inp x4.out)).getD false))))]) (fun _ w' => Mem w I I6 (box b13 50 [.int .i64 (nuP (kpS t) (x4.src).toNat), .int .i64 (nuP (kpS t) (x4.dst).toNat), .int .i32 x4.inp, .int .i32 x4.out] :: box b12 50 [.int .i64 x4.src, .int .i64 x4.dst, .int .i32 x4.inp, .int .i32 x4.out] :: mpr QArc Value.bool b89 m_89_4 :: row EArc (sv u_a_4) l_a_4 :: row EInt (sv u_f_2) l_f_2 :: box b6 25 [.int .i64 (rk (kpS t) k0 : Int), .int .i64 (nuP (kpS t) (t.start).toNat), sv u_f_2, sv u_a_4] :: row EInt (sv u32) l_32_0 :: box b2 25 [.int .i64 0, .int .i64 0, .slice none 0 0, .slice none 0 0] :: box b1 25 [.int .i64 t.states, .int .i64 t.start, sv fu1, sv au1] :: []) w') ?_ ?_
  ·refine wc_region <| wl_m M (q_fa fo_50_0 rfl) rfl rfl <| wl_m M (q_ldb 0 Try.underlying3 rfl rfl rfl rfl) rfl rfl <| wl_m M (q_geq rfl rfl) rfl rfl <| wl_mv M rfl rfl ?_
   rcases Bool.eq_false_or_eq_true (decide (0 ≤ (nuP (kpS t) (x4.src).toNat))) with hg115 | hg115
   ·refine wl_m M (q_guard 3 rfl rfl rfl hg115 (q_fa fo_50_1 rfl)) rfl rfl <| wl_m M (q_guard 3 rfl rfl rfl hg115 (q_ldb 0 Try.underlying3 rfl rfl rfl rfl)) rfl rfl <| wl_m M (q_guard 3 rfl rfl rfl hg115 (q_geq rfl rfl)) rfl rfl <| wl_m M (q_pickT rfl hg115 rfl) rfl rfl <| wl_mv M rfl rfl ?_
    rcases Bool.eq_false_or_eq_true (decide (0 ≤ (nuP (kpS t) (x4.dst).toNat))) with hg120 | hg120
    ·refine wl_m M (q_guard 8 rfl rfl rfl hg120 (q_move rfl)) rfl rfl <| wl_m M (q_guard 8 rfl rfl rfl hg120 (q_ldbA 0 Try.underlying50 rfl sz50 rfl rfl rfl rfl)) rfl rfl <| wl_m M (q_guard 8 rfl rfl rfl hg120 (q_lk (k := (Arc.mk (nuP (kpS t) (x4.src).toNat) (nuP (kpS t) (x4.dst).toNat) x4.inp x4.out)) (z := false) 2 rfl Try.underlying91 zv4 rfl rfl)) rfl rfl <| wl_m M (q_guard 8 rfl rfl rfl hg120 (q_not rfl)) rfl rfl <| wl_m M (q_pickT rfl hg120 rfl) rfl rfl <| wl_nil ?_
     exact ⟨(), M, ⟨(show some (Value.bool (!((aget m_89_4 (Arc.mk (nuP (kpS t) (x4.src).toNat) (nuP (kpS t) (x4.dst).toNat) x4.inp x4.out)).getD false))) = some (Value.bool (((decide (0 ≤ (nuP (kpS t) (x4.src).toNat))) && (decide (0 ≤ (nuP (kpS t) (x4.dst).toNat)))) && (!((aget m_89_4 (Arc.mk (nuP (kpS t) (x4.src).toNat) (nuP (kpS t) (x4.dst).toNat) x4.inp x4.out)).getD false)))) from by first | (simp only [hg115, hg120, bL8]; done) | (simp_all; done) | (simp_all; omega)), trivial⟩, unw_take 14 rfl rfl⟩
    refine wl_m M (q_off 8 rfl rfl rfl hg120) rfl rfl <| wl_m M (q_off 8 rfl rfl rfl hg120) rfl rfl <| wl_m M (q_off 8 rfl rfl rfl hg120) rfl rfl <| wl_m M (q_off 8 rfl rfl rfl hg120) rfl rfl <| wl_m M (q_pickF rfl hg120 rfl) rfl rfl <| wl_nil ?_
    exact ⟨(), M, ⟨(show some (Value.bool false) = some (Value.bool (((decide (0 ≤ (nuP (kpS t) (x4.src).toNat))) && (decide (0 ≤ (nuP (kpS t) (x4.dst).toNat)))) && (!((aget m_89_4 (Arc.mk (nuP (kpS t) (x4.src).toNat) (nuP (kpS t) (x4.dst).toNat) x4.inp x4.out)).getD false)))) from by first | (simp only [hg115, hg120, bL8]; done) | (simp_all; done) | (simp_all; omega)), trivial⟩, unw_take 14 rfl rfl⟩
   refine wl_m M (q_off 3 rfl rfl rfl hg115) rfl rfl <| wl_m M (q_off 3 rfl rfl rfl hg115) rfl rfl <| wl_m M (q_off 3 rfl rfl rfl hg115) rfl rfl <| wl_m M (q_pickF rfl hg115 rfl) rfl rfl <| wl_mv M rfl rfl <| wl_m M (q_off 8 rfl rfl rfl rfl) rfl rfl <| wl_m M (q_off 8 rfl rfl rfl rfl) rfl rfl <| wl_m M (q_off 8 rfl rfl rfl rfl) rfl rfl <| wl_m M (q_off 8 rfl rfl rfl rfl) rfl rfl <| wl_m M (q_pickF rfl rfl rfl) rfl rfl <| wl_nil ?_
   exact ⟨(), M, ⟨(show some (Value.bool false) = some (Value.bool (((decide (0 ≤ (nuP (kpS t) (x4.src).toNat))) && (decide (0 ≤ (nuP (kpS t) (x4.dst).toNat)))) && (!((aget m_89_4 (Arc.mk (nuP (kpS t) (x4.src).toNat) (nuP (kpS t) (x4.dst).toNat) x4.inp x4.out)).getD false)))) from by first | (simp only [hg115, bL8]; done) | (simp_all; done) | (simp_all; omega)), trivial⟩, unw_take 14 rfl rfl⟩
  rintro _ jr28 w29 M
  refine wc_cond rfl (fun ht125 => ?_) (fun ht125 => ?_)
  ·obtain ⟨h1, h2⟩ := Bool.and_eq_true_iff.1 ht125
   rw [nuP_nn, nuP_nn] at h1
   rw [hmt, aget_tr] at h2
   have hnk := nd_t h2
   refine wc_seq <| wc_region <| wl_mv M rfl rfl <| wl_m M (q_ldbA 0 Try.underlying50 rfl sz50 rfl rfl rfl rfl) rfl rfl ?_
   refine wl_e0 (e_mpu (k := (Arc.mk (nuP (kpS t) (x4.src).toNat) (nuP (kpS t) (x4.dst).toNat) x4.inp x4.out)) (v := true) 2 M rfl Try.underlying91 rfl rfl rfl) rfl ?_
   intro _ w30 M
   simp only [sC0, sCS] at M
   refine wl_nil <| wc_region <| wl_m M (q_fa fo_25_3 rfl) rfl rfl <| wl_m M (q_ldb 5 Try.underlying23 rfl rfl rfl rfl) rfl rfl <| wl_m M (q_ldbA 0 Try.underlying50 rfl sz50 rfl rfl rfl rfl) rfl rfl <| wl_e (e_bsI (E := EArc) (xs := [(Arc.mk (nuP (kpS t) (x4.src).toNat) (nuP (kpS t) (x4.dst).toNat) x4.inp x4.out)]) M (bs_23_1 _ _ _ _) ⟨⟨rfl, rfl⟩, trivial⟩ rfl rfl (by decide)) rfl rfl ?_
   rintro _ w31 ⟨u131, J131, rfl, hJ131, R131, M⟩
   have hoJ131 := M.old
   refine wl_e (e_app 3 M rfl R131 Try.underlying23 rfl rfl (by show (_ + 1) * 24 ≤ _; omega)) rfl rfl ?_
   rintro _ w32 ⟨u132, rfl, M⟩
   replace M := M.less hJ131 hoI6
   simp only [sC0, sCS] at M
   refine wl_m M (q_fa fo_25_3 rfl) rfl rfl ?_
   refine wl_e0 (e_stb 5 M rfl rfl rfl sz23 rfl rfl) rfl ?_
   intro _ w33 M
   simp only [sC0, sCS] at M
   refine wl_nil <| wc_region <| wl_m M (q_add rfl rfl (IntWalk.i64_in _ (by omega))) rfl rfl ?_
   refine wl_mv M rfl rfl <| wl_nil ?_
   replace M := M.drop 0
   replace M := M.drop 0
   refine ⟨(k4 + 1, u132, l_a_4 ++ [(Arc.mk (nuP (kpS t) (x4.src).toNat) (nuP (kpS t) (x4.dst).toNat) x4.inp x4.out)], aput m_89_4 (Arc.mk (nuP (kpS t) (x4.src).toNat) (nuP (kpS t) (x4.dst).toNat) x4.inp x4.out) true), ?_, ⟨(by omega), (trm_push hx4 hnd h1 hnk), (by rw [hmt, aput_tr hnk]), (by simp; omega), M⟩, ⟨rfl, trivial⟩, unw_look rfl (unw_hav rfl (unw_look rfl unw_base))⟩
   show t.arcs.length - (k4 + 1) < t.arcs.length - k4
   omega
  have hkn := and_fm ht125
  rw [nuP_nn, nuP_nn, hmt, aget_tr] at hkn
  refine wc_skip <| wc_region <| wl_m M (q_add rfl rfl (IntWalk.i64_in _ (by omega))) rfl rfl ?_
  refine wl_mv M rfl rfl <| wl_nil ?_
  replace M := M.drop 0
  replace M := M.drop 0
  refine ⟨(k4 + 1, u_a_4, l_a_4, m_89_4), ?_, ⟨(by omega), (trm_skip hx4 hnd hkn), hmt, (by omega), M⟩, ⟨rfl, trivial⟩, unw_look rfl (unw_hav rfl (unw_look rfl unw_base))⟩
  show t.arcs.length - (k4 + 1) < t.arcs.length - k4
  omega
 have hke4 : k4 = t.arcs.length := by omega
 rw [hke4, List.take_length] at hnd
 refine wc_exit rfl ?_
 refine wc_seq <| wc_region <| wl_m M (q_fa fo_25_3 rfl) rfl rfl <| wl_m M (q_ldb 3 Try.underlying23 rfl rfl rfl rfl) rfl rfl <| wl_e (e_callR Try.func49 rfl (vs := [sv u_a_4, .func (.func 50) #[] #[]]) rfl (sortT_c 1 M rfl (by omega))) rfl rfl ?_
 rintro _ w34 M
 simp only [sC0, sCS] at M
 refine wl_nil ?_
 refine wc_seq <| wc_region <| wl_m M (q_ldbA 3 Try.underlying25 rfl sz25 rfl rfl rfl rfl) rfl rfl ?_
 refine wl_e0 (e_stW 5 M rfl rfl rfl sz25 rfl rfl) rfl ?_
 intro _ w35 M
 simp only [sC0, sCS] at M
 refine wl_nil <| wc_ret ?_
 obtain ⟨K1, M, hK1, Rk1⟩ := M.frzRow 2 rfl
 obtain ⟨K2, M, hK2, Rk2⟩ := M.frzRow 1 rfl
 rw [hff] at Rk1; rw [hke0] at M
 have hrd : (TrimP t).rd K2 (.agg ([.int .i64 (rk (kpS t) m : Int), .int .i64 (nuP (kpS t) t.start.toNat), sv u_f_2, sv u_a_4] : List Value).toArray) := by
   rw [trimP_at hrng ha.st hv hsd hkst hnd]; exact ⟨_, _, rfl, Rk1.mono hK2, Rk2⟩
 have hld := load_boxA (o := 0) (b := b2) (T0 := 25) (cs := [.int .i64 (rk (kpS t) m : Int), .int .i64 (nuP (kpS t) t.start.toNat), sv u_f_2, sv u_a_4]) (vs := [.int .i64 (rk (kpS t) m : Int), .int .i64 (nuP (kpS t) t.start.toNat), sv u_f_2, sv u_a_4]) M 3 Try.underlying25 rfl sz25 rfl rfl rfl
 exact outc rfl rfl hld ⟨_, K2, rfl, (M.grow : Grow w I _ K2), hrd⟩
end Go.Proofs.Ytfepjcmjkaolgaa.G
