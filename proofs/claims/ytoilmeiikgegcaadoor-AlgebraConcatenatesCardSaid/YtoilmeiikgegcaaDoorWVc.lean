/- Walks of the program's functions. -/
import Derived.Test.YtoilmeiikgegcaaDoorGFin
set_option linter.all false
namespace Go.Proofs.YtoilmeiikgegcaaDoor.G
open Go Go.RowKit
set_option maxRecDepth 4000 in
set_option maxHeartbeats 1000000 in
theorem finish_c {t : Tra} {m : Nat} (hst : t.states = m) (hm : m ≤ 1073741824) (hr : t.Rng m) (hal : t.arcs.length ≤ 1073741824) (hfl : t.finals.length ≤ 1073741824) {v : Value} {I : Heap} {w : World} (hI : hle I (hp w)) (R : t.rd I v) :
    Calls A 43 #[v] w (Ret w I fun r I' => ∃ v', r = .tuple #[v', .int .i64 (FinS t m).2] ∧ (FinS t m).1.rd I' v') := by
 obtain ⟨fu1, au1, rfl, Rf1, Ra1⟩ := R
 have hs0 := hr.start
 have M := Mem.start hI
 refine enter Tryd.func43 rfl 198 Tryd.ntmps43 [_] rfl ?_
 refine wc_seq ?_
 refine wc_region ?_
 refine wl_e (e_box M rfl) rfl rfl ?_
 rintro _ w1 ⟨b1, rfl, M⟩
 refine wl_e (e_alloc M z29) rfl rfl ?_
 rintro _ w2 ⟨b2, rfl, M⟩
 refine wl_as M rfl rfl ?_
 refine wl_nil ?_
 refine wc_seq ?_
 refine wc_join (α := Heap × SV × SV) [4, 5, 18, 19, 20, 21, 22, 23] (fun ((I5, u20, u23) : Heap × SV × SV) => [(4, sv u20), (5, sv u23)]) (fun ((I5, u20, u23) : Heap × SV × SV) w' => hle I I5 ∧ Mem w I I5 (mat EInt VInt (sv u20) (List.replicate m nilV) (List.replicate m nilV) (List.replicate m []) :: mat EInt VInt (sv u23) (List.replicate m nilV) (List.replicate m nilV) (List.replicate m []) :: box b2 29 [.int .i64 0, .int .i64 0, .slice none 0 0, .slice none 0 0] :: box b1 29 [.int .i64 t.states, .int .i64 t.start, sv fu1, sv au1] :: []) w') ?_ ?_
 ·refine wc_draws (fun w' => Mem w I I (box b2 29 [.int .i64 0, .int .i64 0, .slice none 0 0, .slice none 0 0] :: box b1 29 [.int .i64 t.states, .int .i64 t.start, sv fu1, sv au1] :: []) w' ∧ True) [] fol ?_
  replace M := M.drew
  have hS := (⟨M, trivial⟩ : _ ∧ _)
  refine wa_q 0 rfl (by kernel_rfl) (q_fa fo_29_0 rfl) hS rfl rfl ?_
  refine wa_q 1 rfl (by kernel_rfl) ((q_ldb 1 Tryd.underlying3 rfl rfl rfl rfl).mono fun _ h => h.1) hS rfl rfl ?_
  refine wa_q 3 rfl (by kernel_rfl) (q_fa fo_29_0 rfl) hS rfl rfl ?_
  refine wa_q 4 rfl (by kernel_rfl) ((q_ldb 1 Tryd.underlying3 rfl rfl rfl rfl).mono fun _ h => h.1) hS rfl rfl ?_
  refine wa_es [2, 5] (by kernel_rfl) (by decide) ⟨?_, ?_, trivial⟩
  ·refine one_e 2 rfl (e_make (E := VInt) (zv := nilV) (m := m) M Tryd.underlying84 z26 (by rw [hst]; rfl) (by rw [hst]; rfl) (by show _ * 24 ≤ _; omega)) rfl rfl ?_
   rintro _ w3 ⟨u20, rfl, M⟩
   replace M := M.toMat 0 EInt rfl
   simp only [sC0, sCS] at M
   have hS := (⟨(M.drop 0), trivial⟩ : _ ∧ _)
   refine ⟨fun _ => hS, ?_⟩
   refine wa_q 6 rfl (by kernel_rfl) (q_assign rfl) hS rfl rfl ?_
   refine wa_e 5 rfl (by kernel_rfl) (e_make (E := VInt) (zv := nilV) (m := m) M Tryd.underlying84 z26 (by rw [hst]; rfl) (by rw [hst]; rfl) (by show _ * 24 ≤ _; omega)) rfl rfl ?_
   rintro _ w4 ⟨u23, rfl, M⟩
   replace M := M.toMat 0 EInt rfl
   simp only [sC0, sCS] at M
   have hS := (⟨((M.drop 0).drop 0), trivial⟩ : _ ∧ _)
   refine ⟨fun _ => hS, ?_⟩
   refine wa_q 7 rfl (by kernel_rfl) (q_assign rfl) hS rfl rfl ?_
   refine wa_done (by kernel_rfl) ?_
   replace M := M.perm (List.Perm.swap _ _ _)
   exact ⟨(I, u20, u23), ⟨hle.refl _, M⟩, ⟨rfl, rfl, trivial⟩, unw_take 8 rfl rfl⟩
  ·refine one_e 5 rfl (e_make (E := VInt) (zv := nilV) (m := m) M Tryd.underlying84 z26 (by rw [hst]; rfl) (by rw [hst]; rfl) (by show _ * 24 ≤ _; omega)) rfl rfl ?_
   rintro _ w5 ⟨u23, rfl, M⟩
   replace M := M.toMat 0 EInt rfl
   simp only [sC0, sCS] at M
   have hS := (⟨(M.drop 0), trivial⟩ : _ ∧ _)
   refine ⟨fun _ => hS, ?_⟩
   refine wa_e 2 rfl (by kernel_rfl) (e_make (E := VInt) (zv := nilV) (m := m) M Tryd.underlying84 z26 (by rw [hst]; rfl) (by rw [hst]; rfl) (by show _ * 24 ≤ _; omega)) rfl rfl ?_
   rintro _ w6 ⟨u20, rfl, M⟩
   replace M := M.toMat 0 EInt rfl
   simp only [sC0, sCS] at M
   have hS := (⟨((M.drop 0).drop 0), trivial⟩ : _ ∧ _)
   refine ⟨fun _ => hS, ?_⟩
   refine wa_q 6 rfl (by kernel_rfl) (q_assign rfl) hS rfl rfl ?_
   refine wa_q 7 rfl (by kernel_rfl) (q_assign rfl) hS rfl rfl ?_
   refine wa_done (by kernel_rfl) ?_
   exact ⟨(I, u20, u23), ⟨hle.refl _, M⟩, ⟨rfl, rfl, trivial⟩, unw_take 8 rfl rfl⟩
 rintro ⟨I5, u20, u23⟩ jr1 w7 ⟨hI5, M⟩
 have hoI5 := M.old
 refine wc_seq ?_
 refine wc_seq ?_
 refine wc_region ?_
 refine wl_m M (q_fa fo_29_3 rfl) rfl rfl ?_
 refine wl_m M (q_ldb 3 Tryd.underlying27 rfl rfl rfl rfl) rfl rfl ?_
 refine wl_m M (q_lenR (Ra1.mono hI5) Tryd.underlying27 rfl) rfl rfl ?_
 refine wl_mv M rfl rfl ?_
 refine wl_nil ?_
 refine wc_block ?_
 refine wc_loop (α := Nat × (List SV) × (List (List Int)) × (List SV) × (List (List Int))) [7, 27, 28, 29, 30, 31, 32, 33, 34, 35, 36, 37, 38, 39, 40, 41, 42, 43, 44, 45, 46, 47, 48, 49, 50, 51, 52, 53, 54, 55, 56, 57] (fun ((k0, vs_20_0, xss_20_0, vs_23_0, xss_23_0) : Nat × (List SV) × (List (List Int)) × (List SV) × (List (List Int))) => [(27, .int .i64 (k0 : Int))])
   (fun ((k0, vs_20_0, xss_20_0, vs_23_0, xss_23_0) : Nat × (List SV) × (List (List Int)) × (List SV) × (List (List Int))) w' => (k0 ≤ t.arcs.length) ∧ (vs_20_0.length = m) ∧ (vs_23_0.length = m) ∧ (xss_20_0 = nxM true m (t.arcs.take k0)) ∧ (xss_23_0 = nxM false m (t.arcs.take k0)) ∧ Mem w I I5 (mat EInt VInt (sv u20) vs_20_0 vs_20_0 xss_20_0 :: mat EInt VInt (sv u23) vs_23_0 vs_23_0 xss_23_0 :: box b2 29 [.int .i64 0, .int .i64 0, .slice none 0 0, .slice none 0 0] :: box b1 29 [.int .i64 t.states, .int .i64 t.start, sv fu1, sv au1] :: []) w')
   (fun ((k0, vs_20_0, xss_20_0, vs_23_0, xss_23_0) : Nat × (List SV) × (List (List Int)) × (List SV) × (List (List Int))) => t.arcs.length - k0) (0, List.replicate m nilV, List.replicate m [], List.replicate m nilV, List.replicate m []) ⟨rfl, trivial⟩ ?_ ?_
 ·refine ⟨Nat.zero_le _, (by simp), (by simp), (by simp [nxM_nil]), (by simp [nxM_nil]), ?_⟩
  exact M
 rintro ⟨k0, vs_20_0, xss_20_0, vs_23_0, xss_23_0⟩ jj0 w8 ⟨hk0, hl, hl2, hx, hy, M⟩
 have hoI5 := M.old
 refine wc_seq ?_
 refine wc_region ?_
 refine wl_m M (q_lss rfl rfl) rfl rfl ?_
 refine wl_nil ?_
 refine wc_seq ?_
 refine wc_dec rfl (fun ht28 => ?_) (fun ht28 => ?_)
 ·obtain ⟨x0, hx0⟩ : ∃ x_, t.arcs[k0]? = some x_ := ⟨_, List.getElem?_eq_getElem (by omega)⟩
  have hll0 := ((Ra1.mono hI5)).len_le
  have hx0r := hr.arcs x0 (List.mem_of_getElem? hx0)
  obtain ⟨s, hs⟩ : ∃ s : Nat, x0.src = (s : Int) := ⟨x0.src.toNat, by omega⟩
  obtain ⟨q, hq⟩ : ∃ q : Nat, x0.dst = (q : Int) := ⟨x0.dst.toNat, by omega⟩
  have hsm : s < m := by omega
  have hqm : q < m := by omega
  have hvs : vs_20_0[s]? = some vs_20_0[s] := List.getElem?_eq_getElem (by omega)
  have hvq : vs_23_0[q]? = some vs_23_0[q] := List.getElem?_eq_getElem (by omega)
  have e1 : nxM true m (t.arcs.take (k0 + 1)) = (nxM true m (t.arcs.take k0)).set s (nxS true (t.arcs.take k0) s ++ [x0.dst]) := by rw [take_snoc hx0, nxM_snoc (by simp [eA, hs]) hsm]; simp [eB]
  have e2 : nxM false m (t.arcs.take (k0 + 1)) = (nxM false m (t.arcs.take k0)).set q (nxS false (t.arcs.take k0) q ++ [x0.src]) := by rw [take_snoc hx0, nxM_snoc (by simp [eA, hq]) hqm]; simp [eB]
  refine wc_skip ?_
  refine wc_seq ?_
  refine wc_block ?_
  refine wc_seq ?_
  refine wc_region ?_
  refine wl_ix (j := k0) M (Ra1.mono hI5) Tryd.underlying27 rfl rfl hx0 rfl (fun b29 o29 p29 => ?_)
  refine wl_m M (q_ldp p29 rfl rfl) rfl rfl ?_
  refine wl_e (e_alloc M z52) rfl rfl ?_
  rintro _ w9 ⟨b7, rfl, M⟩
  refine wl_e0 (e_stW 0 M rfl rfl rfl sz52 rfl rfl) rfl ?_
  intro _ w10 M
  simp only [sC0, sCS] at M
  refine wl_nil ?_
  refine wc_seq ?_
  refine wc_draws (fun w' => Mem w I I5 (box b7 52 [.int .i64 x0.src, .int .i64 x0.dst, .int .i32 x0.inp, .int .i32 x0.out] :: mat EInt VInt (sv u23) vs_23_0 vs_23_0 xss_23_0 :: box b2 29 [.int .i64 0, .int .i64 0, .slice none 0 0, .slice none 0 0] :: box b1 29 [.int .i64 t.states, .int .i64 t.start, sv fu1, sv au1] :: []) w' ∧ rdSl VInt (hp w') (sv u20) vs_20_0) [13] fol ?_
  replace M := M.drew
  have hS := (⟨(M.drop 1), M.matOut (i := 1) rfl⟩ : _ ∧ _)
  refine wa_q 0 rfl (by kernel_rfl) (q_move rfl) hS rfl rfl ?_
  refine wa_q 1 rfl (by kernel_rfl) (q_fa fo_52_0 rfl) hS rfl rfl ?_
  refine wa_q 2 rfl (by kernel_rfl) ((q_ldb 0 Tryd.underlying3 rfl rfl rfl rfl).mono fun _ h => h.1) hS rfl rfl ?_
  refine wa_q 3 rfl (by kernel_rfl) (q_move rfl) hS rfl rfl ?_
  refine wa_q 4 rfl (by kernel_rfl) (q_fa fo_52_0 rfl) hS rfl rfl ?_
  refine wa_q 5 rfl (by kernel_rfl) ((q_ldb 0 Tryd.underlying3 rfl rfl rfl rfl).mono fun _ h => h.1) hS rfl rfl ?_
  refine wa_ixS (j := s) 6 hS (fun _ h => h.2) rfl (by kernel_rfl) Tryd.underlying84 rfl (by rw [hs]; rfl) hvs rfl (fun b37 o37 p37 => ?_)
  refine wa_q 7 rfl (by kernel_rfl) (q_ldp p37 rfl rfl) hS rfl rfl ?_
  refine wa_q 8 rfl (by kernel_rfl) (q_fa fo_52_1 rfl) hS rfl rfl ?_
  refine wa_q 9 rfl (by kernel_rfl) ((q_ldb 0 Tryd.underlying3 rfl rfl rfl rfl).mono fun _ h => h.1) hS rfl rfl ?_
  refine wa_e 10 rfl (by kernel_rfl) (e_bsI (E := EInt) (xs := [x0.dst]) M (bs_26_1 _) ⟨⟨rfl, rfl⟩, trivial⟩ rfl rfl (by decide)) rfl rfl ?_
  rintro _ w11 ⟨u41, J41, rfl, hJ41, R41, M⟩
  have hoJ41 := M.old
  have hS := (⟨((M.less hJ41 hoI5).drop 1), M.matOut (i := 1) rfl⟩ : _ ∧ _)
  refine ⟨fun _ => hS, ?_⟩
  refine wa_e 11 rfl (by kernel_rfl) (e_appm 1 s M rfl Tryd.underlying26 hvs (by rw [hx]; exact nxM_at hsm) rfl rfl R41 (by have := nxS_len true (t.arcs.take k0) s; simp only [List.length_take] at this; show (_ + 1) * 8 ≤ _; omega)) rfl rfl ?_
  rintro _ w12 ⟨u42, rfl, M⟩
  simp only [sC0, sCS] at M
  have hS := (⟨((M.less hJ41 hoI5).drop 1), M.matOut (i := 1) rfl⟩ : _ ∧ _)
  refine ⟨fun _ => hS, ?_⟩
  replace M := M.less hJ41 hoI5
  refine wa_ixmw (j := s) 12 1 M hS rfl rfl (by kernel_rfl) Tryd.underlying84 rfl (by rw [hs]; rfl) (by omega) rfl (fun b43 o43 p43 => ?_)
  refine wa_e0 13 rfl (by kernel_rfl) (e_stm 1 M rfl rfl rfl p43 (by omega) rfl) rfl ?_
  intro _ w13 M
  simp only [sC0, sCS] at M
  refine ⟨nofun, ?_⟩
  refine wa_done (by kernel_rfl) ?_
  refine wc_draws (fun w' => Mem w I I5 (box b7 52 [.int .i64 x0.src, .int .i64 x0.dst, .int .i32 x0.inp, .int .i32 x0.out] :: mat EInt VInt (sv u20) (vs_20_0.set s u42) (vs_20_0.set s u42) (xss_20_0.set s ((nxS true (t.arcs.take k0) s) ++ [x0.dst])) :: box b2 29 [.int .i64 0, .int .i64 0, .slice none 0 0, .slice none 0 0] :: box b1 29 [.int .i64 t.states, .int .i64 t.start, sv fu1, sv au1] :: []) w' ∧ rdSl VInt (hp w') (sv u23) vs_23_0) [13] fol ?_
  replace M := M.drew
  have hS := (⟨(M.drop 2), M.matOut (i := 2) rfl⟩ : _ ∧ _)
  refine wa_q 0 rfl (by kernel_rfl) (q_move rfl) hS rfl rfl ?_
  refine wa_q 1 rfl (by kernel_rfl) (q_fa fo_52_1 rfl) hS rfl rfl ?_
  refine wa_q 2 rfl (by kernel_rfl) ((q_ldb 0 Tryd.underlying3 rfl rfl rfl rfl).mono fun _ h => h.1) hS rfl rfl ?_
  refine wa_q 3 rfl (by kernel_rfl) (q_move rfl) hS rfl rfl ?_
  refine wa_q 4 rfl (by kernel_rfl) (q_fa fo_52_1 rfl) hS rfl rfl ?_
  refine wa_q 5 rfl (by kernel_rfl) ((q_ldb 0 Tryd.underlying3 rfl rfl rfl rfl).mono fun _ h => h.1) hS rfl rfl ?_
  refine wa_ixS (j := q) 6 hS (fun _ h => h.2) rfl (by kernel_rfl) Tryd.underlying84 rfl (by rw [hq]; rfl) hvq rfl (fun b50 o50 p50 => ?_)
  refine wa_q 7 rfl (by kernel_rfl) (q_ldp p50 rfl rfl) hS rfl rfl ?_
  refine wa_q 8 rfl (by kernel_rfl) (q_fa fo_52_0 rfl) hS rfl rfl ?_
  refine wa_q 9 rfl (by kernel_rfl) ((q_ldb 0 Tryd.underlying3 rfl rfl rfl rfl).mono fun _ h => h.1) hS rfl rfl ?_
  refine wa_e 10 rfl (by kernel_rfl) (e_bsI (E := EInt) (xs := [x0.src]) M (bs_26_1 _) ⟨⟨rfl, rfl⟩, trivial⟩ rfl rfl (by decide)) rfl rfl ?_
  rintro _ w14 ⟨u54, J54, rfl, hJ54, R54, M⟩
  have hoJ54 := M.old
  have hS := (⟨((M.less hJ54 hoI5).drop 2), M.matOut (i := 2) rfl⟩ : _ ∧ _)
  refine ⟨fun _ => hS, ?_⟩
  refine wa_e 11 rfl (by kernel_rfl) (e_appm 2 q M rfl Tryd.underlying26 hvq (by rw [hy]; exact nxM_at hqm) rfl rfl R54 (by have := nxS_len false (t.arcs.take k0) q; simp only [List.length_take] at this; show (_ + 1) * 8 ≤ _; omega)) rfl rfl ?_
  rintro _ w15 ⟨u55, rfl, M⟩
  simp only [sC0, sCS] at M
  have hS := (⟨((M.less hJ54 hoI5).drop 2), M.matOut (i := 2) rfl⟩ : _ ∧ _)
  refine ⟨fun _ => hS, ?_⟩
  replace M := M.less hJ54 hoI5
  refine wa_ixmw (j := q) 12 2 M hS rfl rfl (by kernel_rfl) Tryd.underlying84 rfl (by rw [hq]; rfl) (by omega) rfl (fun b56 o56 p56 => ?_)
  refine wa_e0 13 rfl (by kernel_rfl) (e_stm 2 M rfl rfl rfl p56 (by omega) rfl) rfl ?_
  intro _ w16 M
  simp only [sC0, sCS] at M
  refine ⟨nofun, ?_⟩
  refine wa_done (by kernel_rfl) ?_
  refine wc_region ?_
  refine wl_m M (q_add rfl rfl (IntWalk.i64_in _ (by omega))) rfl rfl ?_
  refine wl_mv M rfl rfl ?_
  refine wl_nil ?_
  replace M := M.drop 0
  refine ⟨(k0 + 1, vs_20_0.set s u42, xss_20_0.set s ((nxS true (t.arcs.take k0) s) ++ [x0.dst]), vs_23_0.set q u55, xss_23_0.set q ((nxS false (t.arcs.take k0) q) ++ [x0.src])), ?_, ⟨(by omega), (by simp [hl]), (by simp [hl2]), (by rw [hx, e1]), (by rw [hy, e2]), M⟩, ⟨rfl, trivial⟩, unw_look rfl unw_base⟩
  show t.arcs.length - (k0 + 1) < t.arcs.length - k0
  omega
 have hke0 : k0 = t.arcs.length := by omega
 refine wc_exit rfl ?_
 refine wc_seq ?_
 rw [hke0, List.take_length] at hx hy
 obtain ⟨I8, M, hI8, Rn⟩ := M.frzMat 0 rfl
 have hoI8 := M.old
 obtain ⟨I9, M, hI9, Rk⟩ := M.frzMat 0 rfl
 have hoI9 := M.old
 rw [hx] at Rn
 rw [hy] at Rk
 refine wc_join (α := Heap × (List Bool) × (List Bool) × SV × SV) [8, 9, 58, 59, 60, 61, 62, 63, 64, 65, 66] (fun ((I6, up, dn, u62, u66) : Heap × (List Bool) × (List Bool) × SV × SV) => [(8, sv u62), (9, sv u66)]) (fun ((I6, up, dn, u62, u66) : Heap × (List Bool) × (List Bool) × SV × SV) w' => hle I9 I6 ∧ rdSl EBool I6 (sv u62) up ∧ rdSl EBool I6 (sv u66) dn ∧ up.length = m ∧ dn.length = m ∧ (∀ s, bt up s ↔ Reach (stp t true) (· ∈ [t.start]) s) ∧ (∀ s, bt dn s ↔ Reach (stp t false) (· ∈ t.finals) s) ∧ Mem w I I6 (box b2 29 [.int .i64 0, .int .i64 0, .slice none 0 0, .slice none 0 0] :: box b1 29 [.int .i64 t.states, .int .i64 t.start, sv fu1, sv au1] :: []) w') ?_ ?_
 ·refine wc_draws (fun w' => Mem w I I9 (box b2 29 [.int .i64 0, .int .i64 0, .slice none 0 0, .slice none 0 0] :: box b1 29 [.int .i64 t.states, .int .i64 t.start, sv fu1, sv au1] :: []) w' ∧ True) [] fol ?_
  replace M := M.drew
  have hS := (⟨M, trivial⟩ : _ ∧ _)
  refine wa_q 0 rfl (by kernel_rfl) (q_move rfl) hS rfl rfl ?_
  refine wa_q 1 rfl (by kernel_rfl) (q_fa fo_29_1 rfl) hS rfl rfl ?_
  refine wa_q 2 rfl (by kernel_rfl) ((q_ldb 1 Tryd.underlying3 rfl rfl rfl rfl).mono fun _ h => h.1) hS rfl rfl ?_
  refine wa_q 5 rfl (by kernel_rfl) (q_move rfl) hS rfl rfl ?_
  refine wa_q 6 rfl (by kernel_rfl) (q_fa fo_29_2 rfl) hS rfl rfl ?_
  refine wa_q 7 rfl (by kernel_rfl) ((q_ldb 1 Tryd.underlying26 rfl rfl rfl rfl).mono fun _ h => h.1) hS rfl rfl ?_
  refine wa_e 3 rfl (by kernel_rfl) (e_bsI (E := EInt) (xs := [t.start]) M (bs_26_1 _) ⟨⟨rfl, rfl⟩, trivial⟩ rfl rfl (by decide)) rfl rfl ?_
  rintro _ w17 ⟨u61, J61, rfl, hJ61, R61, M⟩
  have hoJ61 := M.old
  have hS := (⟨(M.less hJ61 hoI9), trivial⟩ : _ ∧ _)
  refine ⟨fun _ => hS, ?_⟩
  refine wa_e 4 rfl (by kernel_rfl) (e_callC M (visit_c hm hr.arcs (fr := [t.start]) (fun f hf => by rw [List.mem_singleton.1 hf]; exact hr.start) true M.imm ((Rn.mono hI9).mono hJ61) R61) Tryd.func69 rfl rfl) rfl rfl ?_
  rintro v62 w18 ⟨J62, hJ62, ⟨up, R62, hul, hup⟩, M⟩
  obtain ⟨u62, rfl⟩ := rdSl_slice R62
  have hoJ62 := M.old
  have hS := (⟨(M.less (hle.trans hJ61 hJ62) hoI9), trivial⟩ : _ ∧ _)
  refine ⟨fun _ => hS, ?_⟩
  refine wa_e 8 rfl (by kernel_rfl) (e_callC M (visit_c hm hr.arcs (fr := t.finals) hr.fin false M.imm ((Rk.mono hJ61).mono hJ62) (((((Rf1.mono hI5).mono hI8).mono hI9).mono hJ61).mono hJ62)) Tryd.func69 rfl rfl) rfl rfl ?_
  rintro v66 w19 ⟨J66, hJ66, ⟨dn, R66, hdl, hdn⟩, M⟩
  obtain ⟨u66, rfl⟩ := rdSl_slice R66
  have hoJ66 := M.old
  have hS := (⟨(M.less (hle.trans (hle.trans hJ61 hJ62) hJ66) hoI9), trivial⟩ : _ ∧ _)
  refine ⟨fun _ => hS, ?_⟩
  refine wa_q 9 rfl (by kernel_rfl) (q_assign rfl) hS rfl rfl ?_
  refine wa_q 10 rfl (by kernel_rfl) (q_assign rfl) hS rfl rfl ?_
  refine wa_done (by kernel_rfl) ?_
  exact ⟨(J66, up, dn, u62, u66), ⟨(hle.trans (hle.trans hJ61 hJ62) hJ66), (R62.mono hJ66), R66, hul, hdl, hup, hdn, M⟩, ⟨rfl, rfl, trivial⟩, unw_take 11 rfl rfl⟩
 rintro ⟨I6, up, dn, u62, u66⟩ jr8 w20 ⟨hI6, R62, R66, hul, hdl, hup, hdn, M⟩
 have hoI6 := M.old
 refine wc_seq ?_
 refine wc_seq ?_
 refine wc_region ?_
 refine wl_mv M rfl rfl ?_
 refine wl_m M (q_fa fo_29_1 rfl) rfl rfl ?_
 refine wl_m M (q_ldb 1 Tryd.underlying3 rfl rfl rfl rfl) rfl rfl ?_
 refine wl_ix (j := t.start.toNat) M R66 Tryd.underlying56 rfl (ixe (by omega)) (dn_at hr.start hdl hdn) rfl (fun b70 o70 p70 => ?_)
 refine wl_m M (q_ldp p70 rfl rfl) rfl rfl ?_
 refine wl_m M (q_not rfl) rfl rfl ?_
 refine wl_nil ?_
 refine wc_cond rfl (fun ht72 => ?_) (fun ht72 => ?_)
 ·refine wc_seq ?_
  refine wc_region ?_
  refine wl_m M (q_build (bd_29_0 _) ⟨⟨rfl, rfl⟩, trivial⟩) rfl rfl ?_
  refine wl_e0 (e_stW 0 M rfl rfl rfl sz29 rfl rfl) rfl ?_
  intro _ w21 M
  simp only [sC0, sCS] at M
  refine wl_as M rfl rfl ?_
  refine wl_nil ?_
  refine wc_ret ?_
  exact outc2 rfl rfl (load_boxA M 0 Tryd.underlying29 rfl sz29 rfl rfl rfl) rfl ⟨_, _, rfl, M.grow, _, by rw [fin_one hr.start.1 ht72], by rw [fin_one hr.start.1 ht72]; exact ⟨nilV, nilV, rfl, rdSl_nil _, rdSl_nil _⟩⟩
 have hkst : kpS t t.start.toNat = true := by rw [← dn_kp hs0.1]; simpa using ht72
 refine wc_skip ?_
 refine wc_seq ?_
 refine wc_region ?_
 refine wl_m M (q_build (bd_29) trivial) rfl rfl ?_
 refine wl_e (e_alloc M z29) rfl rfl ?_
 rintro _ w22 ⟨b10, rfl, M⟩
 refine wl_e0 (e_stW 0 M rfl rfl rfl sz29 rfl rfl) rfl ?_
 intro _ w23 M
 simp only [sC0, sCS] at M
 refine wl_nil ?_
 refine wc_seq ?_
 replace M := M.nilRow EInt
 replace M := M.nilRow EArc
 have hlr : (List.replicate m (0 : Int)).length = m := List.length_replicate ..
 refine wc_region ?_
 refine wl_m M (q_fa fo_29_0 rfl) rfl rfl ?_
 refine wl_m M (q_ldb 4 Tryd.underlying3 rfl rfl rfl rfl) rfl rfl ?_
 refine wl_e (e_make (E := EInt) (zv := 0) (m := m) M Tryd.underlying26 z3 (by rw [hst]; rfl) (by rw [hst]; rfl) (by show _ * 8 ≤ _; omega)) rfl rfl ?_
 rintro _ w24 ⟨u77, rfl, M⟩
 refine wl_as M rfl rfl ?_
 refine wl_nil ?_
 refine wc_seq ?_
 refine wc_seq ?_
 refine wc_region ?_
 refine wl_mv M rfl rfl ?_
 refine wl_m M (q_lenr 0 M rfl Tryd.underlying26 rfl) rfl rfl ?_
 refine wl_mv M rfl rfl ?_
 refine wl_nil ?_
 refine wc_block ?_
 refine wc_loop (α := Nat × (List Int)) [12, 80, 81, 82, 83, 84, 85, 86, 87, 88, 89, 90, 91, 92, 93, 94, 95, 96, 97, 98, 99, 100, 101, 102, 103, 104, 105] (fun ((k2, l_77_2) : Nat × (List Int)) => [(80, .int .i64 (k2 : Int))])
   (fun ((k2, l_77_2) : Nat × (List Int)) w' => (k2 ≤ m) ∧ (l_77_2 = nuQ (kpS t) m k2) ∧ Mem w I I6 (row EInt (sv u77) l_77_2 :: row EArc (sv nilV) [] :: row EInt (sv nilV) [] :: box b10 29 [.int .i64 (rk (kpS t) k2 : Int), .int .i64 0, sv nilV, sv nilV] :: box b2 29 [.int .i64 0, .int .i64 0, .slice none 0 0, .slice none 0 0] :: box b1 29 [.int .i64 t.states, .int .i64 t.start, sv fu1, sv au1] :: []) w')
   (fun ((k2, l_77_2) : Nat × (List Int)) => m - k2) (0, List.replicate m 0) ⟨rfl, trivial⟩ ?_ ?_
 ·refine ⟨Nat.zero_le _, (by simp [nuQ]), ?_⟩
  exact M
 rintro ⟨k2, l_77_2⟩ jj2 w25 ⟨hk2, hnu, M⟩
 have hoI6 := M.old
 refine wc_seq ?_
 refine wc_region ?_
 refine wl_m M (q_lss rfl rfl) rfl rfl ?_
 refine wl_nil ?_
 refine wc_seq ?_
 refine wc_dec rfl (fun ht81 => ?_) (fun ht81 => ?_)
 ·refine wc_skip ?_
  refine wc_seq ?_
  refine wc_block ?_
  refine wc_seq ?_
  refine wc_region ?_
  refine wl_mv M rfl rfl ?_
  refine wl_as M rfl rfl ?_
  refine wl_nil ?_
  refine wc_seq ?_
  refine wc_region ?_
  refine wl_mv M rfl rfl ?_
  refine wl_mv M rfl rfl ?_
  refine wl_ixw (j := k2) 0 M rfl Tryd.underlying26 rfl rfl (by rw [hnu, nuQ_len (by omega)]; omega) rfl (fun b85 o85 p85 => ?_)
  refine wl_e0 (e_str (u := -1) 0 M rfl rfl rfl p85 (by rw [hnu, nuQ_len (by omega)]; omega) rfl) rfl ?_
  intro _ w26 M
  simp only [sC0, sCS] at M
  refine wl_nil ?_
  refine wc_seq ?_
  refine wc_join (α := Unit) [86, 87, 88, 89, 90, 91, 92, 93, 94, 95] (fun _ => [(95, .bool ((up.getD k2 false) && (dn.getD k2 false)))]) (fun _ w' => Mem w I I6 (row EInt (sv u77) (l_77_2.set k2 (-1)) :: row EArc (sv nilV) [] :: row EInt (sv nilV) [] :: box b10 29 [.int .i64 (rk (kpS t) k2 : Int), .int .i64 0, sv nilV, sv nilV] :: box b2 29 [.int .i64 0, .int .i64 0, .slice none 0 0, .slice none 0 0] :: box b1 29 [.int .i64 t.states, .int .i64 t.start, sv fu1, sv au1] :: []) w') ?_ ?_
  ·refine wc_region ?_
   refine wl_mv M rfl rfl ?_
   refine wl_mv M rfl rfl ?_
   refine wl_ix (j := k2) M R62 Tryd.underlying56 rfl (ixe (by omega)) (getD_at (d := false) (by omega)) rfl (fun b88 o88 p88 => ?_)
   refine wl_m M (q_ldp p88 rfl rfl) rfl rfl ?_
   refine wl_mv M rfl rfl ?_
   rcases Bool.eq_false_or_eq_true ((up.getD k2 false)) with hg90 | hg90
   ·refine wl_m M (q_guard 4 rfl rfl rfl hg90 (q_move rfl)) rfl rfl ?_
    refine wl_m M (q_guard 4 rfl rfl rfl hg90 (q_move rfl)) rfl rfl ?_
    refine wl_ixG (j := k2) 4 rfl rfl rfl hg90 M R66 Tryd.underlying56 rfl (ixe (by omega)) (getD_at (d := false) (by omega)) rfl (fun b93 o93 p93 => ?_)
    refine wl_m M (q_guard 4 rfl rfl rfl hg90 (q_ldp p93 rfl rfl)) rfl rfl ?_
    refine wl_m M (q_pickT rfl hg90 rfl) rfl rfl ?_
    refine wl_nil ?_
    exact ⟨(), M, ⟨(show some (Value.bool (dn.getD k2 false)) = some (Value.bool ((up.getD k2 false) && (dn.getD k2 false))) from by first | (simp only [hg90, Bool.true_or, Bool.false_or, Bool.true_and, Bool.false_and, Bool.or_true, Bool.or_false, Bool.and_true, Bool.and_false]; done) | simp_all), trivial⟩, unw_take 10 rfl rfl⟩
   refine wl_m M (q_off 4 rfl rfl rfl hg90) rfl rfl ?_
   refine wl_m M (q_off 4 rfl rfl rfl hg90) rfl rfl ?_
   refine wl_m M (q_off 4 rfl rfl rfl hg90) rfl rfl ?_
   refine wl_m M (q_off 4 rfl rfl rfl hg90) rfl rfl ?_
   refine wl_m M (q_pickF rfl hg90 rfl) rfl rfl ?_
   refine wl_nil ?_
   exact ⟨(), M, ⟨(show some (Value.bool false) = some (Value.bool ((up.getD k2 false) && (dn.getD k2 false))) from by first | (simp only [hg90, Bool.true_or, Bool.false_or, Bool.true_and, Bool.false_and, Bool.or_true, Bool.or_false, Bool.and_true, Bool.and_false]; done) | simp_all), trivial⟩, unw_take 10 rfl rfl⟩
  rintro _ jr17 w27 M
  refine wc_cond rfl (fun ht95 => ?_) (fun ht95 => ?_)
  ·have hrl := rk_le (kpS t) k2
   have hkk : kpS t k2 = true := by rw [← kpB_S hup hdn]; exact ht95
   refine wc_seq ?_
   refine wc_region ?_
   refine wl_mv M rfl rfl ?_
   refine wl_mv M rfl rfl ?_
   refine wl_m M (q_fa fo_29_0 rfl) rfl rfl ?_
   refine wl_m M (q_ldb 3 Tryd.underlying3 rfl rfl rfl rfl) rfl rfl ?_
   refine wl_ixw (j := k2) 0 M rfl Tryd.underlying26 rfl rfl (by rw [hnu, List.length_set, nuQ_len (by omega)]; omega) rfl (fun b100 o100 p100 => ?_)
   refine wl_e0 (e_str (u := (rk (kpS t) k2 : Int)) 0 M rfl rfl rfl p100 (by rw [hnu, List.length_set, nuQ_len (by omega)]; omega) rfl) rfl ?_
   intro _ w28 M
   simp only [sC0, sCS] at M
   refine wl_nil ?_
   refine wc_region ?_
   refine wl_m M (q_fa fo_29_0 rfl) rfl rfl ?_
   refine wl_m M (q_ldb 3 Tryd.underlying3 rfl rfl rfl rfl) rfl rfl ?_
   refine wl_m M (q_add rfl rfl (IntWalk.i64_in _ (by omega))) rfl rfl ?_
   refine wl_m M (q_fa fo_29_0 rfl) rfl rfl ?_
   refine wl_e0 (e_stb 3 M rfl rfl rfl sz3 rfl rfl) rfl ?_
   intro _ w29 M
   simp only [sC0, sCS] at M
   refine wl_nil ?_
   refine wc_region ?_
   refine wl_m M (q_add rfl rfl (IntWalk.i64_in _ (by omega))) rfl rfl ?_
   refine wl_mv M rfl rfl ?_
   refine wl_nil ?_
   rw [rk_hit hkk] at M
   refine ⟨(k2 + 1, (l_77_2.set k2 (-1)).set k2 (rk (kpS t) k2 : Int)), ?_, ⟨(by omega), (by rw [hnu, nuQ_hit (by omega) hkk]), M⟩, ⟨rfl, trivial⟩, unw_look rfl (unw_hav rfl (unw_look rfl unw_base))⟩
   show m - (k2 + 1) < m - k2
   omega
  have hkk : kpS t k2 = false := by rw [← kpB_S hup hdn]; exact ht95
  refine wc_skip ?_
  refine wc_region ?_
  refine wl_m M (q_add rfl rfl (IntWalk.i64_in _ (by omega))) rfl rfl ?_
  refine wl_mv M rfl rfl ?_
  refine wl_nil ?_
  rw [← rk_skip hkk] at M
  refine ⟨(k2 + 1, l_77_2.set k2 (-1)), ?_, ⟨(by omega), (by rw [hnu, nuQ_skip (by omega) hkk]), M⟩, ⟨rfl, trivial⟩, unw_look rfl (unw_hav rfl (unw_look rfl unw_base))⟩
  show m - (k2 + 1) < m - k2
  omega
 have hke2 : k2 = m := by omega
 rw [hke2] at hnu
 refine wc_exit rfl ?_
 refine wc_seq ?_
 refine wc_region ?_
 refine wl_mv M rfl rfl ?_
 refine wl_m M (q_fa fo_29_1 rfl) rfl rfl ?_
 refine wl_m M (q_ldb 5 Tryd.underlying3 rfl rfl rfl rfl) rfl rfl ?_
 refine wl_ixr (j := ((t.start).toNat)) 0 M rfl Tryd.underlying26 rfl (ixe (by omega)) (by rw [hnu]; exact nuQ_at (by omega)) rfl (fun b109 o109 p109 => ?_)
 refine wl_m M (q_ldp p109 rfl rfl) rfl rfl ?_
 refine wl_m M (q_fa fo_29_1 rfl) rfl rfl ?_
 refine wl_e0 (e_stb 3 M rfl rfl rfl sz3 rfl rfl) rfl ?_
 intro _ w30 M
 simp only [sC0, sCS] at M
 refine wl_nil ?_
 refine wc_seq ?_
 refine wc_seq ?_
 refine wc_region ?_
 refine wl_m M (q_fa fo_29_2 rfl) rfl rfl ?_
 refine wl_m M (q_ldb 5 Tryd.underlying26 rfl rfl rfl rfl) rfl rfl ?_
 refine wl_m M (q_lenR ((((Rf1.mono hI5).mono hI8).mono hI9).mono hI6) Tryd.underlying26 rfl) rfl rfl ?_
 refine wl_mv M rfl rfl ?_
 refine wl_nil ?_
 refine wc_block ?_
 refine wc_loop (α := Nat × SV × (List Int)) [14, 115, 116, 117, 118, 119, 120, 121, 122, 123, 124, 125, 126, 127, 128, 129, 130, 131, 132, 133] (fun ((k4, u_f_4, l_f_4) : Nat × SV × (List Int)) => [(115, .int .i64 (k4 : Int))])
   (fun ((k4, u_f_4, l_f_4) : Nat × SV × (List Int)) w' => (k4 ≤ t.finals.length) ∧ (l_f_4 = (t.finals.take k4).flatMap (finQ (kpS t))) ∧ Mem w I I6 (row EInt (sv u77) l_77_2 :: row EArc (sv nilV) [] :: row EInt (sv u_f_4) l_f_4 :: box b10 29 [.int .i64 (rk (kpS t) k2 : Int), .int .i64 (nuP (kpS t) (t.start).toNat), sv u_f_4, sv nilV] :: box b2 29 [.int .i64 0, .int .i64 0, .slice none 0 0, .slice none 0 0] :: box b1 29 [.int .i64 t.states, .int .i64 t.start, sv fu1, sv au1] :: []) w')
   (fun ((k4, u_f_4, l_f_4) : Nat × SV × (List Int)) => t.finals.length - k4) (0, nilV, []) ⟨rfl, trivial⟩ ?_ ?_
 ·refine ⟨Nat.zero_le _, rfl, ?_⟩
  exact M
 rintro ⟨k4, u_f_4, l_f_4⟩ jj4 w31 ⟨hk4, hff, M⟩
 have hoI6 := M.old
 refine wc_seq ?_
 refine wc_region ?_
 refine wl_m M (q_lss rfl rfl) rfl rfl ?_
 refine wl_nil ?_
 refine wc_seq ?_
 refine wc_dec rfl (fun ht116 => ?_) (fun ht116 => ?_)
 ·obtain ⟨x4, hx4⟩ : ∃ x_, t.finals[k4]? = some x_ := ⟨_, List.getElem?_eq_getElem (by omega)⟩
  have hll4 := (((((Rf1.mono hI5).mono hI8).mono hI9).mono hI6)).len_le
  have hx4r := hr.fin x4 (List.mem_of_getElem? hx4)
  refine wc_skip ?_
  refine wc_seq ?_
  refine wc_block ?_
  refine wc_seq ?_
  refine wc_region ?_
  refine wl_ix (j := k4) M ((((Rf1.mono hI5).mono hI8).mono hI9).mono hI6) Tryd.underlying26 rfl rfl hx4 rfl (fun b117 o117 p117 => ?_)
  refine wl_m M (q_ldp p117 rfl rfl) rfl rfl ?_
  refine wl_as M rfl rfl ?_
  refine wl_nil ?_
  refine wc_seq ?_
  refine wc_region ?_
  refine wl_mv M rfl rfl ?_
  refine wl_mv M rfl rfl ?_
  refine wl_ixr (j := ((x4).toNat)) 0 M rfl Tryd.underlying26 rfl (ixe (by omega)) (by rw [hnu]; exact nuQ_at (by omega)) rfl (fun b121 o121 p121 => ?_)
  refine wl_m M (q_ldp p121 rfl rfl) rfl rfl ?_
  refine wl_m M (q_geq rfl rfl) rfl rfl ?_
  refine wl_nil ?_
  refine wc_dec rfl (fun ht123 => ?_) (fun ht123 => ?_)
  ·have hk123 : kpS t x4.toNat = true := nuP_nn.symm.trans (decide_eq_true ht123)
   refine wc_draws (fun w' => Mem w I I6 (row EInt (sv u77) l_77_2 :: row EArc (sv nilV) [] :: box b10 29 [.int .i64 (rk (kpS t) k2 : Int), .int .i64 (nuP (kpS t) (t.start).toNat), sv u_f_4, sv nilV] :: box b2 29 [.int .i64 0, .int .i64 0, .slice none 0 0, .slice none 0 0] :: box b1 29 [.int .i64 t.states, .int .i64 t.start, sv fu1, sv au1] :: []) w' ∧ True) [9] fol ?_
   replace M := M.drew
   have hS := (⟨(M.drop 2), trivial⟩ : _ ∧ _)
   refine wa_q 0 rfl (by kernel_rfl) (q_fa fo_29_2 rfl) hS rfl rfl ?_
   refine wa_q 1 rfl (by kernel_rfl) ((q_ldb 2 Tryd.underlying26 rfl rfl rfl rfl).mono fun _ h => h.1) hS rfl rfl ?_
   refine wa_q 2 rfl (by kernel_rfl) (q_move rfl) hS rfl rfl ?_
   refine wa_q 3 rfl (by kernel_rfl) (q_move rfl) hS rfl rfl ?_
   refine wa_ixS (j := ((x4).toNat)) 4 hS (fun _ h => h.1.rd (i := 0) rfl) rfl (by kernel_rfl) Tryd.underlying26 rfl (ixe (by omega)) (by rw [hnu]; exact nuQ_at (by omega)) rfl (fun b128 o128 p128 => ?_)
   refine wa_q 5 rfl (by kernel_rfl) (q_ldp p128 rfl rfl) hS rfl rfl ?_
   refine wa_e 6 rfl (by kernel_rfl) (e_bsI (E := EInt) (xs := [(nuP (kpS t) (x4).toNat)]) M (bs_26_1 _) ⟨⟨rfl, rfl⟩, trivial⟩ rfl rfl (by decide)) rfl rfl ?_
   rintro _ w32 ⟨u130, J130, rfl, hJ130, R130, M⟩
   have hoJ130 := M.old
   have hS := (⟨((M.less hJ130 hoI6).drop 2), trivial⟩ : _ ∧ _)
   refine ⟨fun _ => hS, ?_⟩
   refine wa_e 7 rfl (by kernel_rfl) (e_app 2 M rfl R130 Tryd.underlying26 rfl rfl (by have := take_flat_len (finQ_len (kpS t)) t.finals k4; rw [hff]; show (_ + 1) * 8 ≤ _; omega)) rfl rfl ?_
   rintro _ w33 ⟨u131, rfl, M⟩
   simp only [sC0, sCS] at M
   have hS := (⟨((M.less hJ130 hoI6).drop 2), trivial⟩ : _ ∧ _)
   refine ⟨fun _ => hS, ?_⟩
   replace M := M.less hJ130 hoI6
   refine wa_q 8 rfl (by kernel_rfl) (q_fa fo_29_2 rfl) hS rfl rfl ?_
   refine wa_e0 9 rfl (by kernel_rfl) (e_stb 3 M rfl rfl rfl sz26 rfl rfl) rfl ?_
   intro _ w34 M
   simp only [sC0, sCS] at M
   refine ⟨nofun, ?_⟩
   refine wa_done (by kernel_rfl) ?_
   refine wc_region ?_
   refine wl_m M (q_add rfl rfl (IntWalk.i64_in _ (by omega))) rfl rfl ?_
   refine wl_mv M rfl rfl ?_
   refine wl_nil ?_
   refine ⟨(k4 + 1, u131, l_f_4 ++ [(nuP (kpS t) (x4).toNat)]), ?_, ⟨(by omega), (by rw [take_flat hx4, hff, finQ, if_pos hk123, nuP_at hk123]), M⟩, ⟨rfl, trivial⟩, unw_look rfl unw_base⟩
   show t.finals.length - (k4 + 1) < t.finals.length - k4
   omega
  have hk123 : kpS t x4.toNat = false := nuP_nn.symm.trans (decide_eq_false ht123)
  refine wc_skip ?_
  refine wc_region ?_
  refine wl_m M (q_add rfl rfl (IntWalk.i64_in _ (by omega))) rfl rfl ?_
  refine wl_mv M rfl rfl ?_
  refine wl_nil ?_
  refine ⟨(k4 + 1, u_f_4, l_f_4), ?_, ⟨(by omega), (by rw [take_flat hx4, hff, finQ, if_neg (by rw [hk123]; decide), List.append_nil]), M⟩, ⟨rfl, trivial⟩, unw_look rfl unw_base⟩
  show t.finals.length - (k4 + 1) < t.finals.length - k4
  omega
 have hke4 : k4 = t.finals.length := by omega
 rw [hke4, List.take_length] at hff
 refine wc_exit rfl ?_
 refine wc_seq ?_
 refine wc_region ?_
 refine wl_m M (q_fa fo_29_2 rfl) rfl rfl ?_
 refine wl_m M (q_ldb 3 Tryd.underlying26 rfl rfl rfl rfl) rfl rfl ?_
 refine wl_e (e_callR Tryd.func70 rfl (vs := [sv u_f_4]) rfl (sortI_c 2 M rfl (by have := flat_len (finQ_len (kpS t)) t.finals; rw [hff]; omega))) rfl rfl ?_
 rintro _ w35 M
 simp only [sC0, sCS] at M
 refine wl_nil ?_
 refine wc_seq ?_
 refine wc_region ?_
 refine wl_m M (q_fa fo_29_2 rfl) rfl rfl ?_
 refine wl_m M (q_ldb 3 Tryd.underlying26 rfl rfl rfl rfl) rfl rfl ?_
 refine wl_e (e_callO (val := sv) Tryd.func71 rfl (vs := [sv u_f_4]) rfl (at_place (fun _ M => compactI_c (by have := flat_len (finQ_len (kpS t)) t.finals; rw [srtI_len, hff]; omega) M) M 2 rfl)) rfl rfl ?_
 rintro _ w36 ⟨u139, rfl, M⟩
 simp only [sC0, sCS] at M
 refine wl_m M (q_fa fo_29_2 rfl) rfl rfl ?_
 refine wl_e0 (e_stb 3 M rfl rfl rfl sz26 rfl rfl) rfl ?_
 intro _ w37 M
 simp only [sC0, sCS] at M
 refine wl_nil ?_
 refine wc_seq ?_
 refine wc_region ?_
 refine wl_e (e_mkm QArc Value.bool M) rfl rfl ?_
 rintro _ w38 ⟨b141, rfl, M⟩
 refine wl_as M rfl rfl ?_
 refine wl_nil ?_
 refine wc_seq ?_
 refine wc_seq ?_
 refine wc_region ?_
 refine wl_m M (q_fa fo_29_3 rfl) rfl rfl ?_
 refine wl_m M (q_ldb 6 Tryd.underlying27 rfl rfl rfl rfl) rfl rfl ?_
 refine wl_m M (q_lenR ((((Ra1.mono hI5).mono hI8).mono hI9).mono hI6) Tryd.underlying27 rfl) rfl rfl ?_
 refine wl_mv M rfl rfl ?_
 refine wl_nil ?_
 refine wc_block ?_
 refine wc_loop (α := Nat × SV × (List Arc) × (List (Arc × Bool))) [17, 145, 146, 147, 148, 149, 150, 151, 152, 153, 154, 155, 156, 157, 158, 159, 160, 161, 162, 163, 164, 165, 166, 167, 168, 169, 170, 171, 172, 173, 174, 175, 176, 177, 178, 179, 180, 181, 182, 183] (fun ((k6, u_a_6, l_a_6, m_141_6) : Nat × SV × (List Arc) × (List (Arc × Bool))) => [(145, .int .i64 (k6 : Int))])
   (fun ((k6, u_a_6, l_a_6, m_141_6) : Nat × SV × (List Arc) × (List (Arc × Bool))) w' => (k6 ≤ t.arcs.length) ∧ (l_a_6.Nodup ∧ ∀ z, z ∈ l_a_6 ↔ z ∈ (t.arcs.take k6).flatMap (arcQ (kpS t))) ∧ (m_141_6 = tr l_a_6) ∧ (l_a_6.length ≤ k6) ∧ Mem w I I6 (mpr QArc Value.bool b141 m_141_6 :: row EInt (sv u77) l_77_2 :: row EArc (sv u_a_6) l_a_6 :: row EInt (sv u139) (dedupC (srtI l_f_4)) :: box b10 29 [.int .i64 (rk (kpS t) k2 : Int), .int .i64 (nuP (kpS t) (t.start).toNat), sv u139, sv u_a_6] :: box b2 29 [.int .i64 0, .int .i64 0, .slice none 0 0, .slice none 0 0] :: box b1 29 [.int .i64 t.states, .int .i64 t.start, sv fu1, sv au1] :: []) w')
   (fun ((k6, u_a_6, l_a_6, m_141_6) : Nat × SV × (List Arc) × (List (Arc × Bool))) => t.arcs.length - k6) (0, nilV, [], []) ⟨rfl, trivial⟩ ?_ ?_
 ·refine ⟨Nat.zero_le _, ⟨by simp, by simp⟩, rfl, (by simp), ?_⟩
  exact M
 rintro ⟨k6, u_a_6, l_a_6, m_141_6⟩ jj6 w39 ⟨hk6, hnd, hmt, hln, M⟩
 have hoI6 := M.old
 refine wc_seq ?_
 refine wc_region ?_
 refine wl_m M (q_lss rfl rfl) rfl rfl ?_
 refine wl_nil ?_
 refine wc_seq ?_
 refine wc_dec rfl (fun ht146 => ?_) (fun ht146 => ?_)
 ·obtain ⟨x6, hx6⟩ : ∃ x_, t.arcs[k6]? = some x_ := ⟨_, List.getElem?_eq_getElem (by omega)⟩
  have hll6 := (((((Ra1.mono hI5).mono hI8).mono hI9).mono hI6)).len_le
  have hx6r := hr.arcs x6 (List.mem_of_getElem? hx6)
  refine wc_skip ?_
  refine wc_seq ?_
  refine wc_block ?_
  refine wc_seq ?_
  refine wc_region ?_
  refine wl_ix (j := k6) M ((((Ra1.mono hI5).mono hI8).mono hI9).mono hI6) Tryd.underlying27 rfl rfl hx6 rfl (fun b147 o147 p147 => ?_)
  refine wl_m M (q_ldp p147 rfl rfl) rfl rfl ?_
  refine wl_e (e_alloc M z52) rfl rfl ?_
  rintro _ w40 ⟨b17, rfl, M⟩
  refine wl_e0 (e_stW 0 M rfl rfl rfl sz52 rfl rfl) rfl ?_
  intro _ w41 M
  simp only [sC0, sCS] at M
  refine wl_nil ?_
  refine wc_seq ?_
  refine wc_join (α := Heap) [149, 150, 151, 152, 153, 154, 155, 156, 157, 158, 159, 160] (fun ((I7) : Heap) => []) (fun ((I7) : Heap) w' => hle I6 I7 ∧ Mem w I I7 (box b17 52 [.int .i64 (nuP (kpS t) x6.src.toNat), .int .i64 (nuP (kpS t) x6.dst.toNat), .int .i32 x6.inp, .int .i32 x6.out] :: mpr QArc Value.bool b141 m_141_6 :: row EInt (sv u77) l_77_2 :: row EArc (sv u_a_6) l_a_6 :: row EInt (sv u139) (dedupC (srtI l_f_4)) :: box b10 29 [.int .i64 (rk (kpS t) k2 : Int), .int .i64 (nuP (kpS t) (t.start).toNat), sv u139, sv u_a_6] :: box b2 29 [.int .i64 0, .int .i64 0, .slice none 0 0, .slice none 0 0] :: box b1 29 [.int .i64 t.states, .int .i64 t.start, sv fu1, sv au1] :: []) w') ?_ ?_
  ·refine wc_draws (fun w' => Mem w I I6 (mpr QArc Value.bool b141 m_141_6 :: row EInt (sv u77) l_77_2 :: row EArc (sv u_a_6) l_a_6 :: row EInt (sv u139) (dedupC (srtI l_f_4)) :: box b10 29 [.int .i64 (rk (kpS t) k2 : Int), .int .i64 (nuP (kpS t) (t.start).toNat), sv u139, sv u_a_6] :: box b2 29 [.int .i64 0, .int .i64 0, .slice none 0 0, .slice none 0 0] :: box b1 29 [.int .i64 t.states, .int .i64 t.start, sv fu1, sv au1] :: []) w' ∧ True) [] fol ?_
   replace M := M.drew
   have hS := (⟨(M.drop 0), trivial⟩ : _ ∧ _)
   refine wa_q 0 rfl (by kernel_rfl) (q_move rfl) hS rfl rfl ?_
   refine wa_q 1 rfl (by kernel_rfl) (q_fa fo_52_0 rfl) hS rfl rfl ?_
   refine wa_q 5 rfl (by kernel_rfl) (q_move rfl) hS rfl rfl ?_
   refine wa_q 6 rfl (by kernel_rfl) (q_fa fo_52_1 rfl) hS rfl rfl ?_
   refine wa_es [2, 7] (by kernel_rfl) (by decide) ⟨?_, ?_, trivial⟩
   ·refine one_e 2 rfl (e_ldb 0 M Tryd.underlying3 rfl rfl rfl rfl) rfl rfl ?_
    rintro _ w42 ⟨rfl, M⟩
    have hS := (⟨(M.drop 0), trivial⟩ : _ ∧ _)
    refine ⟨fun _ => hS, ?_⟩
    refine wa_ixS (j := ((x6.src).toNat)) 3 hS (fun _ h => h.1.rd (i := 1) rfl) rfl (by kernel_rfl) Tryd.underlying26 rfl (ixe (by omega)) (by rw [hnu]; exact nuQ_at (by omega)) rfl (fun b152 o152 p152 => ?_)
    refine wa_q 4 rfl (by kernel_rfl) (q_ldp p152 rfl rfl) hS rfl rfl ?_
    refine wa_e 7 rfl (by kernel_rfl) (e_ldb 0 M Tryd.underlying3 rfl rfl rfl rfl) rfl rfl ?_
    rintro _ w43 ⟨rfl, M⟩
    have hS := (⟨(M.drop 0), trivial⟩ : _ ∧ _)
    refine ⟨fun _ => hS, ?_⟩
    refine wa_ixS (j := ((x6.dst).toNat)) 8 hS (fun _ h => h.1.rd (i := 1) rfl) rfl (by kernel_rfl) Tryd.underlying26 rfl (ixe (by omega)) (by rw [hnu]; exact nuQ_at (by omega)) rfl (fun b157 o157 p157 => ?_)
    refine wa_q 9 rfl (by kernel_rfl) (q_ldp p157 rfl rfl) hS rfl rfl ?_
    refine wa_q 10 rfl (by kernel_rfl) (q_fa fo_52_0 rfl) hS rfl rfl ?_
    refine wa_e0 11 rfl (by kernel_rfl) (e_stb 0 M rfl rfl rfl sz3 rfl rfl) rfl ?_
    intro _ w44 M
    simp only [sC0, sCS] at M
    have hS := (⟨(M.drop 0), trivial⟩ : _ ∧ _)
    refine ⟨fun _ => hS, ?_⟩
    refine wa_q 12 rfl (by kernel_rfl) (q_fa fo_52_1 rfl) hS rfl rfl ?_
    refine wa_e0 13 rfl (by kernel_rfl) (e_stb 0 M rfl rfl rfl sz3 rfl rfl) rfl ?_
    intro _ w45 M
    simp only [sC0, sCS] at M
    have hS := (⟨(M.drop 0), trivial⟩ : _ ∧ _)
    refine ⟨fun _ => hS, ?_⟩
    refine wa_done (by kernel_rfl) ?_
    exact ⟨(I6), ⟨hle.refl _, M⟩, trivial, unw_take 12 rfl rfl⟩
   ·refine one_e 7 rfl (e_ldb 0 M Tryd.underlying3 rfl rfl rfl rfl) rfl rfl ?_
    rintro _ w46 ⟨rfl, M⟩
    have hS := (⟨(M.drop 0), trivial⟩ : _ ∧ _)
    refine ⟨fun _ => hS, ?_⟩
    refine wa_ixS (j := ((x6.dst).toNat)) 8 hS (fun _ h => h.1.rd (i := 1) rfl) rfl (by kernel_rfl) Tryd.underlying26 rfl (ixe (by omega)) (by rw [hnu]; exact nuQ_at (by omega)) rfl (fun b157 o157 p157 => ?_)
    refine wa_q 9 rfl (by kernel_rfl) (q_ldp p157 rfl rfl) hS rfl rfl ?_
    refine wa_e 2 rfl (by kernel_rfl) (e_ldb 0 M Tryd.underlying3 rfl rfl rfl rfl) rfl rfl ?_
    rintro _ w47 ⟨rfl, M⟩
    have hS := (⟨(M.drop 0), trivial⟩ : _ ∧ _)
    refine ⟨fun _ => hS, ?_⟩
    refine wa_ixS (j := ((x6.src).toNat)) 3 hS (fun _ h => h.1.rd (i := 1) rfl) rfl (by kernel_rfl) Tryd.underlying26 rfl (ixe (by omega)) (by rw [hnu]; exact nuQ_at (by omega)) rfl (fun b152 o152 p152 => ?_)
    refine wa_q 4 rfl (by kernel_rfl) (q_ldp p152 rfl rfl) hS rfl rfl ?_
    refine wa_q 10 rfl (by kernel_rfl) (q_fa fo_52_0 rfl) hS rfl rfl ?_
    refine wa_e0 11 rfl (by kernel_rfl) (e_stb 0 M rfl rfl rfl sz3 rfl rfl) rfl ?_
    intro _ w48 M
    simp only [sC0, sCS] at M
    have hS := (⟨(M.drop 0), trivial⟩ : _ ∧ _)
    refine ⟨fun _ => hS, ?_⟩
    refine wa_q 12 rfl (by kernel_rfl) (q_fa fo_52_1 rfl) hS rfl rfl ?_
    refine wa_e0 13 rfl (by kernel_rfl) (e_stb 0 M rfl rfl rfl sz3 rfl rfl) rfl ?_
    intro _ w49 M
    simp only [sC0, sCS] at M
    have hS := (⟨(M.drop 0), trivial⟩ : _ ∧ _)
    refine ⟨fun _ => hS, ?_⟩
    refine wa_done (by kernel_rfl) ?_
    exact ⟨(I6), ⟨hle.refl _, M⟩, trivial, unw_take 12 rfl rfl⟩
  rintro I7 jr34 w50 ⟨hI7, M⟩
  have hoI7 := M.old
  refine wc_seq ?_
  refine wc_join (α := Unit) [161, 162, 163, 164, 165, 166, 167, 168, 169, 170, 171, 172, 173, 174] (fun _ => [(174, .bool (((decide (0 ≤ (nuP (kpS t) x6.src.toNat))) && (decide (0 ≤ (nuP (kpS t) x6.dst.toNat)))) && (!((aget m_141_6 (Arc.mk (nuP (kpS t) x6.src.toNat) (nuP (kpS t) x6.dst.toNat) x6.inp x6.out)).getD false))))]) (fun _ w' => Mem w I I7 (box b17 52 [.int .i64 (nuP (kpS t) x6.src.toNat), .int .i64 (nuP (kpS t) x6.dst.toNat), .int .i32 x6.inp, .int .i32 x6.out] :: mpr QArc Value.bool b141 m_141_6 :: row EInt (sv u77) l_77_2 :: row EArc (sv u_a_6) l_a_6 :: row EInt (sv u139) (dedupC (srtI l_f_4)) :: box b10 29 [.int .i64 (rk (kpS t) k2 : Int), .int .i64 (nuP (kpS t) (t.start).toNat), sv u139, sv u_a_6] :: box b2 29 [.int .i64 0, .int .i64 0, .slice none 0 0, .slice none 0 0] :: box b1 29 [.int .i64 t.states, .int .i64 t.start, sv fu1, sv au1] :: []) w') ?_ ?_
  ·refine wc_region ?_
   refine wl_m M (q_fa fo_52_0 rfl) rfl rfl ?_
   refine wl_m M (q_ldb 0 Tryd.underlying3 rfl rfl rfl rfl) rfl rfl ?_
   refine wl_m M (q_geq rfl rfl) rfl rfl ?_
   refine wl_mv M rfl rfl ?_
   rcases Bool.eq_false_or_eq_true (decide (0 ≤ (nuP (kpS t) x6.src.toNat))) with hg164 | hg164
   ·refine wl_m M (q_guard 3 rfl rfl rfl hg164 (q_fa fo_52_1 rfl)) rfl rfl ?_
    refine wl_m M (q_guard 3 rfl rfl rfl hg164 (q_ldb 0 Tryd.underlying3 rfl rfl rfl rfl)) rfl rfl ?_
    refine wl_m M (q_guard 3 rfl rfl rfl hg164 (q_geq rfl rfl)) rfl rfl ?_
    refine wl_m M (q_pickT rfl hg164 rfl) rfl rfl ?_
    refine wl_mv M rfl rfl ?_
    rcases Bool.eq_false_or_eq_true (decide (0 ≤ (nuP (kpS t) x6.dst.toNat))) with hg169 | hg169
    ·refine wl_m M (q_guard 8 rfl rfl rfl hg169 (q_move rfl)) rfl rfl ?_
     refine wl_m M (q_guard 8 rfl rfl rfl hg169 (q_ldbA 0 Tryd.underlying52 rfl sz52 rfl rfl rfl rfl)) rfl rfl ?_
     refine wl_m M (q_guard 8 rfl rfl rfl hg169 (q_lk (k := (Arc.mk (nuP (kpS t) x6.src.toNat) (nuP (kpS t) x6.dst.toNat) x6.inp x6.out)) (z := false) 1 rfl Tryd.underlying77 zv4 rfl rfl)) rfl rfl ?_
     refine wl_m M (q_guard 8 rfl rfl rfl hg169 (q_not rfl)) rfl rfl ?_
     refine wl_m M (q_pickT rfl hg169 rfl) rfl rfl ?_
     refine wl_nil ?_
     exact ⟨(), M, ⟨(show some (Value.bool (!((aget m_141_6 (Arc.mk (nuP (kpS t) x6.src.toNat) (nuP (kpS t) x6.dst.toNat) x6.inp x6.out)).getD false))) = some (Value.bool (((decide (0 ≤ (nuP (kpS t) x6.src.toNat))) && (decide (0 ≤ (nuP (kpS t) x6.dst.toNat)))) && (!((aget m_141_6 (Arc.mk (nuP (kpS t) x6.src.toNat) (nuP (kpS t) x6.dst.toNat) x6.inp x6.out)).getD false)))) from by first | (simp only [hg164, hg169, Bool.true_or, Bool.false_or, Bool.true_and, Bool.false_and, Bool.or_true, Bool.or_false, Bool.and_true, Bool.and_false]; done) | simp_all), trivial⟩, unw_take 14 rfl rfl⟩
    refine wl_m M (q_off 8 rfl rfl rfl hg169) rfl rfl ?_
    refine wl_m M (q_off 8 rfl rfl rfl hg169) rfl rfl ?_
    refine wl_m M (q_off 8 rfl rfl rfl hg169) rfl rfl ?_
    refine wl_m M (q_off 8 rfl rfl rfl hg169) rfl rfl ?_
    refine wl_m M (q_pickF rfl hg169 rfl) rfl rfl ?_
    refine wl_nil ?_
    exact ⟨(), M, ⟨(show some (Value.bool false) = some (Value.bool (((decide (0 ≤ (nuP (kpS t) x6.src.toNat))) && (decide (0 ≤ (nuP (kpS t) x6.dst.toNat)))) && (!((aget m_141_6 (Arc.mk (nuP (kpS t) x6.src.toNat) (nuP (kpS t) x6.dst.toNat) x6.inp x6.out)).getD false)))) from by first | (simp only [hg164, hg169, Bool.true_or, Bool.false_or, Bool.true_and, Bool.false_and, Bool.or_true, Bool.or_false, Bool.and_true, Bool.and_false]; done) | simp_all), trivial⟩, unw_take 14 rfl rfl⟩
   refine wl_m M (q_off 3 rfl rfl rfl hg164) rfl rfl ?_
   refine wl_m M (q_off 3 rfl rfl rfl hg164) rfl rfl ?_
   refine wl_m M (q_off 3 rfl rfl rfl hg164) rfl rfl ?_
   refine wl_m M (q_pickF rfl hg164 rfl) rfl rfl ?_
   refine wl_mv M rfl rfl ?_
   refine wl_m M (q_off 8 rfl rfl rfl rfl) rfl rfl ?_
   refine wl_m M (q_off 8 rfl rfl rfl rfl) rfl rfl ?_
   refine wl_m M (q_off 8 rfl rfl rfl rfl) rfl rfl ?_
   refine wl_m M (q_off 8 rfl rfl rfl rfl) rfl rfl ?_
   refine wl_m M (q_pickF rfl rfl rfl) rfl rfl ?_
   refine wl_nil ?_
   exact ⟨(), M, ⟨(show some (Value.bool false) = some (Value.bool (((decide (0 ≤ (nuP (kpS t) x6.src.toNat))) && (decide (0 ≤ (nuP (kpS t) x6.dst.toNat)))) && (!((aget m_141_6 (Arc.mk (nuP (kpS t) x6.src.toNat) (nuP (kpS t) x6.dst.toNat) x6.inp x6.out)).getD false)))) from by first | (simp only [hg164, Bool.true_or, Bool.false_or, Bool.true_and, Bool.false_and, Bool.or_true, Bool.or_false, Bool.and_true, Bool.and_false]; done) | simp_all), trivial⟩, unw_take 14 rfl rfl⟩
  rintro _ jr35 w51 M
  refine wc_cond rfl (fun ht174 => ?_) (fun ht174 => ?_)
  ·obtain ⟨h1, h2⟩ := Bool.and_eq_true_iff.1 ht174
   rw [nuP_nn, nuP_nn] at h1
   rw [hmt, aget_tr] at h2
   have hnk := nd_t h2
   refine wc_seq ?_
   refine wc_region ?_
   refine wl_mv M rfl rfl ?_
   refine wl_m M (q_ldbA 0 Tryd.underlying52 rfl sz52 rfl rfl rfl rfl) rfl rfl ?_
   refine wl_e0 (e_mpu (k := (Arc.mk (nuP (kpS t) x6.src.toNat) (nuP (kpS t) x6.dst.toNat) x6.inp x6.out)) (v := true) 1 M rfl Tryd.underlying77 rfl rfl rfl) rfl ?_
   intro _ w52 M
   simp only [sC0, sCS] at M
   refine wl_nil ?_
   refine wc_region ?_
   refine wl_m M (q_fa fo_29_3 rfl) rfl rfl ?_
   refine wl_m M (q_ldb 5 Tryd.underlying27 rfl rfl rfl rfl) rfl rfl ?_
   refine wl_m M (q_ldbA 0 Tryd.underlying52 rfl sz52 rfl rfl rfl rfl) rfl rfl ?_
   refine wl_e (e_bsI (E := EArc) (xs := [(Arc.mk (nuP (kpS t) x6.src.toNat) (nuP (kpS t) x6.dst.toNat) x6.inp x6.out)]) M (bs_27_1 _ _ _ _) ⟨⟨rfl, rfl⟩, trivial⟩ rfl rfl (by decide)) rfl rfl ?_
   rintro _ w53 ⟨u180, J180, rfl, hJ180, R180, M⟩
   have hoJ180 := M.old
   refine wl_e (e_app 3 M rfl R180 Tryd.underlying27 rfl rfl (by show (_ + 1) * 24 ≤ _; omega)) rfl rfl ?_
   rintro _ w54 ⟨u181, rfl, M⟩
   replace M := M.less hJ180 hoI7
   simp only [sC0, sCS] at M
   refine wl_m M (q_fa fo_29_3 rfl) rfl rfl ?_
   refine wl_e0 (e_stb 5 M rfl rfl rfl sz27 rfl rfl) rfl ?_
   intro _ w55 M
   simp only [sC0, sCS] at M
   refine wl_nil ?_
   refine wc_region ?_
   refine wl_m M (q_add rfl rfl (IntWalk.i64_in _ (by omega))) rfl rfl ?_
   refine wl_mv M rfl rfl ?_
   refine wl_nil ?_
   replace M := M.less hI7 hoI6
   replace M := M.drop 0
   refine ⟨(k6 + 1, u181, l_a_6 ++ [(Arc.mk (nuP (kpS t) x6.src.toNat) (nuP (kpS t) x6.dst.toNat) x6.inp x6.out)], aput m_141_6 (Arc.mk (nuP (kpS t) x6.src.toNat) (nuP (kpS t) x6.dst.toNat) x6.inp x6.out) true), ?_, ⟨(by omega), (trm_push hx6 hnd h1 hnk), (by rw [hmt, aput_tr hnk]), (by simp; omega), M⟩, ⟨rfl, trivial⟩, unw_look rfl (unw_hav rfl (unw_look rfl (unw_hav rfl (unw_look rfl unw_base))))⟩
   show t.arcs.length - (k6 + 1) < t.arcs.length - k6
   omega
  have hkn := and_fm ht174
  rw [nuP_nn, nuP_nn, hmt, aget_tr] at hkn
  refine wc_skip ?_
  refine wc_region ?_
  refine wl_m M (q_add rfl rfl (IntWalk.i64_in _ (by omega))) rfl rfl ?_
  refine wl_mv M rfl rfl ?_
  refine wl_nil ?_
  replace M := M.less hI7 hoI6
  replace M := M.drop 0
  refine ⟨(k6 + 1, u_a_6, l_a_6, m_141_6), ?_, ⟨(by omega), (trm_skip hx6 hnd hkn), hmt, (by omega), M⟩, ⟨rfl, trivial⟩, unw_look rfl (unw_hav rfl (unw_look rfl (unw_hav rfl (unw_look rfl unw_base))))⟩
  show t.arcs.length - (k6 + 1) < t.arcs.length - k6
  omega
 have hke6 : k6 = t.arcs.length := by omega
 rw [hke6, List.take_length] at hnd
 refine wc_exit rfl ?_
 refine wc_seq ?_
 refine wc_region ?_
 refine wl_m M (q_fa fo_29_3 rfl) rfl rfl ?_
 refine wl_m M (q_ldb 4 Tryd.underlying27 rfl rfl rfl rfl) rfl rfl ?_
 refine wl_e (e_callR Tryd.func62 rfl (vs := [sv u_a_6, .func (.func 72) #[] #[]]) rfl (sortU_c 2 M rfl (by omega))) rfl rfl ?_
 rintro _ w56 M
 simp only [sC0, sCS] at M
 refine wl_nil ?_
 refine wc_seq ?_
 refine wc_seq ?_
 refine wc_join (α := Unit) [187, 188, 189, 190, 191, 192, 193, 194, 195] (fun _ => [(195, .bool ((decide (512 < (rk (kpS t) k2 : Int))) || (decide (4096 < ((srtA l_a_6).length : Int)))))]) (fun _ w' => Mem w I I6 (mpr QArc Value.bool b141 m_141_6 :: row EInt (sv u77) l_77_2 :: row EArc (sv u_a_6) (srtA l_a_6) :: row EInt (sv u139) (dedupC (srtI l_f_4)) :: box b10 29 [.int .i64 (rk (kpS t) k2 : Int), .int .i64 (nuP (kpS t) (t.start).toNat), sv u139, sv u_a_6] :: box b2 29 [.int .i64 0, .int .i64 0, .slice none 0 0, .slice none 0 0] :: box b1 29 [.int .i64 t.states, .int .i64 t.start, sv fu1, sv au1] :: []) w') ?_ ?_
 ·refine wc_region ?_
  refine wl_m M (q_fa fo_29_0 rfl) rfl rfl ?_
  refine wl_m M (q_ldb 4 Tryd.underlying3 rfl rfl rfl rfl) rfl rfl ?_
  refine wl_m M (q_gtr rfl rfl) rfl rfl ?_
  refine wl_mv M rfl rfl ?_
  rcases Bool.eq_false_or_eq_true (decide (512 < (rk (kpS t) k2 : Int))) with hg190 | hg190
  ·refine wl_m M (q_off 3 rfl rfl rfl hg190) rfl rfl ?_
   refine wl_m M (q_off 3 rfl rfl rfl hg190) rfl rfl ?_
   refine wl_m M (q_off 3 rfl rfl rfl hg190) rfl rfl ?_
   refine wl_m M (q_off 3 rfl rfl rfl hg190) rfl rfl ?_
   refine wl_m M (q_pickT rfl hg190 rfl) rfl rfl ?_
   refine wl_nil ?_
   exact ⟨(), M, ⟨(show some (Value.bool true) = some (Value.bool ((decide (512 < (rk (kpS t) k2 : Int))) || (decide (4096 < ((srtA l_a_6).length : Int))))) from by first | (simp only [hg190, Bool.true_or, Bool.false_or, Bool.true_and, Bool.false_and, Bool.or_true, Bool.or_false, Bool.and_true, Bool.and_false]; done) | simp_all), trivial⟩, unw_take 9 rfl rfl⟩
  refine wl_m M (q_guard 3 rfl rfl rfl hg190 (q_fa fo_29_3 rfl)) rfl rfl ?_
  refine wl_m M (q_guard 3 rfl rfl rfl hg190 (q_ldb 4 Tryd.underlying27 rfl rfl rfl rfl)) rfl rfl ?_
  refine wl_m M (q_guard 3 rfl rfl rfl hg190 (q_lenr 2 M rfl Tryd.underlying27 rfl)) rfl rfl ?_
  refine wl_m M (q_guard 3 rfl rfl rfl hg190 (q_gtr rfl rfl)) rfl rfl ?_
  refine wl_m M (q_pickF rfl hg190 rfl) rfl rfl ?_
  refine wl_nil ?_
  exact ⟨(), M, ⟨(show some (Value.bool (decide (4096 < ((srtA l_a_6).length : Int)))) = some (Value.bool ((decide (512 < (rk (kpS t) k2 : Int))) || (decide (4096 < ((srtA l_a_6).length : Int))))) from by first | (simp only [hg190, Bool.true_or, Bool.false_or, Bool.true_and, Bool.false_and, Bool.or_true, Bool.or_false, Bool.and_true, Bool.and_false]; done) | simp_all), trivial⟩, unw_take 9 rfl rfl⟩
 rintro _ jr40 w57 M
 refine wc_cond rfl (fun ht195 => ?_) (fun ht195 => ?_)
 ·refine wc_seq ?_
  refine wc_region ?_
  refine wl_m M (q_build (bd_29) trivial) rfl rfl ?_
  refine wl_e0 (e_stW 5 M rfl rfl rfl sz29 rfl rfl) rfl ?_
  intro _ w58 M
  simp only [sC0, sCS] at M
  refine wl_as M rfl rfl ?_
  refine wl_nil ?_
  refine wc_ret ?_
  have hT := trimS_at hr hkst hnd
  rw [← hff] at hT
  rw [hke2] at ht195
  have hF : FinS t m = (zeroTra, 2) := by rw [FinS, limS, hT]; exact if_pos ht195
  exact outc2 rfl rfl (load_boxA M 5 Tryd.underlying29 rfl sz29 rfl rfl rfl) rfl ⟨_, _, rfl, M.grow, _, by rw [hF], by rw [hF]; exact ⟨nilV, nilV, rfl, rdSl_nil _, rdSl_nil _⟩⟩
 refine wc_skip ?_
 refine wc_seq ?_
 refine wc_region ?_
 refine wl_m M (q_ldbA 4 Tryd.underlying29 rfl sz29 rfl rfl rfl rfl) rfl rfl ?_
 refine wl_e0 (e_stW 5 M rfl rfl rfl sz29 rfl rfl) rfl ?_
 intro _ w59 M
 simp only [sC0, sCS] at M
 refine wl_as M rfl rfl ?_
 refine wl_nil ?_
 refine wc_ret ?_
 have hT := trimS_at hr hkst hnd
 rw [← hff] at hT
 rw [hke2] at ht195
 obtain ⟨K1, M, hK1, Rk1⟩ := M.frzRow 3 rfl
 obtain ⟨K2, M, hK2, Rk2⟩ := M.frzRow 2 rfl
 have hF : FinS t m = (⟨(rk (kpS t) m : Int), nuP (kpS t) t.start.toNat, dedupC (srtI l_f_4), srtA l_a_6⟩, 0) := by  rw [FinS, limS, hT]; exact if_neg (by simp only []; rw [ht195]; decide)
 rw [hke2] at M
 have hrd : (FinS t m).1.rd K2 (.agg ([.int .i64 (rk (kpS t) m : Int), .int .i64 (nuP (kpS t) t.start.toNat), sv u139, sv u_a_6] : List Value).toArray) := by
   rw [hF]; exact ⟨_, _, rfl, Rk1.mono hK2, Rk2⟩
 have hld := load_boxA (o := 0) (b := b2) (T0 := 29) (cs := [.int .i64 (rk (kpS t) m : Int), .int .i64 (nuP (kpS t) t.start.toNat), sv u139, sv u_a_6]) (vs := [.int .i64 (rk (kpS t) m : Int), .int .i64 (nuP (kpS t) t.start.toNat), sv u139, sv u_a_6]) M 3 Tryd.underlying29 rfl sz29 rfl rfl rfl
 exact outc2 rfl rfl hld rfl ⟨_, K2, rfl, (M.grow : Grow w I _ K2), _, by rw [hF], hrd⟩
end Go.Proofs.YtoilmeiikgegcaaDoor.G
