/- Walks of the program's functions. -/
import Derived.Test.YtmjieefhjmiagaaGreatDoorWFa
set_option linter.all false
namespace Go.Proofs.YtmjieefhjmiagaaGreatDoor.G
open Go Go.RowKit
set_option maxRecDepth 4000 in
set_option maxHeartbeats 1000000 in
theorem ending_c {t : Tra} {m : Nat} (ht : t.Ok m) (hfn : t.finals.Nodup) (hfl : t.finals.length ≤ 512) {l : List Int} (hl : l.length ≤ 1000) {v1 v2 : Value} {u : SV} {I : Heap} {w : World} (hI : hle I (hp w)) (R1 : t.rd I v1) (R2 : rdMat EArc VArc I v2 (lv m t.arcs)) (Rl : rdSl ERune I (sv u) l) :
    Calls A 82 #[v1, v2, sv u] w (Ret w I fun r I' => ∃ G : List Pos, rdMp QPos Value.bool I' r (tr G) ∧ GoodP t l G ∧ G.length ≤ 512512) := by
 obtain ⟨fu1, au1, rfl, Rf1, Ra1⟩ := R1
 have hU : m * (l.length + 1) ≤ 512 * 1001 := Nat.mul_le_mul ht.le (by omega)
 have hrc0 := pos_rect (l := l) ht
 have hal := ht.alen
 have M := Mem.start hI
 refine enter Tryz.func82 rfl 120 Tryz.ntmps82 [_, _, _] rfl ?_
 refine wc_seq ?_
 refine wc_region ?_
 refine wl_e (e_box M rfl) rfl rfl ?_
 rintro _ w1 ⟨b3, rfl, M⟩
 refine wl_as M rfl rfl ?_
 refine wl_nil ?_
 refine wc_seq ?_
 refine wc_region ?_
 refine wl_e (e_mkm QPos Value.bool M) rfl rfl ?_
 rintro _ w2 ⟨b21, rfl, M⟩
 refine wl_m M (q_fa fo_25_1 rfl) rfl rfl ?_
 refine wl_m M (q_ldb 1 Tryz.underlying3 rfl rfl rfl rfl) rfl rfl ?_
 refine wl_m M (q_build (bd_159_0_1 _ _) ⟨⟨rfl, rfl⟩, ⟨rfl, rfl⟩, trivial⟩) rfl rfl ?_
 refine wl_e0 (e_mpi (k := (Pos.mk t.start 0)) (v := true) 0 M rfl Tryz.underlying156 rfl rfl rfl) rfl ?_
 intro _ w3 M
 simp only [sC0, sCS] at M
 refine wl_mv M rfl rfl ?_
 refine wl_as M rfl rfl ?_
 refine wl_nil ?_
 refine wc_seq ?_
 refine wc_region ?_
 refine wl_m M (q_fa fo_25_1 rfl) rfl rfl ?_
 refine wl_m M (q_ldb 1 Tryz.underlying3 rfl rfl rfl rfl) rfl rfl ?_
 refine wl_m M (q_build (bd_159_0_1 _ _) ⟨⟨rfl, rfl⟩, ⟨rfl, rfl⟩, trivial⟩) rfl rfl ?_
 refine wl_e (e_bsR (E := EPos) (xs := [(Pos.mk t.start 0)]) M (bs_161_1 _ _) ⟨⟨rfl, rfl⟩, trivial⟩ rfl rfl (by decide)) rfl rfl ?_
 rintro _ w4 ⟨u29, rfl, M⟩
 refine wl_as M rfl rfl ?_
 refine wl_nil ?_
 refine wc_seq ?_
 refine wc_region ?_
 refine wl_e (e_mkm QPos sv M) rfl rfl ?_
 rintro _ w5 ⟨b30, rfl, M⟩
 replace M := M.toGm 0 EPos rfl
 simp only [sC0, sCS] at M
 refine wl_as M rfl rfl ?_
 refine wl_nil ?_
 refine wc_seq ?_
 refine wc_block ?_
 refine wc_loop (α := (List Pos) × (List (Pos × Pos)) × SV × (List Pos) × (List (Pos × Bool)) × (List SV) × (List (Pos × List Pos))) [8, 10, 12, 13, 31, 32, 33, 34, 35, 36, 37, 38, 39, 40, 41, 42, 43, 44, 45, 46, 47, 48, 49, 50, 51, 52, 53, 54, 55, 56, 57, 58, 59, 60, 61, 62, 63, 64, 65, 66, 67, 68, 69] (fun ((vs, ev, u_29_0, l_29_0, m_21_0, us_30_0, g_30_0) : (List Pos) × (List (Pos × Pos)) × SV × (List Pos) × (List (Pos × Bool)) × (List SV) × (List (Pos × List Pos))) => [(8, sv u_29_0)])
   (fun ((vs, ev, u_29_0, l_29_0, m_21_0, us_30_0, g_30_0) : (List Pos) × (List (Pos × Pos)) × SV × (List Pos) × (List (Pos × Bool)) × (List SV) × (List (Pos × List Pos))) w' => (Bfs (posN t l) (· = pos0 t) vs l_29_0) ∧ (m_21_0 = tr (vs ++ l_29_0)) ∧ (g_30_0 = grp (fun e : Pos × Pos => e.1) (fun e : Pos × Pos => e.2) (ev)) ∧ (EdOk t l vs ev) ∧ (ev.length ≤ vs.length * 4096) ∧ Mem w I I (gmap QPos EPos b30 us_30_0 us_30_0 g_30_0 :: row EPos (sv u_29_0) l_29_0 :: mpr QPos Value.bool b21 m_21_0 :: box b3 25 [.int .i64 t.states, .int .i64 t.start, sv fu1, sv au1] :: []) w')
   (fun ((vs, ev, u_29_0, l_29_0, m_21_0, us_30_0, g_30_0) : (List Pos) × (List (Pos × Pos)) × SV × (List Pos) × (List (Pos × Bool)) × (List SV) × (List (Pos × List Pos))) => (rectP m l.length).length - vs.length) ([], [], u29, [(Pos.mk t.start 0)], aput [] (Pos.mk t.start 0) true, [], []) ⟨rfl, trivial⟩ ?_ ?_
 ·refine ⟨Bfs.init _ _, rfl, rfl, (fun e => by simp), (by simp), ?_⟩
  exact M
 rintro ⟨vs, ev, u_29_0, l_29_0, m_21_0, us_30_0, g_30_0⟩ jj0 w6 ⟨hB, hm, hg, hE, hev, M⟩
 refine wc_seq ?_
 refine wc_seq ?_
 refine wc_region ?_
 refine wl_mv M rfl rfl ?_
 refine wl_m M (q_lenr 1 M rfl Tryz.underlying161 rfl) rfl rfl ?_
 refine wl_m M (q_gtr rfl rfl) rfl rfl ?_
 refine wl_nil ?_
 refine wc_dec rfl (fun ht33 => ?_) (fun ht33 => ?_)
 ·have hrc : ∀ x ∈ l_29_0, x ∈ rectP m l.length := fun x hx => hrc0 x (hB.reach x (List.mem_append.2 (.inr hx)))
  obtain ⟨p, i, qs, hq⟩ : ∃ (p i : Nat) (qs : List Pos), l_29_0 = Pos.mk p i :: qs := by
    cases l_29_0 with
    | nil => simp at ht33
    | cons x qs =>
      obtain ⟨p, i, e, _⟩ := mem_rectP.1 (hrc x (by simp))
      exact ⟨p, i, qs, by rw [e]⟩
  obtain ⟨hp1, hi1⟩ : p < m ∧ i ≤ l.length := by
    obtain ⟨p', i', e, h1, h2⟩ := mem_rectP.1 (hrc (Pos.mk p i) (by rw [hq]; simp))
    simp only [Pos.mk.injEq] at e
    omega
  refine wc_skip ?_
  refine wc_block ?_
  refine wc_seq ?_
  refine wc_region ?_
  refine wl_mv M rfl rfl ?_
  refine wl_ixr (j := 0) 1 M rfl Tryz.underlying161 rfl rfl (by rw [hq]; rfl) rfl (fun b35 o35 p35 => ?_)
  refine wl_m M (q_ldp p35 rfl rfl) rfl rfl ?_
  refine wl_e (e_alloc M z159) rfl rfl ?_
  rintro _ w7 ⟨b10, rfl, M⟩
  refine wl_e0 (e_stW 0 M rfl rfl rfl sz159 rfl rfl) rfl ?_
  intro _ w8 M
  simp only [sC0, sCS] at M
  refine wl_nil ?_
  refine wc_seq ?_
  refine wc_region ?_
  refine wl_mv M rfl rfl ?_
  refine wl_e (e_cut (k := 1) 2 M rfl Tryz.underlying161 rfl rfl (by omega)) rfl rfl ?_
  rintro _ w9 ⟨u38, rfl, M⟩
  simp only [sC0, sCS] at M
  refine wl_as M rfl rfl ?_
  refine wl_nil ?_
  refine wc_seq ?_
  refine wc_region ?_
  refine wl_mv M rfl rfl ?_
  refine wl_mv M rfl rfl ?_
  refine wl_m M (q_ldbA 0 Tryz.underlying159 rfl sz159 rfl rfl rfl rfl) rfl rfl ?_
  refine wl_e (e_callC M (movesP_c hp1 ht.alen (by omega) M.imm R2 Rl) Tryz.func83 rfl rfl) rfl rfl ?_
  rintro v42 w10 ⟨J42, hJ42, R42, M⟩
  obtain ⟨u42, rfl⟩ := rdSl_slice R42
  have hoJ42 := M.old
  replace R42 : rdSl EArc J42 (sv u42) ((posE t l (Pos.mk (p : Int) (i : Int)))) := R42
  refine wl_m M (q_lenR R42 Tryz.underlying23 rfl) rfl rfl ?_
  refine wl_mv M rfl rfl ?_
  refine wl_nil ?_
  refine wc_block ?_
  refine wc_loop (α := Nat × SV × (List Pos) × (List (Pos × Bool)) × (List SV) × (List (Pos × List Pos))) [8, 12, 13, 44, 45, 46, 47, 48, 49, 50, 51, 52, 53, 54, 55, 56, 57, 58, 59, 60, 61, 62, 63, 64, 65, 66, 67, 68, 69] (fun ((k2, u_29_2, l_29_2, m_21_2, us_30_2, g_30_2) : Nat × SV × (List Pos) × (List (Pos × Bool)) × (List SV) × (List (Pos × List Pos))) => [(44, .int .i64 (k2 : Int)), (8, sv u_29_2)])
    (fun ((k2, u_29_2, l_29_2, m_21_2, us_30_2, g_30_2) : Nat × SV × (List Pos) × (List (Pos × Bool)) × (List SV) × (List (Pos × List Pos))) w' => (k2 ≤ (posE t l (Pos.mk (p : Int) (i : Int))).length) ∧ (BfsIn (posN t l) (· = pos0 t) vs (Pos.mk (p : Int) (i : Int)) (((posE t l (Pos.mk (p : Int) (i : Int))).take k2).map (aftP (Pos.mk (p : Int) (i : Int)))) l_29_2) ∧ (m_21_2 = tr (vs ++ (Pos.mk (p : Int) (i : Int)) :: l_29_2)) ∧ (g_30_2 = grp (fun e : Pos × Pos => e.1) (fun e : Pos × Pos => e.2) (ev ++ ((posE t l (Pos.mk (p : Int) (i : Int))).take k2).map fun x => (aftP (Pos.mk (p : Int) (i : Int)) x, (Pos.mk (p : Int) (i : Int))))) ∧ Mem w I J42 (box b10 159 [.int .i64 (p : Int), .int .i64 (i : Int)] :: gmap QPos EPos b30 us_30_2 us_30_2 g_30_2 :: row EPos (sv u_29_2) l_29_2 :: mpr QPos Value.bool b21 m_21_2 :: box b3 25 [.int .i64 t.states, .int .i64 t.start, sv fu1, sv au1] :: []) w')
    (fun ((k2, u_29_2, l_29_2, m_21_2, us_30_2, g_30_2) : Nat × SV × (List Pos) × (List (Pos × Bool)) × (List SV) × (List (Pos × List Pos))) => (posE t l (Pos.mk (p : Int) (i : Int))).length - k2) (0, u38, l_29_0.drop 1, m_21_0, us_30_0, g_30_0) ⟨rfl, rfl, trivial⟩ ?_ ?_
  ·refine ⟨Nat.zero_le _, (by have := hB; rw [hq] at this; rw [hq]; exact this.opn), (by rw [hm, hq]; rfl), (by rw [hg]; simp), ?_⟩
   exact M
  rintro ⟨k2, u_29_2, l_29_2, m_21_2, us_30_2, g_30_2⟩ jj2 w11 ⟨hk2, hB2, hm2, hg2, M⟩
  have hoJ42 := M.old
  have hl29 := hB2.len hrc0
  rw [rectP_len] at hl29
  refine wc_seq ?_
  refine wc_region ?_
  refine wl_m M (q_lss rfl rfl) rfl rfl ?_
  refine wl_nil ?_
  refine wc_seq ?_
  refine wc_dec rfl (fun ht45 => ?_) (fun ht45 => ?_)
  ·obtain ⟨x2, hx2⟩ : ∃ x_, (posE t l (Pos.mk (p : Int) (i : Int)))[k2]? = some x_ := ⟨_, List.getElem?_eq_getElem (by omega)⟩
   have hll2 := (R42).len_le
   refine wc_skip ?_
   refine wc_seq ?_
   refine wc_block ?_
   refine wc_seq ?_
   refine wc_region ?_
   refine wl_ix (j := k2) M R42 Tryz.underlying23 rfl rfl hx2 rfl (fun b46 o46 p46 => ?_)
   refine wl_m M (q_ldp p46 rfl rfl) rfl rfl ?_
   refine wl_e (e_alloc M z51) rfl rfl ?_
   rintro _ w12 ⟨b12, rfl, M⟩
   refine wl_e0 (e_stW 0 M rfl rfl rfl sz51 rfl rfl) rfl ?_
   intro _ w13 M
   simp only [sC0, sCS] at M
   refine wl_nil ?_
   refine wc_seq ?_
   refine wc_region ?_
   refine wl_m M (q_ldbA 1 Tryz.underlying159 rfl sz159 rfl rfl rfl rfl) rfl rfl ?_
   refine wl_m M (q_ldbA 0 Tryz.underlying51 rfl sz51 rfl rfl rfl rfl) rfl rfl ?_
   refine wl_e (e_callC M (afterP_c (Pos.mk (p : Int) (i : Int)) x2 (by simp only []; omega) M.imm) Tryz.func84 rfl rfl) rfl rfl ?_
   rintro _ w14 ⟨J50, hJ50, rfl, M⟩
   replace M := M.less hJ50 hoJ42
   refine wl_e (e_alloc M z159) rfl rfl ?_
   rintro _ w15 ⟨b13, rfl, M⟩
   refine wl_e0 (e_stW 0 M rfl rfl rfl sz159 rfl rfl) rfl ?_
   intro _ w16 M
   simp only [sC0, sCS] at M
   refine wl_nil ?_
   refine wc_seq ?_
   refine wc_region ?_
   refine wl_mv M rfl rfl ?_
   refine wl_m M (q_ldbA 0 Tryz.underlying159 rfl sz159 rfl rfl rfl rfl) rfl rfl ?_
   refine wl_m M (q_ldbA 2 Tryz.underlying159 rfl sz159 rfl rfl rfl rfl) rfl rfl ?_
   refine wl_e (e_bsI (E := EPos) (xs := [(Pos.mk p i)]) M (bs_161_1 _ _) ⟨⟨rfl, rfl⟩, trivial⟩ rfl rfl (by decide)) rfl rfl ?_
   rintro _ w17 ⟨u55, J55, rfl, hJ55, R55, M⟩
   have hoJ55 := M.old
   refine wl_e (e_gent (k := (aftP (Pos.mk (p : Int) (i : Int)) x2)) 3 M rfl Tryz.underlying187 zv161 rfl rfl) rfl rfl ?_
   rintro _ w18 ⟨us56, j56, u56, rfl, hu56, hg56, hs56, M⟩
   simp only [sC0, sCS] at M
   refine wl_m M (q_ext rfl rfl) rfl rfl ?_
   refine wl_e (e_gapp 3 j56 M rfl Tryz.underlying161 hu56 hg56 rfl rfl R55 (by rw [hg2]; have h1 := grp_look_len (fun e : Pos × Pos => e.1) (fun e : Pos × Pos => e.2) (aftP (Pos.mk (p : Int) (i : Int)) x2) (ev ++ ((posE t l (Pos.mk (p : Int) (i : Int))).take k2).map fun x => (aftP (Pos.mk (p : Int) (i : Int)) x, (Pos.mk (p : Int) (i : Int)))); rw [List.length_append, List.length_map, List.length_take] at h1; have h2 := posE_len t l (Pos.mk (p : Int) (i : Int)); show (_ + 1) * 16 ≤ _; omega)) rfl rfl ?_
   rintro _ w19 ⟨u57, rfl, M⟩
   replace M := M.less hJ55 hoJ42
   simp only [sC0, sCS] at M
   refine wl_m M (q_ext rfl rfl) rfl rfl ?_
   refine wl_e0 (e_gst 3 j56 M rfl (by rw [List.length_set]; exact (List.getElem?_eq_some_iff.1 hg56).1) (List.getElem?_eq_some_iff.1 hu56).1 rfl rfl rfl) rfl ?_
   intro _ w20 M
   rw [hs56] at M
   simp only [sC0, sCS] at M
   refine wl_nil ?_
   refine wc_seq ?_
   refine wc_region ?_
   refine wl_mv M rfl rfl ?_
   refine wl_m M (q_ldbA 0 Tryz.underlying159 rfl sz159 rfl rfl rfl rfl) rfl rfl ?_
   refine wl_m M (q_lk (k := (aftP (Pos.mk (p : Int) (i : Int)) x2)) (z := false) 5 rfl Tryz.underlying156 zv4 rfl rfl) rfl rfl ?_
   refine wl_m M (q_not rfl) rfl rfl ?_
   refine wl_nil ?_
   refine wc_cond rfl (fun ht62 => ?_) (fun ht62 => ?_)
   ·have hnk : (aftP (Pos.mk (p : Int) (i : Int)) x2) ∉ vs ++ (Pos.mk (p : Int) (i : Int)) :: l_29_2 := by rw [hm2, aget_tr] at ht62; exact nd_t ht62
    refine wc_seq ?_
    refine wc_region ?_
    refine wl_mv M rfl rfl ?_
    refine wl_m M (q_ldbA 0 Tryz.underlying159 rfl sz159 rfl rfl rfl rfl) rfl rfl ?_
    refine wl_e0 (e_mpu (k := (aftP (Pos.mk (p : Int) (i : Int)) x2)) (v := true) 5 M rfl Tryz.underlying156 rfl rfl rfl) rfl ?_
    intro _ w21 M
    simp only [sC0, sCS] at M
    refine wl_nil ?_
    refine wc_region ?_
    refine wl_mv M rfl rfl ?_
    refine wl_m M (q_ldbA 0 Tryz.underlying159 rfl sz159 rfl rfl rfl rfl) rfl rfl ?_
    refine wl_e (e_bsI (E := EPos) (xs := [(aftP (Pos.mk (p : Int) (i : Int)) x2)]) M (bs_161_1 _ _) ⟨⟨rfl, rfl⟩, trivial⟩ rfl rfl (by decide)) rfl rfl ?_
    rintro _ w22 ⟨u67, J67, rfl, hJ67, R67, M⟩
    have hoJ67 := M.old
    refine wl_e (e_app 4 M rfl R67 Tryz.underlying161 rfl rfl (by show (_ + 1) * 16 ≤ _; omega)) rfl rfl ?_
    rintro _ w23 ⟨u68, rfl, M⟩
    replace M := M.less hJ67 hoJ42
    simp only [sC0, sCS] at M
    refine wl_as M rfl rfl ?_
    refine wl_nil ?_
    refine wc_region ?_
    refine wl_m M (q_add rfl rfl (IntWalk.i64_in _ (by omega))) rfl rfl ?_
    refine wl_mv M rfl rfl ?_
    refine wl_nil ?_
    replace M := M.drop 0
    replace M := M.drop 0
    refine ⟨(k2 + 1, u68, l_29_2 ++ [(aftP (Pos.mk (p : Int) (i : Int)) x2)], aput m_21_2 (aftP (Pos.mk (p : Int) (i : Int)) x2) true, us56.set j56 u57, aput g_30_2 (aftP (Pos.mk (p : Int) (i : Int)) x2) ((aget g_30_2 (aftP (Pos.mk (p : Int) (i : Int)) x2)).getD [] ++ [(Pos.mk p i)])), ?_, ⟨(by omega), (by rw [take_snoc hx2, List.map_append]; exact hB2.push hnk (List.mem_map.2 ⟨x2, List.mem_of_getElem? hx2, rfl⟩)), (by rw [hm2, aput_tr hnk]; congr 1; simp), (by rw [take_snoc hx2, List.map_append, ← List.append_assoc, hg2]; exact (grp_snoc _ _ _ ((aftP (Pos.mk (p : Int) (i : Int)) x2), (Pos.mk (p : Int) (i : Int)))).symm), M⟩, ⟨rfl, rfl, trivial⟩, unw_look rfl unw_base⟩
    show (posE t l (Pos.mk (p : Int) (i : Int))).length - (k2 + 1) < (posE t l (Pos.mk (p : Int) (i : Int))).length - k2
    omega
   have hnk : (aftP (Pos.mk (p : Int) (i : Int)) x2) ∈ vs ++ (Pos.mk (p : Int) (i : Int)) :: l_29_2 := by rw [hm2, aget_tr] at ht62; exact nd_f ht62
   refine wc_skip ?_
   refine wc_region ?_
   refine wl_m M (q_add rfl rfl (IntWalk.i64_in _ (by omega))) rfl rfl ?_
   refine wl_mv M rfl rfl ?_
   refine wl_nil ?_
   replace M := M.drop 0
   replace M := M.drop 0
   refine ⟨(k2 + 1, u_29_2, l_29_2, m_21_2, us56.set j56 u57, aput g_30_2 (aftP (Pos.mk (p : Int) (i : Int)) x2) ((aget g_30_2 (aftP (Pos.mk (p : Int) (i : Int)) x2)).getD [] ++ [(Pos.mk p i)])), ?_, ⟨(by omega), (by rw [take_snoc hx2, List.map_append]; exact hB2.known hnk), hm2, (by rw [take_snoc hx2, List.map_append, ← List.append_assoc, hg2]; exact (grp_snoc _ _ _ ((aftP (Pos.mk (p : Int) (i : Int)) x2), (Pos.mk (p : Int) (i : Int)))).symm), M⟩, ⟨rfl, rfl, trivial⟩, unw_look rfl unw_base⟩
   show (posE t l (Pos.mk (p : Int) (i : Int))).length - (k2 + 1) < (posE t l (Pos.mk (p : Int) (i : Int))).length - k2
   omega
  have hke2 : k2 = (posE t l (Pos.mk (p : Int) (i : Int))).length := by omega
  rw [hke2, List.take_length] at hB2 hg2
  refine wc_exit rfl ?_
  replace M := M.less hJ42 (fun _ _ => rfl)
  replace M := M.drop 0
  refine ⟨(vs ++ [(Pos.mk (p : Int) (i : Int))], ev ++ ((posE t l (Pos.mk (p : Int) (i : Int)))).map fun x => (aftP (Pos.mk (p : Int) (i : Int)) x, (Pos.mk (p : Int) (i : Int))), u_29_2, l_29_2, m_21_2, us_30_2, g_30_2), ?_, ⟨(hB2.close (fun y_ hy_ => hy_)), (by rw [hm2]; congr 1; simp), hg2, (edOk_next hE), (by rw [List.length_append, List.length_map, List.length_append, List.length_singleton]; have h2 := posE_len t l (Pos.mk (p : Int) (i : Int)); omega), M⟩, ⟨rfl, trivial⟩, unw_look rfl (unw_hav rfl (unw_look rfl unw_base))⟩
  show (rectP m l.length).length - (vs ++ [(Pos.mk (p : Int) (i : Int))]).length < (rectP m l.length).length - vs.length
  have := (hB2.close (fun y_ hy_ => hy_)).len hrc0
  simp only [List.length_append, List.length_cons, List.length_nil] at this ⊢
  omega
 have hq0 : l_29_0 = [] := by cases l_29_0 with | nil => rfl | cons x l => simp at ht33
 rw [hq0, List.append_nil] at hm
 have hK := (hq0 ▸ hB).fin
 have hvl : vs.length ≤ 512512 := by have := hB.len hrc0; rw [rectP_len] at this; omega
 refine wc_exit rfl ?_
 refine wc_seq ?_
 obtain ⟨I9, M, hI9, Rb⟩ := M.frzGm 0 rfl
 have hoI9 := M.old
 rw [hg] at Rb
 refine wc_region ?_
 refine wl_e (e_mkm QPos Value.bool M) rfl rfl ?_
 rintro _ w24 ⟨b70, rfl, M⟩
 refine wl_as M rfl rfl ?_
 refine wl_nil ?_
 refine wc_seq ?_
 refine wc_seq ?_
 refine wc_region ?_
 refine wl_m M (q_fa fo_25_2 rfl) rfl rfl ?_
 refine wl_m M (q_ldb 3 Tryz.underlying22 rfl rfl rfl rfl) rfl rfl ?_
 refine wl_m M (q_lenR (Rf1.mono hI9) Tryz.underlying22 rfl) rfl rfl ?_
 refine wl_mv M rfl rfl ?_
 refine wl_nil ?_
 refine wc_block ?_
 refine wc_loop (α := Nat × SV × (List Pos) × (List (Pos × Bool))) [8, 16, 17, 74, 75, 76, 77, 78, 79, 80, 81, 82, 83, 84, 85, 86, 87, 88, 89, 90, 91] (fun ((k4, u_29_4, l_29_4, m_70_4) : Nat × SV × (List Pos) × (List (Pos × Bool))) => [(74, .int .i64 (k4 : Int)), (8, sv u_29_4)])
   (fun ((k4, u_29_4, l_29_4, m_70_4) : Nat × SV × (List Pos) × (List (Pos × Bool))) w' => (k4 ≤ t.finals.length) ∧ (l_29_4 = (t.finals.take k4).flatMap (fqP l vs)) ∧ (m_70_4 = tr l_29_4) ∧ Mem w I I9 (mpr QPos Value.bool b70 m_70_4 :: row EPos (sv u_29_4) l_29_4 :: mpr QPos Value.bool b21 m_21_0 :: box b3 25 [.int .i64 t.states, .int .i64 t.start, sv fu1, sv au1] :: []) w')
   (fun ((k4, u_29_4, l_29_4, m_70_4) : Nat × SV × (List Pos) × (List (Pos × Bool))) => t.finals.length - k4) (0, u_29_0, l_29_0, []) ⟨rfl, rfl, trivial⟩ ?_ ?_
 ·refine ⟨Nat.zero_le _, (by rw [hq0]; simp), (by rw [hq0]; rfl), ?_⟩
  exact M
 rintro ⟨k4, u_29_4, l_29_4, m_70_4⟩ jj4 w25 ⟨hk4, hr4, hm4, M⟩
 have hoI9 := M.old
 refine wc_seq ?_
 refine wc_region ?_
 refine wl_m M (q_lss rfl rfl) rfl rfl ?_
 refine wl_nil ?_
 refine wc_seq ?_
 refine wc_dec rfl (fun ht75 => ?_) (fun ht75 => ?_)
 ·obtain ⟨x4, hx4⟩ : ∃ x_, t.finals[k4]? = some x_ := ⟨_, List.getElem?_eq_getElem (by omega)⟩
  have hll4 := ((Rf1.mono hI9)).len_le
  refine wc_skip ?_
  refine wc_seq ?_
  refine wc_block ?_
  refine wc_seq ?_
  refine wc_region ?_
  refine wl_ix (j := k4) M (Rf1.mono hI9) Tryz.underlying22 rfl rfl hx4 rfl (fun b76 o76 p76 => ?_)
  refine wl_m M (q_ldp p76 rfl rfl) rfl rfl ?_
  refine wl_as M rfl rfl ?_
  refine wl_nil ?_
  refine wc_seq ?_
  refine wc_region ?_
  refine wl_mv M rfl rfl ?_
  refine wl_mv M rfl rfl ?_
  refine wl_m M (q_lenR (Rl.mono hI9) Tryz.underlying29 rfl) rfl rfl ?_
  refine wl_m M (q_build (bd_159_0_1 _ _) ⟨⟨rfl, rfl⟩, ⟨rfl, rfl⟩, trivial⟩) rfl rfl ?_
  refine wl_e (e_alloc M z159) rfl rfl ?_
  rintro _ w26 ⟨b17, rfl, M⟩
  refine wl_e0 (e_stW 0 M rfl rfl rfl sz159 rfl rfl) rfl ?_
  intro _ w27 M
  simp only [sC0, sCS] at M
  refine wl_nil ?_
  refine wc_seq ?_
  refine wc_region ?_
  refine wl_mv M rfl rfl ?_
  refine wl_m M (q_ldbA 0 Tryz.underlying159 rfl sz159 rfl rfl rfl rfl) rfl rfl ?_
  refine wl_m M (q_lk (k := (Pos.mk x4 (l.length : Int))) (z := false) 3 rfl Tryz.underlying156 zv4 rfl rfl) rfl rfl ?_
  refine wl_nil ?_
  refine wc_cond rfl (fun ht84 => ?_) (fun ht84 => ?_)
  ·have hin : (Pos.mk x4 (l.length : Int)) ∈ vs := by rw [hm, aget_tr] at ht84; simpa using ht84
   have hnew : (Pos.mk x4 (l.length : Int)) ∉ l_29_4 := by rw [hr4]; exact fqP_new hfn hx4
   refine wc_seq ?_
   refine wc_region ?_
   refine wl_mv M rfl rfl ?_
   refine wl_m M (q_ldbA 0 Tryz.underlying159 rfl sz159 rfl rfl rfl rfl) rfl rfl ?_
   refine wl_e0 (e_mpu (k := (Pos.mk x4 (l.length : Int))) (v := true) 1 M rfl Tryz.underlying156 rfl rfl rfl) rfl ?_
   intro _ w28 M
   simp only [sC0, sCS] at M
   refine wl_nil ?_
   refine wc_region ?_
   refine wl_mv M rfl rfl ?_
   refine wl_m M (q_ldbA 0 Tryz.underlying159 rfl sz159 rfl rfl rfl rfl) rfl rfl ?_
   refine wl_e (e_bsI (E := EPos) (xs := [(Pos.mk x4 (l.length : Int))]) M (bs_161_1 _ _) ⟨⟨rfl, rfl⟩, trivial⟩ rfl rfl (by decide)) rfl rfl ?_
   rintro _ w29 ⟨u89, J89, rfl, hJ89, R89, M⟩
   have hoJ89 := M.old
   refine wl_e (e_app 2 M rfl R89 Tryz.underlying161 rfl rfl (by have := flat_len (fqP_len l vs) (t.finals.take k4); rw [List.length_take] at this; rw [hr4]; show (_ + 1) * 16 ≤ _; omega)) rfl rfl ?_
   rintro _ w30 ⟨u90, rfl, M⟩
   replace M := M.less hJ89 hoI9
   simp only [sC0, sCS] at M
   refine wl_as M rfl rfl ?_
   refine wl_nil ?_
   refine wc_region ?_
   refine wl_m M (q_add rfl rfl (IntWalk.i64_in _ (by omega))) rfl rfl ?_
   refine wl_mv M rfl rfl ?_
   refine wl_nil ?_
   replace M := M.drop 0
   refine ⟨(k4 + 1, u90, l_29_4 ++ [(Pos.mk x4 (l.length : Int))], aput m_70_4 (Pos.mk x4 (l.length : Int)) true), ?_, ⟨(by omega), (by rw [take_flat hx4, hr4]; congr 1; rw [fqP, if_pos hin]), (by rw [hm4, aput_tr hnew]), M⟩, ⟨rfl, rfl, trivial⟩, unw_look rfl unw_base⟩
   show t.finals.length - (k4 + 1) < t.finals.length - k4
   omega
  have hin : (Pos.mk x4 (l.length : Int)) ∉ vs := by rw [hm, aget_tr] at ht84; simpa using ht84
  refine wc_skip ?_
  refine wc_region ?_
  refine wl_m M (q_add rfl rfl (IntWalk.i64_in _ (by omega))) rfl rfl ?_
  refine wl_mv M rfl rfl ?_
  refine wl_nil ?_
  replace M := M.drop 0
  refine ⟨(k4 + 1, u_29_4, l_29_4, m_70_4), ?_, ⟨(by omega), (by rw [take_flat hx4, hr4, fqP, if_neg hin, List.append_nil]), hm4, M⟩, ⟨rfl, rfl, trivial⟩, unw_look rfl unw_base⟩
  show t.finals.length - (k4 + 1) < t.finals.length - k4
  omega
 have hke4 : k4 = t.finals.length := by omega
 rw [hke4, List.take_length] at hr4
 have hRK : ∀ x, Reach (bkP ev) (· ∈ t.finals.flatMap (fqP l vs)) x → x ∈ vs := fun x hx => bkP_in hE (fun q hq => (mem_fqP.1 hq).1) hx
 refine wc_exit rfl ?_
 refine wc_seq ?_
 refine wc_block ?_
 refine wc_loop (α := (List Pos) × SV × (List Pos) × (List (Pos × Bool))) [8, 18, 20, 92, 93, 94, 95, 96, 97, 98, 99, 100, 101, 102, 103, 104, 105, 106, 107, 108, 109, 110, 111, 112, 113, 114, 115, 116, 117, 118] (fun ((us, u_29_6, l_29_6, m_70_6) : (List Pos) × SV × (List Pos) × (List (Pos × Bool))) => [(8, sv u_29_6)])
   (fun ((us, u_29_6, l_29_6, m_70_6) : (List Pos) × SV × (List Pos) × (List (Pos × Bool))) w' => (Bfs (bkP ev) (· ∈ t.finals.flatMap (fqP l vs)) us l_29_6) ∧ (m_70_6 = tr (us ++ l_29_6)) ∧ Mem w I I9 (mpr QPos Value.bool b70 m_70_6 :: row EPos (sv u_29_6) l_29_6 :: mpr QPos Value.bool b21 m_21_0 :: box b3 25 [.int .i64 t.states, .int .i64 t.start, sv fu1, sv au1] :: []) w')
   (fun ((us, u_29_6, l_29_6, m_70_6) : (List Pos) × SV × (List Pos) × (List (Pos × Bool))) => vs.length - us.length) ([], u_29_4, l_29_4, m_70_4) ⟨rfl, trivial⟩ ?_ ?_
 ·refine ⟨(by rw [hr4]; exact Bfs.inits _ (fqs_nodup hfn)), (by rw [hm4]; rfl), ?_⟩
  exact M
 rintro ⟨us, u_29_6, l_29_6, m_70_6⟩ jj6 w31 ⟨hB6, hm6, M⟩
 have hoI9 := M.old
 refine wc_seq ?_
 refine wc_seq ?_
 refine wc_region ?_
 refine wl_mv M rfl rfl ?_
 refine wl_m M (q_lenr 1 M rfl Tryz.underlying161 rfl) rfl rfl ?_
 refine wl_m M (q_gtr rfl rfl) rfl rfl ?_
 refine wl_nil ?_
 refine wc_dec rfl (fun ht94 => ?_) (fun ht94 => ?_)
 ·obtain ⟨x, qs6, hq6⟩ : ∃ (x : Pos) (qs : List Pos), l_29_6 = x :: qs := by
    cases l_29_6 with
    | nil => simp at ht94
    | cons x qs => exact ⟨x, qs, rfl⟩
  refine wc_skip ?_
  refine wc_block ?_
  refine wc_seq ?_
  refine wc_region ?_
  refine wl_mv M rfl rfl ?_
  refine wl_ixr (j := 0) 1 M rfl Tryz.underlying161 rfl rfl (by rw [hq6]; rfl) rfl (fun b96 o96 p96 => ?_)
  refine wl_m M (q_ldp p96 rfl rfl) rfl rfl ?_
  refine wl_e (e_alloc M z159) rfl rfl ?_
  rintro _ w32 ⟨b18, rfl, M⟩
  refine wl_e0 (e_stW 0 M rfl rfl rfl sz159 rfl rfl) rfl ?_
  intro _ w33 M
  simp only [sC0, sCS] at M
  refine wl_nil ?_
  refine wc_seq ?_
  refine wc_region ?_
  refine wl_mv M rfl rfl ?_
  refine wl_e (e_cut (k := 1) 2 M rfl Tryz.underlying161 rfl rfl (by omega)) rfl rfl ?_
  rintro _ w34 ⟨u99, rfl, M⟩
  simp only [sC0, sCS] at M
  refine wl_as M rfl rfl ?_
  refine wl_nil ?_
  refine wc_seq ?_
  refine wc_region ?_
  refine wl_mv M rfl rfl ?_
  refine wl_m M (q_ldbA 0 Tryz.underlying159 rfl sz159 rfl rfl rfl rfl) rfl rfl ?_
  refine wl_lkg (k := x) M Rb Tryz.underlying187 zv161 rfl rfl rfl (fun u102 R102 => ?_)
  rw [grp_look] at R102
  replace R102 : rdSl EPos I9 (sv u102) (bkP ev x) := R102
  refine wl_m M (q_lenR R102 Tryz.underlying161 rfl) rfl rfl ?_
  refine wl_mv M rfl rfl ?_
  refine wl_nil ?_
  refine wc_block ?_
  refine wc_loop (α := Nat × SV × (List Pos) × (List (Pos × Bool))) [8, 20, 104, 105, 106, 107, 108, 109, 110, 111, 112, 113, 114, 115, 116, 117, 118] (fun ((k8, u_29_8, l_29_8, m_70_8) : Nat × SV × (List Pos) × (List (Pos × Bool))) => [(104, .int .i64 (k8 : Int)), (8, sv u_29_8)])
    (fun ((k8, u_29_8, l_29_8, m_70_8) : Nat × SV × (List Pos) × (List (Pos × Bool))) w' => (k8 ≤ (bkP ev x).length) ∧ (BfsIn (bkP ev) (· ∈ t.finals.flatMap (fqP l vs)) us x ((bkP ev x).take k8) l_29_8) ∧ (m_70_8 = tr (us ++ x :: l_29_8)) ∧ Mem w I I9 (box b18 159 [.int .i64 x.state, .int .i64 x.read] :: mpr QPos Value.bool b70 m_70_8 :: row EPos (sv u_29_8) l_29_8 :: mpr QPos Value.bool b21 m_21_0 :: box b3 25 [.int .i64 t.states, .int .i64 t.start, sv fu1, sv au1] :: []) w')
    (fun ((k8, u_29_8, l_29_8, m_70_8) : Nat × SV × (List Pos) × (List (Pos × Bool))) => (bkP ev x).length - k8) (0, u99, l_29_6.drop 1, m_70_6) ⟨rfl, rfl, trivial⟩ ?_ ?_
  ·refine ⟨Nat.zero_le _, (by have := hB6; rw [hq6] at this; rw [hq6]; exact this.opn), (by rw [hm6, hq6]; rfl), ?_⟩
   exact M
  rintro ⟨k8, u_29_8, l_29_8, m_70_8⟩ jj8 w35 ⟨hk8, hB8, hm8, M⟩
  have hoI9 := M.old
  refine wc_seq ?_
  refine wc_region ?_
  refine wl_m M (q_lss rfl rfl) rfl rfl ?_
  refine wl_nil ?_
  refine wc_seq ?_
  refine wc_dec rfl (fun ht105 => ?_) (fun ht105 => ?_)
  ·obtain ⟨x8, hx8⟩ : ∃ x_, (bkP ev x)[k8]? = some x_ := ⟨_, List.getElem?_eq_getElem (by omega)⟩
   have hll8 := (R102).len_le
   refine wc_skip ?_
   refine wc_seq ?_
   refine wc_block ?_
   refine wc_seq ?_
   refine wc_region ?_
   refine wl_ix (j := k8) M R102 Tryz.underlying161 rfl rfl hx8 rfl (fun b106 o106 p106 => ?_)
   refine wl_m M (q_ldp p106 rfl rfl) rfl rfl ?_
   refine wl_e (e_alloc M z159) rfl rfl ?_
   rintro _ w36 ⟨b20, rfl, M⟩
   refine wl_e0 (e_stW 0 M rfl rfl rfl sz159 rfl rfl) rfl ?_
   intro _ w37 M
   simp only [sC0, sCS] at M
   refine wl_nil ?_
   refine wc_seq ?_
   refine wc_region ?_
   refine wl_mv M rfl rfl ?_
   refine wl_m M (q_ldbA 0 Tryz.underlying159 rfl sz159 rfl rfl rfl rfl) rfl rfl ?_
   refine wl_m M (q_lk (k := x8) (z := false) 2 rfl Tryz.underlying156 zv4 rfl rfl) rfl rfl ?_
   refine wl_m M (q_not rfl) rfl rfl ?_
   refine wl_nil ?_
   refine wc_cond rfl (fun ht111 => ?_) (fun ht111 => ?_)
   ·have hnk : x8 ∉ us ++ x :: l_29_8 := by rw [hm8, aget_tr] at ht111; exact nd_t ht111
    refine wc_seq ?_
    refine wc_region ?_
    refine wl_mv M rfl rfl ?_
    refine wl_m M (q_ldbA 0 Tryz.underlying159 rfl sz159 rfl rfl rfl rfl) rfl rfl ?_
    refine wl_e0 (e_mpu (k := x8) (v := true) 2 M rfl Tryz.underlying156 rfl rfl rfl) rfl ?_
    intro _ w38 M
    simp only [sC0, sCS] at M
    refine wl_nil ?_
    refine wc_region ?_
    refine wl_mv M rfl rfl ?_
    refine wl_m M (q_ldbA 0 Tryz.underlying159 rfl sz159 rfl rfl rfl rfl) rfl rfl ?_
    refine wl_e (e_bsI (E := EPos) (xs := [x8]) M (bs_161_1 _ _) ⟨⟨rfl, rfl⟩, trivial⟩ rfl rfl (by decide)) rfl rfl ?_
    rintro _ w39 ⟨u116, J116, rfl, hJ116, R116, M⟩
    have hoJ116 := M.old
    refine wl_e (e_app 3 M rfl R116 Tryz.underlying161 rfl rfl (by have := hB8.len (U := vs) hRK; have := hvl; show (_ + 1) * 16 ≤ _; omega)) rfl rfl ?_
    rintro _ w40 ⟨u117, rfl, M⟩
    replace M := M.less hJ116 hoI9
    simp only [sC0, sCS] at M
    refine wl_as M rfl rfl ?_
    refine wl_nil ?_
    refine wc_region ?_
    refine wl_m M (q_add rfl rfl (IntWalk.i64_in _ (by omega))) rfl rfl ?_
    refine wl_mv M rfl rfl ?_
    refine wl_nil ?_
    replace M := M.drop 0
    refine ⟨(k8 + 1, u117, l_29_8 ++ [x8], aput m_70_8 x8 true), ?_, ⟨(by omega), (by rw [take_snoc hx8]; exact hB8.push hnk (List.mem_of_getElem? hx8)), (by rw [hm8, aput_tr hnk]; congr 1; simp), M⟩, ⟨rfl, rfl, trivial⟩, unw_look rfl unw_base⟩
    show (bkP ev x).length - (k8 + 1) < (bkP ev x).length - k8
    omega
   have hnk : x8 ∈ us ++ x :: l_29_8 := by rw [hm8, aget_tr] at ht111; exact nd_f ht111
   refine wc_skip ?_
   refine wc_region ?_
   refine wl_m M (q_add rfl rfl (IntWalk.i64_in _ (by omega))) rfl rfl ?_
   refine wl_mv M rfl rfl ?_
   refine wl_nil ?_
   replace M := M.drop 0
   refine ⟨(k8 + 1, u_29_8, l_29_8, m_70_8), ?_, ⟨(by omega), (by rw [take_snoc hx8]; exact hB8.known hnk), hm8, M⟩, ⟨rfl, rfl, trivial⟩, unw_look rfl unw_base⟩
   show (bkP ev x).length - (k8 + 1) < (bkP ev x).length - k8
   omega
  have hke8 : k8 = (bkP ev x).length := by omega
  rw [hke8, List.take_length] at hB8
  refine wc_exit rfl ?_
  replace M := M.drop 0
  refine ⟨(us ++ [x], u_29_8, l_29_8, m_70_8), ?_, ⟨(hB8.close (fun y_ hy_ => hy_)), (by rw [hm8]; congr 1; simp), M⟩, ⟨rfl, trivial⟩, unw_look rfl (unw_hav rfl (unw_look rfl unw_base))⟩
  show vs.length - (us ++ [x]).length < vs.length - us.length
  have := (hB8.close (fun y_ hy_ => hy_)).len (U := vs) hRK
  simp only [List.length_append, List.length_cons, List.length_nil] at this ⊢
  omega
 obtain rfl : l_29_6 = [] := by cases l_29_6 with | nil => rfl | cons x l => simp at ht94
 rw [List.append_nil] at hm6
 refine wc_exit rfl ?_
 refine wc_seq ?_
 refine wc_region ?_
 refine wl_mv M rfl rfl ?_
 refine wl_as M rfl rfl ?_
 refine wl_nil ?_
 refine wc_ret ?_
 obtain ⟨I3, M, hI3, R5⟩ := M.frzMp 0 rfl
 rw [hm6] at R5
 have hC := hB6.fin.congr fun x => mem_fqP (l := l) (K := vs) (fs := t.finals) (p := x)
 have hGd := good_of hK hE hC
 exact out1 rfl rfl ⟨_, I3, rfl, (M.grow : Grow w I _ I3), us, R5, hGd, by have := good_len ht hC.nodup hGd; omega⟩
end Go.Proofs.YtmjieefhjmiagaaGreatDoor.G
