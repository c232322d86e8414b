/- Walks of the program's functions. -/
import Derived.Test.YtmjieefhjmiagaaDoorWTc
import Derived.Test.YtmjieefhjmiagaaDoorWD
import Derived.Test.YtmjieefhjmiagaaDoorGChn
set_option linter.all false
namespace Go.Proofs.YtmjieefhjmiagaaDoor.G
open Go Go.RowKit
theorem chain_c (ts : List Tra) (hfew : ts.all fewB = true) {v1 : Value} {I : Heap} {w : World} (hI : hle I (hp w)) (R : rdTras I v1 ts) :
    Calls A 18 #[v1] w (Ret w I fun r I' => ∃ (v : Value) (t : Tra) (e : Int), r = .tuple #[v, .int .i64 e] ∧ t.rd I' v ∧ (t, e) = chainS ts) := by
  obtain ⟨rs, R0, hl, hts⟩ := R
  obtain ⟨u, rfl⟩ := rdSl_slice R0
  have M := Mem.start hI
  refine enter Tryd.func18 rfl 48 Tryd.ntmps18 [_] rfl ?_
  refine wc_seq ?_
  refine wc_region ?_
  refine wl_e (e_alloc M z25) rfl rfl ?_
  rintro _ w1 ⟨b2, rfl, M⟩
  refine wl_m M (q_assign rfl) rfl rfl ?_
  refine wl_nil ?_
  refine wc_seq ?_
  refine wc_seq ?_
  refine wc_region ?_
  refine wl_m M (q_move rfl) rfl rfl ?_
  refine wl_m M (q_lenR R0 Tryd.underlying37 rfl) rfl rfl ?_
  refine wl_m M (q_move rfl) rfl rfl ?_
  refine wl_nil ?_
  refine wc_block ?_
  refine wc_loop (α := Nat) [3, 5, 12, 13, 14, 15, 16, 17, 18, 19, 20] (fun (k0 : Nat) => [(12, .int .i64 (k0 : Int))])
    (fun (k0 : Nat) w' => (k0 ≤ rs.length) ∧ ((ts.take k0).all validT = true) ∧ Mem w I I (box b2 25 [.int .i64 0, .int .i64 0, .slice none 0 0, .slice none 0 0] :: []) w')
    (fun (k0 : Nat) => rs.length - k0) (0) ⟨rfl, trivial⟩ ?_ ?_
  · refine ⟨Nat.zero_le _, rfl, ?_⟩
    exact M
  rintro k0 jj0 w2 ⟨hk0, hv, M⟩
  refine wc_seq ?_
  refine wc_region ?_
  refine wl_m M (q_lss rfl rfl) rfl rfl ?_
  refine wl_nil ?_
  refine wc_seq ?_
  refine wc_dec rfl (fun ht13 => ?_) (fun ht13 => ?_)
  · obtain ⟨x0, hx0⟩ : ∃ x_, rs[k0]? = some x_ := ⟨_, List.getElem?_eq_getElem (by omega)⟩
    have hll0 := (R0).len_le
    obtain ⟨t0, ht0⟩ : ∃ t, ts[k0]? = some t := ⟨_, List.getElem?_eq_getElem (by omega)⟩
    obtain ⟨fu0, au0, he0, Rf0, Ra0⟩ := hts k0 x0 t0 hx0 ht0
    obtain rfl := RTra.eq he0
    refine wc_skip ?_
    refine wc_seq ?_
    refine wc_block ?_
    refine wc_seq ?_
    refine wc_region ?_
    refine wl_ix (j := k0) M R0 Tryd.underlying37 rfl rfl hx0 rfl (fun b14 o14 p14 => ?_)
    refine wl_m M (q_ldp p14 rfl rfl) rfl rfl ?_
    refine wl_e (e_alloc M z25) rfl rfl ?_
    rintro _ w3 ⟨b5, rfl, M⟩
    refine wl_e0 (e_stW 0 M rfl rfl rfl sz25 rfl rfl) rfl ?_
    intro _ w4 M
    simp only [List.set_cons_zero, List.set_cons_succ] at M
    refine wl_nil ?_
    refine wc_seq ?_
    refine wc_region ?_
    refine wl_m M (q_ldbA 0 Tryd.underlying25 rfl sz25 rfl rfl rfl rfl) rfl rfl ?_
    refine wl_e (e_callC M (valid_c t0 M.imm ⟨_, _, rfl, Rf0, Ra0⟩) Tryd.func24 rfl rfl) rfl rfl ?_
    rintro _ w5 ⟨J17, hJ17, rfl, M⟩
    replace M := M.less hJ17 (fun _ _ => rfl)
    refine wl_m M (q_not rfl) rfl rfl ?_
    refine wl_nil ?_
    refine wc_cond rfl (fun ht18 => ?_) (fun ht18 => ?_)
    · refine wc_seq ?_
      refine wc_region ?_
      refine wl_m M (q_build (bd_25) trivial) rfl rfl ?_
      refine wl_e0 (e_stW 1 M rfl rfl rfl sz25 rfl rfl) rfl ?_
      intro _ w6 M
      simp only [List.set_cons_zero, List.set_cons_succ] at M
      refine wl_m M (q_assign rfl) rfl rfl ?_
      refine wl_nil ?_
      refine wc_ret ?_
      exact outc2 rfl rfl (load_boxA M 1 Tryd.underlying25 rfl sz25 rfl rfl rfl) rfl ⟨_, _, rfl, M.grow, _, zeroTra, 1, rfl, ⟨nilV, nilV, rfl, rdSl_nil _, rdSl_nil _⟩, (chain_bad ht0 (by simpa using ht18)).symm⟩
    · refine wc_skip ?_
      refine wc_region ?_
      refine wl_m M (q_add rfl rfl (IntWalk.i64_in _ (by omega))) rfl rfl ?_
      refine wl_m M (q_move rfl) rfl rfl ?_
      refine wl_nil ?_
      replace M := M.drop 0
      refine ⟨(k0 + 1), ?_, ⟨(by omega), (all_take_succ ht0 hv (by simpa using ht18)), M⟩, ⟨rfl, trivial⟩, unw_look rfl unw_base⟩
      show rs.length - (k0 + 1) < rs.length - k0
      omega
  · have hke0 : k0 = rs.length := by omega
    rw [hke0, hl, List.take_length] at hv
    refine wc_exit rfl ?_
    refine wc_seq ?_
    refine wc_seq ?_
    refine wc_region ?_
    refine wl_m M (q_move rfl) rfl rfl ?_
    refine wl_m M (q_lenR R0 Tryd.underlying37 rfl) rfl rfl ?_
    refine wl_m M (q_eql rfl rfl) rfl rfl ?_
    refine wl_nil ?_
    refine wc_dec rfl (fun ht23 => ?_) (fun ht23 => ?_)
    · have hts0 : ts = [] := List.eq_nil_of_length_eq_zero (by omega)
      refine wc_seq ?_
      refine wc_region ?_
      refine wl_m M (q_build (bd_25) trivial) rfl rfl ?_
      refine wl_e0 (e_stW 0 M rfl rfl rfl sz25 rfl rfl) rfl ?_
      intro _ w7 M
      simp only [List.set_cons_zero, List.set_cons_succ] at M
      refine wl_m M (q_assign rfl) rfl rfl ?_
      refine wl_nil ?_
      refine wc_ret ?_
      exact outc2 rfl rfl (load_boxA M 0 Tryd.underlying25 rfl sz25 rfl rfl rfl) rfl ⟨_, _, rfl, M.grow, _, zeroTra, 1, rfl, ⟨nilV, nilV, rfl, rdSl_nil _, rdSl_nil _⟩, (show chainS ts = _ from by rw [hts0]; exact chain_nil).symm⟩
    · obtain ⟨t1, tl, rfl⟩ : ∃ t1 tl, ts = t1 :: tl := by
        cases ts with
        | nil => simp at hl; simp [hl] at ht23
        | cons t l => exact ⟨t, l, rfl⟩
      obtain ⟨x1, hx1⟩ : ∃ x1, rs[0]? = some x1 := ⟨_, List.getElem?_eq_getElem (by simp at hl; omega)⟩
      obtain ⟨fu1, au1, he1, Rf1, Ra1⟩ := hts 0 x1 t1 hx1 rfl
      obtain rfl := RTra.eq he1
      have hv1 : validT t1 = true := List.all_eq_true.1 hv t1 (by simp)
      obtain ⟨m1, ha1, hf1⟩ := valid_rng hv1
      have hfl1 := valid_fl hv1
      have hll : (rs.drop 1).length = tl.length := by rw [List.length_drop, hl]; simp
      refine wc_skip ?_
      refine wc_seq ?_
      refine wc_region ?_
      refine wl_m M (q_move rfl) rfl rfl ?_
      refine wl_ix (j := 0) M R0 Tryd.underlying37 rfl rfl hx1 rfl (fun b26 o26 p26 => ?_)
      refine wl_m M (q_ldp p26 rfl rfl) rfl rfl ?_
      refine wl_e (e_callC M (trimP_c t1 M.imm ⟨_, _, rfl, Rf1, Ra1⟩) Tryd.func46 rfl rfl) rfl rfl ?_
      rintro _ w8 ⟨J28, hJ28, ⟨fu28, au28, rfl, Rf28, Ra28⟩, M⟩
      have hoJ28 := M.old
      refine wl_e (e_alloc M z25) rfl rfl ?_
      rintro _ w9 ⟨b6, rfl, M⟩
      refine wl_e0 (e_stW 0 M rfl rfl rfl sz25 rfl rfl) rfl ?_
      intro _ w10 M
      simp only [List.set_cons_zero, List.set_cons_succ] at M
      refine wl_nil ?_
      refine wc_seq ?_
      refine wc_seq ?_
      refine wc_region ?_
      refine wl_m M (q_move rfl) rfl rfl ?_
      refine wl_cutI (k := 1) M (R0.mono hJ28) Tryd.underlying37 rfl rfl (by omega) rfl (fun u30 R30 => ?_)
      refine wl_m M (q_lenR R30 Tryd.underlying37 rfl) rfl rfl ?_
      refine wl_m M (q_move rfl) rfl rfl ?_
      refine wl_nil ?_
      refine wc_block ?_
      refine wc_loop (α := Heap × Nat × Tra × SV × SV) [3, 8, 9, 32, 33, 34, 35, 36, 37, 38, 39, 40, 41, 42, 43, 44, 45, 46] (fun ((Ic, k2, out, fuo, auo) : Heap × Nat × Tra × SV × SV) => [(32, .int .i64 (k2 : Int))])
        (fun ((Ic, k2, out, fuo, auo) : Heap × Nat × Tra × SV × SV) w' => (hle J28 Ic) ∧ (k2 ≤ (rs.drop 1).length) ∧ (rdSl EInt Ic (sv fuo) out.finals) ∧ (rdSl EArc Ic (sv auo) out.arcs) ∧ (validT out = true) ∧ (chainS (t1 :: tl) = chainF out (tl.drop k2)) ∧ Mem w I Ic (box b6 25 [.int .i64 out.states, .int .i64 out.start, sv fuo, sv auo] :: box b2 25 [.int .i64 0, .int .i64 0, .slice none 0 0, .slice none 0 0] :: []) w')
        (fun ((Ic, k2, out, fuo, auo) : Heap × Nat × Tra × SV × SV) => (rs.drop 1).length - k2) (J28, 0, (TrimP t1), fu28, au28) ⟨rfl, trivial⟩ ?_ ?_
      · refine ⟨hle.refl _, Nat.zero_le _, Rf28, Ra28, (trimP_valid hv1), (chain_cons hv), ?_⟩
        exact M
      rintro ⟨Ic, k2, out, fuo, auo⟩ jj2 w11 ⟨hIc, hk2, Rfo, Rao, hvo, hcs, M⟩
      have hoIc := M.old
      refine wc_seq ?_
      refine wc_region ?_
      refine wl_m M (q_lss rfl rfl) rfl rfl ?_
      refine wl_nil ?_
      refine wc_seq ?_
      refine wc_dec rfl (fun ht33 => ?_) (fun ht33 => ?_)
      · obtain ⟨x2, hx2⟩ : ∃ x_, (rs.drop 1)[k2]? = some x_ := ⟨_, List.getElem?_eq_getElem (by omega)⟩
        have hll2 := ((R30.mono hIc)).len_le
        have hx2' : rs[1 + k2]? = some x2 := by rw [← List.getElem?_drop]; exact hx2
        obtain ⟨t2, ht2⟩ : ∃ t, tl[k2]? = some t := ⟨_, List.getElem?_eq_getElem (by have := (List.getElem?_eq_some_iff.1 hx2).1; omega)⟩
        obtain ⟨fu2, au2, he2, Rf2, Ra2⟩ := hts (1 + k2) x2 t2 hx2' (by rw [Nat.add_comm]; exact ht2)
        obtain rfl := RTra.eq he2
        have hft2 : fewB t2 = true := List.all_eq_true.1 hfew t2 (List.mem_cons_of_mem _ (List.mem_of_getElem? ht2))
        refine wc_skip ?_
        refine wc_seq ?_
        refine wc_block ?_
        refine wc_seq ?_
        refine wc_region ?_
        refine wl_ix (j := k2) M (R30.mono hIc) Tryd.underlying37 rfl rfl hx2 rfl (fun b34 o34 p34 => ?_)
        refine wl_m M (q_ldp p34 rfl rfl) rfl rfl ?_
        refine wl_e (e_alloc M z25) rfl rfl ?_
        rintro _ w12 ⟨b8, rfl, M⟩
        refine wl_e0 (e_stW 0 M rfl rfl rfl sz25 rfl rfl) rfl ?_
        intro _ w13 M
        simp only [List.set_cons_zero, List.set_cons_succ] at M
        refine wl_nil ?_
        refine wc_seq ?_
        refine wc_region ?_
        refine wl_m M (q_assign rfl) rfl rfl ?_
        refine wl_nil ?_
        refine wc_seq ?_
        refine wc_region ?_
        refine wl_m M (q_ldbA 1 Tryd.underlying25 rfl sz25 rfl rfl rfl rfl) rfl rfl ?_
        refine wl_m M (q_ldbA 0 Tryd.underlying25 rfl sz25 rfl rfl rfl rfl) rfl rfl ?_
        refine wl_e (e_callC M (compose_c out t2 (chain_big hvo hft2) M.imm ⟨_, _, rfl, Rfo, Rao⟩ ⟨_, _, rfl, ((Rf2.mono hJ28).mono hIc), ((Ra2.mono hJ28).mono hIc)⟩) Tryd.func12 rfl rfl) rfl rfl ?_
        rintro _ w14 ⟨J39, hJ39, ⟨_, tn, e39, rfl, ⟨fu39, au39, rfl, Rf39, Ra39⟩, hc39⟩, M⟩
        replace hc39 : (tn, e39) = CompS out t2 := cmp_S hc39
        have hoJ39 := M.old
        refine wl_m M (q_move rfl) rfl rfl ?_
        refine wl_m M (q_ext rfl rfl) rfl rfl ?_
        refine wl_m M (q_ext rfl rfl) rfl rfl ?_
        refine wl_e0 (e_stW 1 M rfl rfl rfl sz25 rfl rfl) rfl ?_
        intro _ w15 M
        simp only [List.set_cons_zero, List.set_cons_succ] at M
        refine wl_m M (q_assign rfl) rfl rfl ?_
        refine wl_nil ?_
        refine wc_seq ?_
        refine wc_region ?_
        refine wl_m M (q_move rfl) rfl rfl ?_
        refine wl_m M (q_neq rfl rfl) rfl rfl ?_
        refine wl_nil ?_
        refine wc_cond rfl (fun ht43 => ?_) (fun ht43 => ?_)
        · have her : ¬ e39 = 0 := by simpa using ht43
          refine wc_seq ?_
          refine wc_region ?_
          refine wl_m M (q_build (bd_25) trivial) rfl rfl ?_
          refine wl_m M (q_move rfl) rfl rfl ?_
          refine wl_e0 (e_stW 2 M rfl rfl rfl sz25 rfl rfl) rfl ?_
          intro _ w16 M
          simp only [List.set_cons_zero, List.set_cons_succ] at M
          refine wl_m M (q_assign rfl) rfl rfl ?_
          refine wl_nil ?_
          refine wc_ret ?_
          exact outc2 rfl rfl (load_boxA M 2 Tryd.underlying25 rfl sz25 rfl rfl rfl) rfl ⟨_, _, rfl, M.grow, _, zeroTra, _, rfl, ⟨nilV, nilV, rfl, rdSl_nil _, rdSl_nil _⟩, ((hcs.trans (chain_err ht2 hc39 her))).symm⟩
        · have her : e39 = 0 := by simpa using ht43
          refine wc_skip ?_
          refine wc_region ?_
          refine wl_m M (q_add rfl rfl (IntWalk.i64_in _ (by omega))) rfl rfl ?_
          refine wl_m M (q_move rfl) rfl rfl ?_
          refine wl_nil ?_
          replace M := M.drop 0
          refine ⟨(J39, k2 + 1, tn, fu39, au39), ?_, ⟨(hle.trans hIc hJ39), (by omega), Rf39, Ra39, (chain_valid hc39 her), (hcs.trans (chain_step ht2 hc39 her)), M⟩, ⟨rfl, trivial⟩, unw_look rfl unw_base⟩
          show (rs.drop 1).length - (k2 + 1) < (rs.drop 1).length - k2
          omega
      · have hke2 : k2 = (rs.drop 1).length := by omega
        have hkd : tl.length ≤ k2 := by omega
        refine wc_exit rfl ?_
        refine wc_seq ?_
        refine wc_region ?_
        refine wl_m M (q_ldbA 0 Tryd.underlying25 rfl sz25 rfl rfl rfl rfl) rfl rfl ?_
        refine wl_e0 (e_stW 1 M rfl rfl rfl sz25 rfl rfl) rfl ?_
        intro _ w17 M
        simp only [List.set_cons_zero, List.set_cons_succ] at M
        refine wl_m M (q_assign rfl) rfl rfl ?_
        refine wl_nil ?_
        refine wc_ret ?_
        exact outc2 rfl rfl (load_boxA M 1 Tryd.underlying25 rfl sz25 rfl rfl rfl) rfl ⟨_, _, rfl, M.grow, _, out, 0, rfl, ⟨fuo, auo, rfl, Rfo, Rao⟩, (hcs.trans (chain_done (by omega))).symm⟩
end Go.Proofs.YtmjieefhjmiagaaDoor.G
