/- Walks of the program's functions. -/
import Derived.Test.YtfepjcmjkaolgaaWOb
import Derived.Test.YtfepjcmjkaolgaaGLgr
set_option linter.all false
namespace Go.Proofs.Ytfepjcmjkaolgaa.G
open Go Go.RowKit
theorem cloneR_c {w0 w : World} {I0 I : Heap} {Lt : List Res} {u : SV} {xs : List Int} (hxs : xs.length ≤ 4398046511104) (M : Mem w0 I0 I Lt w) (R0 : rdSl ERune I (sv u) xs) :
    Calls A 68 #[sv u] w (fun e w' => ∃ u' : SV, e = .returned (sv u') ∧ Mem w0 I0 I (row ERune (sv u') xs :: Lt) w') := by
 have hoI := M.old
 refine enter Try.func68 rfl 8 Try.ntmps68 [_] rfl ?_
 refine wc_seq <| wc_region <| wl_as M rfl rfl <| wl_nil ?_
 refine wc_seq ?_
 refine wc_seq <| wc_region <| wl_mv M rfl rfl <| wl_m M (q_eqlN Try.underlying40 rfl rfl) rfl rfl <| wl_nil ?_
 refine wc_cond rfl (fun ht4 => ?_) (fun ht4 => ?_)
 ·refine wc_seq <| wc_region <| wl_as M rfl rfl <| wl_nil <| wc_ret ?_
  obtain rfl := rd_none R0 ht4
  exact out1 rfl rfl ⟨nilV, rfl, M.nilRow ERune⟩
 refine wc_skip ?_
 refine wc_seq <| wc_region <| wl_e (e_bsR (E := ERune) (xs := []) M (bs_40_0) trivial rfl rfl (by decide)) rfl rfl ?_
 rintro _ w1 ⟨u5, rfl, M⟩
 refine wl_mv M rfl rfl <| wl_e (e_app 0 M rfl R0 Try.underlying40 rfl rfl (by show (_ + _) * 4 ≤ _; simp only [List.length_nil]; omega)) rfl rfl ?_
 rintro _ w2 ⟨u7, rfl, M⟩
 simp only [sC0, sCS] at M
 refine wl_as M rfl rfl <| wl_nil <| wc_ret ?_
 exact out1 rfl rfl ⟨_, rfl, M⟩
set_option maxRecDepth 4000 in
set_option maxHeartbeats 1000000 in
theorem longer_c {mv : List Move} {dist : List (TCfg × Int)} {lim : Int} {txt : List Int} {cs : List TCfg} {va vd : Value} {sb bs : Nat} (hmv : mv.length ≤ 1048576) (hdl : dist.length ≤ 2097152) (hlim : 0 ≤ lim ∧ lim ≤ 1099511627776) (htx : txt.length ≤ 100000) (hcs : cs.length ≤ 2097152) (hal : ∀ ks : List Int, ks.Nodup → (∀ r ∈ ks, r ≠ 0 ∧ ∃ m ∈ mv, m.out = r) → ks.length ≤ 4096) {ut : SV} {I : Heap} {w : World} (hI : hle I (hp w)) (Hs : I sb = some (.cells ([va, vd, .int .i64 lim] : List Value).toArray 66 (0, 0))) (Rg : rdGm QTCfg EMove I va (grp (fun e : Move => e.src) (fun e : Move => e) mv)) (Rd : rdMp QTCfg (Value.int .i64) I vd dist) (Rt : rdSl ERune I (sv ut) txt) (Rs : rdMp QTCfg Value.bool I (.map (some bs)) (tr cs)) :
    Calls A 43 #[.pointer (some ⟨sb, 0, none⟩), .agg #[sv ut, .map (some bs)]] w (Ret w I fun r I' => ∃ (rs : List RPre) (ys : List Int) (fr Kf : Int → List TCfg), (ys.Pairwise (· < ·) ∧ (∀ r, r ∈ ys ↔ ∃ c ∈ cs, ∃ m ∈ mv, m.src = c ∧ m.out = r ∧ r ≠ 0) ∧ (∀ r d, r ≠ 0 → (d ∈ fr r ↔ ∃ c ∈ cs, ∃ m ∈ mv, m.src = c ∧ m.out = r ∧ m.dst = d)) ∧ ∀ r ∈ ys, ∀ c, c ∈ Kf r ↔ Reach (fun c => (silM mv c).filter (fun c => okD dist c (lim - ((txt.length : Int) + 1)))) (fun c => c ∈ fr r ∧ (fun c => okD dist c (lim - ((txt.length : Int) + 1))) c = true) c) ∧ ((∀ r ∈ ys, (Kf r).length ≤ dist.length) ∧ ys.length ≤ 4096) ∧ rdSl EPre I' r rs ∧ Pres I' rs (qsL txt ys Kf)) := by
 have M := Mem.start hI
 refine enter Try.func43 rfl 80 Try.ntmps43 [_, _] rfl ?_
 refine wc_seq <| wc_region <| wl_e (e_box M rfl) rfl rfl ?_
 rintro _ w1 ⟨b3, rfl, M⟩
 refine wl_as M rfl rfl <| wl_nil ?_
 refine wc_seq <| wc_region <| wl_e (e_mkm QRune sv M) rfl rfl ?_
 rintro _ w2 ⟨b14, rfl, M⟩
 replace M := M.toGm 0 ETCfg rfl
 try simp only [sC0, sCS] at M
 refine wl_as M rfl rfl <| wl_nil ?_
 refine wc_seq ?_
 refine wc_seq <| wc_region <| wl_m M (q_fa fo_72_1 rfl) rfl rfl <| wl_m M (q_ldb 1 Try.underlying69 rfl rfl rfl rfl) rfl rfl <| wl_e (e_rngI M Rs Try.underlying69 rfl) rfl rfl ?_
 rintro _ w3 ⟨r17, mb17, rfl, hmb17, M⟩
 obtain rfl : bs = mb17 := by cases hmb17; rfl
 refine wl_nil <| wc_block ?_
 refine wc_loop (α := (List (TCfg × Bool)) × (List SV) × (List (Int × List TCfg))) [6, 8, 18, 19, 20, 21, 22, 23, 24, 25, 26, 27, 28, 29, 30, 31, 32, 33, 34, 35, 36, 37, 38, 39, 40, 41, 42, 43, 44, 45, 46, 47] (fun ((dn_17_0, us_14_0, g_14_0) : (List (TCfg × Bool)) × (List SV) × (List (Int × List TCfg))) => [])
   (fun ((dn_17_0, us_14_0, g_14_0) : (List (TCfg × Bool)) × (List SV) × (List (Int × List TCfg))) w' => (g_14_0 = grp (fun e : Move => e.out) (fun e : Move => e.dst) (dn_17_0.flatMap (outsM mv))) ∧ Mem w I I (itr r17 bs (tr cs) dn_17_0 :: gmap QRune ETCfg b14 us_14_0 us_14_0 g_14_0 :: box b3 72 [sv ut, (.map (some bs))] :: []) w')
   (fun ((dn_17_0, us_14_0, g_14_0) : (List (TCfg × Bool)) × (List SV) × (List (Int × List TCfg))) => (tr cs).length - dn_17_0.length) ([], [], []) trivial ?_ ?_
 ·refine ⟨rfl, ?_⟩
  exact M
 rintro ⟨dn_17_0, us_14_0, g_14_0⟩ jj0 w4 ⟨hg, M⟩
 refine wc_seq <| wc_region <| wl_e (e_nx (Q := QTCfg) (V := Value.bool) 0 M (M.imm _ _ (Rs).at_) rfl rfl) rfl rfl ?_
 rintro _ w5 (⟨rfl, hpm3, M⟩ | ⟨p17, hpi3, hpl3, rfl, M⟩)
 ·refine wl_m M (q_ext rfl rfl) rfl rfl <| wl_nil ?_
  refine wc_seq ?_
  refine wc_false rfl ?_
  refine wc_exit rfl ?_
  refine wc_seq ?_
  have hdn := hpm3
  refine wc_region <| wl_as M rfl rfl ?_
  replace M := M.nilRow EPre
  refine wl_nil ?_
  refine wc_seq ?_
  refine wc_seq ?_
  rw [show dn_17_0 = dn_17_0 from rfl] at hg
  obtain ⟨I9, M, hI9, Rb⟩ := M.frzGm 2 rfl
  have hoI9 := M.old
  rw [hg] at Rb
  obtain ⟨lm, Rl, hlk, hlr⟩ := Rb.opn (grp_nodup _ _ _)
  have hlm := lgr_len hdn hal hlk
  have hlx : ∀ xs : List Int, xs.Perm (lm.map (·.1)) → xs.length ≤ 4096 := fun xs h => by rw [h.length_eq, List.length_map]; exact hlm
  refine wc_region <| wl_mv M rfl rfl <| wl_e (e_callC M (keysT_c (mb := some b14) M.imm) Try.func67 rfl rfl) rfl rfl ?_
  rintro _ w6 ⟨J49, hJ49, ⟨b49, rfl, Hb49⟩, M⟩
  have hoJ49 := M.old
  refine wl_e (e_callR Try.func66 rfl (vs := [.func (.func 78) #[] #[.pointer (some ⟨b49, 0, none⟩)]]) rfl (sortedR_c (by omega) (fun xs_ h_ => Nat.le_trans (hlx xs_ h_) (by decide)) (enters_of Try.func78 (by kernel_rfl) rfl) (givesK (Rl.mono hJ49) Hb49) M)) rfl rfl ?_
  rintro _ w7 ⟨u50, xs50, ys, rfl, hxs50, ⟨hyp, hyle⟩, M⟩
  have hyn : ys.Nodup := (hyp.trans hxs50).nodup_iff.2 (by rw [hlk]; exact grp_nodup _ _ _)
  have hys := strict_of hyle hyn
  have hyl : ys.length ≤ 4096 := by rw [hyp.length_eq]; exact hlx _ hxs50
  refine wl_m M (q_lenr 0 M rfl Try.underlying40 rfl) rfl rfl <| wl_mv M rfl rfl <| wl_nil ?_
  obtain ⟨I10, M, hI10, Ry⟩ := M.frzRow 0 rfl
  have hoI10 := M.old
  refine wc_block ?_
  refine wc_loop (α := Heap × Nat × (Int → List TCfg) × SV × (List RPre)) [9, 11, 12, 13, 52, 53, 54, 55, 56, 57, 58, 59, 60, 61, 62, 63, 64, 65, 66, 67, 68, 69, 70, 71, 72, 73, 74, 75, 76, 77, 78] (fun ((Ic, k4, Kf, u_9_4, l_9_4) : Heap × Nat × (Int → List TCfg) × SV × (List RPre)) => [(52, .int .i64 (k4 : Int)), (9, sv u_9_4)])
    (fun ((Ic, k4, Kf, u_9_4, l_9_4) : Heap × Nat × (Int → List TCfg) × SV × (List RPre)) w' => (hle I10 Ic) ∧ (k4 ≤ ys.length) ∧ (Pres Ic l_9_4 (qsL txt (ys.take k4) Kf)) ∧ (∀ r ∈ ys.take k4, (∀ c, c ∈ Kf r ↔ Reach (fun c => (silM mv c).filter (fun c => okD dist c (lim - ((txt.length : Int) + 1)))) (fun c => c ∈ (aget (grp (fun e : Move => e.out) (fun e : Move => e.dst) (dn_17_0.flatMap (outsM mv))) r).getD [] ∧ (fun c => okD dist c (lim - ((txt.length : Int) + 1))) c = true) c)) ∧ (∀ r ∈ ys.take k4, (Kf r).length ≤ dist.length) ∧ Mem w I Ic (row EPre (sv u_9_4) l_9_4 :: itr r17 bs (tr cs) dn_17_0 :: box b3 72 [sv ut, (.map (some bs))] :: []) w')
    (fun ((Ic, k4, Kf, u_9_4, l_9_4) : Heap × Nat × (Int → List TCfg) × SV × (List RPre)) => ys.length - k4) (I10, 0, fun _ => [], nilV, []) ⟨rfl, rfl, trivial⟩ ?_ ?_
  ·refine ⟨hle.refl _, Nat.zero_le _, trivial, (by simp), (by simp), ?_⟩
   exact M
  rintro ⟨Ic, k4, Kf, u_9_4, l_9_4⟩ jj4 w8 ⟨hIc, hk4, hP, hKf, hKl, M⟩
  have hoIc := M.old
  refine wc_seq <| wc_region <| wl_m M (q_lss rfl rfl) rfl rfl <| wl_nil ?_
  refine wc_seq ?_
  refine wc_dec rfl (fun ht53 => ?_) (fun ht53 => ?_)
  ·obtain ⟨x4, hx4⟩ : ∃ x_, ys[k4]? = some x_ := ⟨_, List.getElem?_eq_getElem (by omega)⟩
   have hll4 := ((Ry.mono hIc)).len_le
   have hnew := sorted_new hys hx4
   refine wc_skip ?_
   refine wc_seq <| wc_block ?_
   refine wc_seq <| wc_region ?_
   refine wl_ix (j := k4) M (Ry.mono hIc) Try.underlying40 rfl rfl hx4 rfl (fun b54 o54 p54 => ?_)
   refine wl_m M (q_ldp p54 rfl rfl) rfl rfl <| wl_as M rfl rfl <| wl_nil ?_
   refine wc_seq <| wc_region <| wl_m M (q_fa fo_72_0 rfl) rfl rfl <| wl_m M (q_ldb 2 Try.underlying40 rfl rfl rfl rfl) rfl rfl <| wl_e (e_callO (val := sv) Try.func68 rfl (vs := [sv ut]) rfl (cloneR_c (by omega) M ((((Rt.mono hI9).mono hJ49).mono hI10).mono hIc))) rfl rfl ?_
   rintro _ w9 ⟨u58, rfl, M⟩
   refine wl_mv M rfl rfl <| wl_e (e_bsI (E := ERune) (xs := [x4]) M (bs_40_1 _) ⟨⟨rfl, rfl⟩, trivial⟩ rfl rfl (by decide)) rfl rfl ?_
   rintro _ w10 ⟨u60, J60, rfl, hJ60, R60, M⟩
   have hoJ60 := M.old
   refine wl_e (e_app 0 M rfl R60 Try.underlying40 rfl rfl (by show (_ + 1) * 4 ≤ _; omega)) rfl rfl ?_
   rintro _ w11 ⟨u61, rfl, M⟩
   replace M := M.less hJ60 hoIc
   try simp only [sC0, sCS] at M
   refine wl_as M rfl rfl <| wl_nil ?_
   refine wc_seq <| wc_region <| wl_mv M rfl rfl <| wl_mv M rfl rfl <| wl_mv M rfl rfl ?_
   refine wl_lkg (k := x4) M (((Rb.mono hJ49).mono hI10).mono hIc) Try.underlying107 zv56 rfl rfl rfl (fun u65 R65 => ?_)
   refine wl_mv M rfl rfl <| wl_m M (q_lenr 0 M rfl Try.underlying40 rfl) rfl rfl <| wl_e (e_callC M (closed_c (wr := (((txt ++ [x4]).length : Nat) : Int)) hmv hdl (lgr_fr hmv hcs hdn _) hlim (by rw [List.length_append, List.length_singleton]; omega) M.imm (hIc _ _ (hI10 _ _ (hJ49 _ _ (hI9 _ _ Hs)))) ((((Rg.mono hI9).mono hJ49).mono hI10).mono hIc) ((((Rd.mono hI9).mono hJ49).mono hI10).mono hIc) R65) Try.func40 rfl rfl) rfl rfl ?_
   rintro _ w12 ⟨J68, hJ68, ⟨K68, R68, hn68, hl68, hK68⟩, M⟩
   obtain ⟨b68, rfl, hb68⟩ := R68
   have R68 : rdMp QTCfg Value.bool J68 (.map (some b68)) (tr K68) := ⟨b68, rfl, hb68⟩
   have hoJ68 := M.old
   refine wl_as M rfl rfl <| wl_nil ?_
   refine wc_seq <| wc_region <| wl_mv M rfl rfl <| wl_m M (q_lenMI R68 Try.underlying69 rfl) rfl rfl <| wl_m M (q_gtr rfl rfl) rfl rfl <| wl_nil ?_
   refine wc_dec rfl (fun ht71 => ?_) (fun ht71 => ?_)
   ·have hK0 : 0 < K68.length := by rw [lgr_tr] at ht71; omega
    have e68 : (((txt ++ [x4]).length : Nat) : Int) = (txt.length : Int) + 1 := by simp
    rw [e68] at hK68
    have hKn : ∀ r ∈ ys.take (k4 + 1), (∀ c, c ∈ extK Kf x4 K68 r ↔ Reach (fun c => (silM mv c).filter (fun c => okD dist c (lim - ((txt.length : Int) + 1)))) (fun c => c ∈ (aget (grp (fun e : Move => e.out) (fun e : Move => e.dst) (dn_17_0.flatMap (outsM mv))) r).getD [] ∧ (fun c => okD dist c (lim - ((txt.length : Int) + 1))) c = true) c) := fun r hr => by
      rw [take_snoc hx4] at hr
      rcases List.mem_append.1 hr with h | h
      · rw [extK, if_neg (fun e : r = x4 => hnew (e ▸ h))]; exact hKf r h
      · rw [List.mem_singleton.1 h, extK, if_pos rfl]; exact hK68
    have hKm : ∀ r ∈ ys.take (k4 + 1), (extK Kf x4 K68 r).length ≤ dist.length := fun r hr => by
      rw [take_snoc hx4] at hr
      rcases List.mem_append.1 hr with h | h
      · rw [extK, if_neg (fun e : r = x4 => hnew (e ▸ h))]; exact hKl r h
      · rw [List.mem_singleton.1 h, extK, if_pos rfl]; exact hl68
    obtain ⟨I11, M, hI11, Rq⟩ := M.frzRow 0 rfl
    have hoI11 := M.old
    refine wc_region <| wl_mv M rfl rfl <| wl_mv M rfl rfl <| wl_mv M rfl rfl <| wl_m M (q_build (bd_72_0_1 _ _) ⟨⟨rfl, rfl⟩, ⟨rfl, rfl⟩, trivial⟩) rfl rfl <| wl_e (e_bsI (E := EPre) (xs := [RPre.mk u61 b68]) M (bs_75_1 _ _) ⟨⟨rfl, rfl⟩, trivial⟩ rfl rfl (by decide)) rfl rfl ?_
    rintro _ w13 ⟨u76, J76, rfl, hJ76, R76, M⟩
    have hoJ76 := M.old
    refine wl_e (e_app 0 M rfl R76 Try.underlying75 rfl rfl (by have := hP.len; have h2 : (qsL txt (ys.take k4) Kf).length ≤ ys.length := lgr_qs; show (_ + 1) * 32 ≤ _; omega)) rfl rfl ?_
    rintro _ w14 ⟨u77, rfl, M⟩
    replace M := M.less hJ76 hoI11
    try simp only [sC0, sCS] at M
    refine wl_as M rfl rfl <| wl_nil <| wc_region <| wl_m M (q_add rfl rfl (IntWalk.i64_in _ (by omega))) rfl rfl ?_
    refine wl_mv M rfl rfl <| wl_nil ?_
    refine ⟨(I11, k4 + 1, extK Kf x4 K68, u77, l_9_4 ++ [RPre.mk u61 b68]), ?_, ⟨(hle.trans (hle.trans hIc hJ68) hI11), (by omega), (by rw [take_snoc hx4, qsL_yes hnew hK0]; exact (Pres.mono (hle.trans hJ68 hI11) hP).snoc ⟨Rq, (R68.mono hI11)⟩), hKn, hKm, M⟩, ⟨rfl, rfl, trivial⟩, unw_look rfl unw_base⟩
    show ys.length - (k4 + 1) < ys.length - k4
    omega
   have hK0 : ¬ 0 < K68.length := by rw [lgr_tr] at ht71; omega
   have e68 : (((txt ++ [x4]).length : Nat) : Int) = (txt.length : Int) + 1 := by simp
   rw [e68] at hK68
   have hKn : ∀ r ∈ ys.take (k4 + 1), (∀ c, c ∈ extK Kf x4 K68 r ↔ Reach (fun c => (silM mv c).filter (fun c => okD dist c (lim - ((txt.length : Int) + 1)))) (fun c => c ∈ (aget (grp (fun e : Move => e.out) (fun e : Move => e.dst) (dn_17_0.flatMap (outsM mv))) r).getD [] ∧ (fun c => okD dist c (lim - ((txt.length : Int) + 1))) c = true) c) := fun r hr => by
     rw [take_snoc hx4] at hr
     rcases List.mem_append.1 hr with h | h
     · rw [extK, if_neg (fun e : r = x4 => hnew (e ▸ h))]; exact hKf r h
     · rw [List.mem_singleton.1 h, extK, if_pos rfl]; exact hK68
   have hKm : ∀ r ∈ ys.take (k4 + 1), (extK Kf x4 K68 r).length ≤ dist.length := fun r hr => by
     rw [take_snoc hx4] at hr
     rcases List.mem_append.1 hr with h | h
     · rw [extK, if_neg (fun e : r = x4 => hnew (e ▸ h))]; exact hKl r h
     · rw [List.mem_singleton.1 h, extK, if_pos rfl]; exact hl68
   refine wc_skip <| wc_region <| wl_m M (q_add rfl rfl (IntWalk.i64_in _ (by omega))) rfl rfl ?_
   refine wl_mv M rfl rfl <| wl_nil ?_
   replace M := M.drop 0
   refine ⟨(J68, k4 + 1, extK Kf x4 K68, u_9_4, l_9_4), ?_, ⟨(hle.trans hIc hJ68), (by omega), (by rw [take_snoc hx4, qsL_no hnew hK0]; exact Pres.mono hJ68 hP), hKn, hKm, M⟩, ⟨rfl, rfl, trivial⟩, unw_look rfl unw_base⟩
   show ys.length - (k4 + 1) < ys.length - k4
   omega
  have hke4 : k4 = ys.length := by omega
  rw [hke4, List.take_length] at hP hKf hKl
  refine wc_exit rfl ?_
  refine wc_seq <| wc_region <| wl_mv M rfl rfl <| wl_as M rfl rfl <| wl_nil <| wc_ret ?_
  obtain ⟨K1, M, hK1, Rk1⟩ := M.frzRow 0 rfl
  exact out1 rfl rfl ⟨_, K1, rfl, (M.grow : Grow w I _ K1), _, ys, _, Kf, ⟨hys, lgr_mem hdn hlk (hyp.trans hxs50), lgr_by hdn, hKf⟩, ⟨hKl, hyl⟩, Rk1, Pres.mono hK1 hP⟩
 simp only [sC0, sCS] at M
 refine wl_m M (q_ext rfl rfl) rfl rfl <| wl_nil ?_
 refine wc_seq ?_
 refine wc_true rfl ?_
 refine wc_skip <| wc_block ?_
 refine wc_seq <| wc_region <| wl_m M (q_ent (Q := QTCfg) (V := Value.bool) 0 (fun w M => M.imm _ _ (Rs).at_) rfl rfl) rfl rfl ?_
 refine wl_m M (q_ext rfl rfl) rfl rfl <| wl_e (e_alloc M z58) rfl rfl ?_
 rintro _ w15 ⟨b6, rfl, M⟩
 refine wl_e0 (e_stW 0 M rfl rfl rfl sz58 rfl rfl) rfl ?_
 intro _ w16 M
 try simp only [sC0, sCS] at M
 refine wl_nil ?_
 refine wc_seq ?_
 refine wc_draws (fun w' => Mem w I I (box b6 58 [.int .i64 p17.1.state, .int .i64 p17.1.pos] :: itr r17 bs (tr cs) (dn_17_0 ++ [p17]) :: gmap QRune ETCfg b14 us_14_0 us_14_0 g_14_0 :: box b3 72 [sv ut, (.map (some bs))] :: []) w' ∧ True) [] fol ?_
 replace M := M.drew
 have hS := (⟨M, trivial⟩ : _ ∧ _)
 refine wa_q 0 rfl (by kernel_rfl) (q_move rfl) hS rfl rfl ?_
 refine wa_q 1 rfl (by kernel_rfl) (q_nilCheck rfl) hS rfl rfl ?_
 refine wa_q 2 rfl (by kernel_rfl) (q_fa fo_66_0 rfl) hS rfl rfl ?_
 refine wa_q 3 rfl (by kernel_rfl) ((q_ldbI Hs Try.underlying62 rfl rfl rfl).mono fun _ h => h.1) hS rfl rfl ?_
 refine wa_q 4 rfl (by kernel_rfl) ((q_ldbA 0 Try.underlying58 rfl sz58 rfl rfl rfl rfl).mono fun _ h => h.1) hS rfl rfl ?_
 refine wa_lkg (k := p17.1) 5 rfl (by kernel_rfl) (fun _ h => h.1) Rg Try.underlying62 zv59 rfl rfl hS rfl (fun u27 R27 => ?_)
 rw [grp_id] at R27
 replace R27 : rdSl EMove I (sv u27) (mv.filter fun m_ => m_.src = p17.1) := R27
 refine wa_q 6 rfl (by kernel_rfl) (q_lenR R27 Try.underlying59 rfl) hS rfl rfl ?_
 refine wa_q 7 rfl (by kernel_rfl) (q_move rfl) hS rfl rfl ?_
 refine wa_done (by kernel_rfl) ?_
 refine wc_block ?_
 refine wc_loop (α := Nat × (List SV) × (List (Int × List TCfg))) [8, 29, 30, 31, 32, 33, 34, 35, 36, 37, 38, 39, 40, 41, 42, 43, 44, 45, 46, 47] (fun ((k2, us_14_2, g_14_2) : Nat × (List SV) × (List (Int × List TCfg))) => [(29, .int .i64 (k2 : Int))])
   (fun ((k2, us_14_2, g_14_2) : Nat × (List SV) × (List (Int × List TCfg))) w' => (k2 ≤ (mv.filter fun m_ => m_.src = p17.1).length) ∧ (g_14_2 = grp (fun e : Move => e.out) (fun e : Move => e.dst) (dn_17_0.flatMap (outsM mv) ++ ((mv.filter fun m_ => m_.src = p17.1).take k2).filter fun m_ => !decide (m_.out = 0))) ∧ Mem w I I (box b6 58 [.int .i64 p17.1.state, .int .i64 p17.1.pos] :: itr r17 bs (tr cs) (dn_17_0 ++ [p17]) :: gmap QRune ETCfg b14 us_14_2 us_14_2 g_14_2 :: box b3 72 [sv ut, (.map (some bs))] :: []) w')
   (fun ((k2, us_14_2, g_14_2) : Nat × (List SV) × (List (Int × List TCfg))) => (mv.filter fun m_ => m_.src = p17.1).length - k2) (0, us_14_0, g_14_0) ⟨rfl, trivial⟩ ?_ ?_
 ·refine ⟨Nat.zero_le _, (by rw [hg]; simp), ?_⟩
  exact M
 rintro ⟨k2, us_14_2, g_14_2⟩ jj2 w17 ⟨hk2, hg2, M⟩
 refine wc_seq <| wc_region <| wl_m M (q_lss rfl rfl) rfl rfl <| wl_nil ?_
 refine wc_seq ?_
 refine wc_dec rfl (fun ht30 => ?_) (fun ht30 => ?_)
 ·obtain ⟨x2, hx2⟩ : ∃ x_, (mv.filter fun m_ => m_.src = p17.1)[k2]? = some x_ := ⟨_, List.getElem?_eq_getElem (by omega)⟩
  have hll2 := (R27).len_le
  refine wc_skip ?_
  refine wc_seq <| wc_block ?_
  refine wc_seq <| wc_region ?_
  refine wl_ix (j := k2) M R27 Try.underlying59 rfl rfl hx2 rfl (fun b31 o31 p31 => ?_)
  refine wl_m M (q_ldp p31 rfl rfl) rfl rfl <| wl_e (e_alloc M z68) rfl rfl ?_
  rintro _ w18 ⟨b8, rfl, M⟩
  refine wl_e0 (e_stW 0 M rfl rfl rfl sz68 rfl rfl) rfl ?_
  intro _ w19 M
  try simp only [sC0, sCS] at M
  refine wl_nil ?_
  refine wc_seq <| wc_region <| wl_m M (q_fa fo_68_2 rfl) rfl rfl <| wl_m M (q_ldb 0 Try.underlying21 rfl rfl rfl rfl) rfl rfl <| wl_m M (q_neq rfl rfl) rfl rfl <| wl_nil ?_
  refine wc_cond rfl (fun ht35 => ?_) (fun ht35 => ?_)
  ·obtain ⟨us42, j42, u42, hu42, hg42, hs42, hlk42, hup42, M⟩ := M.gmReady 3 rfl x2.out
   simp only [sC0, sCS] at M
   have hgl42 := M.gmVs (i := 3) rfl
   refine wc_draws (fun w' => Mem w I I (box b8 68 [.int .i64 x2.src.state, .int .i64 x2.src.pos, .int .i64 x2.dst.state, .int .i64 x2.dst.pos, .int .i32 x2.out] :: box b6 58 [.int .i64 p17.1.state, .int .i64 p17.1.pos] :: itr r17 bs (tr cs) (dn_17_0 ++ [p17]) :: box b3 72 [sv ut, (.map (some bs))] :: []) w' ∧ hp w' b14 = some (mobj QRune sv ((gk (aput g_14_2 x2.out ((aget g_14_2 x2.out).getD []))).zip (us_14_2)))) [11] fol ?_
   replace M := M.drew
   have hS := mkS (F := fun w' => hp w' b14 = some (mobj QRune sv ((gk (aput g_14_2 x2.out ((aget g_14_2 x2.out).getD []))).zip (us_14_2)))) (M.drop 3) ((by first | exact M.gmAt (i := 3) rfl | (have h := M.gmAt (i := 3) rfl; rw [gk_set hg42] at h; exact h)))
   refine wa_q 0 rfl (by kernel_rfl) (q_move rfl) hS rfl rfl ?_
   refine wa_q 1 rfl (by kernel_rfl) (q_fa fo_68_2 rfl) hS rfl rfl ?_
   refine wa_q 2 rfl (by kernel_rfl) ((q_ldb 0 Try.underlying21 rfl rfl rfl rfl).mono fun _ h => h.1) hS rfl rfl ?_
   refine wa_q 3 rfl (by kernel_rfl) (q_move rfl) hS rfl rfl ?_
   refine wa_q 4 rfl (by kernel_rfl) (q_fa fo_68_2 rfl) hS rfl rfl ?_
   refine wa_q 5 rfl (by kernel_rfl) ((q_ldb 0 Try.underlying21 rfl rfl rfl rfl).mono fun _ h => h.1) hS rfl rfl ?_
   refine wa_q 6 rfl (by kernel_rfl) (q_lkgS (k := x2.out) (fun _ h => h.2) hlk42 Try.underlying107 zv56 rfl rfl) hS rfl rfl ?_
   refine wa_q 7 rfl (by kernel_rfl) (q_fa fo_68_1 rfl) hS rfl rfl ?_
   refine wa_q 8 rfl (by kernel_rfl) ((q_ldbA 0 Try.underlying58 rfl sz58 rfl rfl rfl rfl).mono fun _ h => h.1) hS rfl rfl ?_
   refine wa_e 9 rfl (by kernel_rfl) (e_bsI (E := ETCfg) (xs := [x2.dst]) M (bs_56_1 _ _) ⟨⟨rfl, rfl⟩, trivial⟩ rfl rfl (by decide)) rfl rfl ?_
   rintro _ w20 ⟨u45, J45, rfl, hJ45, R45, M⟩
   have hoJ45 := M.old
   have hS := mkS (F := fun w' => hp w' b14 = some (mobj QRune sv ((gk (aput g_14_2 x2.out ((aget g_14_2 x2.out).getD []))).zip (us_14_2)))) ((M.less hJ45 (fun _ _ => rfl)).drop 3) ((by first | exact M.gmAt (i := 3) rfl | (have h := M.gmAt (i := 3) rfl; rw [gk_set hg42] at h; exact h)))
   refine ⟨fun _ => hS, ?_⟩
   refine wa_e 10 rfl (by kernel_rfl) (e_gapp 3 j42 M rfl Try.underlying56 hu42 hg42 rfl rfl R45 (by rw [hg2]; have h1 := grp_look_len (fun e : Move => e.out) (fun e : Move => e.dst) x2.out (dn_17_0.flatMap (outsM mv) ++ ((mv.filter fun m_ => m_.src = p17.1).take k2).filter fun m_ => !decide (m_.out = 0)); have h2 := lgr_flat (mv := mv) dn_17_0; have h3 := Nat.mul_le_mul (show dn_17_0.length ≤ 2097152 by have := hpl3; rw [lgr_tr] at this; omega) hmv; have h4 : (((mv.filter fun m_ => m_.src = p17.1).take k2).filter fun m_ => !decide (m_.out = 0)).length ≤ mv.length := Nat.le_trans (List.length_filter_le _ _) (Nat.le_trans (List.length_take_le' _ _) (List.length_filter_le _ _)); rw [List.length_append] at h1; show (_ + 1) * 16 ≤ _; omega)) rfl rfl ?_
   rintro _ w21 ⟨u46, rfl, M⟩
   try simp only [sC0, sCS] at M
   have hS := mkS (F := fun w' => hp w' b14 = some (mobj QRune sv ((gk (aput g_14_2 x2.out ((aget g_14_2 x2.out).getD []))).zip (us_14_2)))) ((M.less hJ45 (fun _ _ => rfl)).drop 3) ((by first | exact M.gmAt (i := 3) rfl | (have h := M.gmAt (i := 3) rfl; rw [gk_set hg42] at h; exact h)))
   refine ⟨fun _ => hS, ?_⟩
   replace M := M.less hJ45 (fun _ _ => rfl)
   refine wa_e0 11 rfl (by kernel_rfl) (e_gmu (k := x2.out) (u := u46) (os' := us42.set j42 u46) 3 M rfl rfl (by rw [gk_set hg42]; exact hup42 _) (by rw [List.length_set, List.length_set]; exact Nat.le_of_eq hgl42) Try.underlying107 rfl rfl rfl) rfl ?_
   intro _ w22 M
   rw [hs42] at M
   try simp only [sC0, sCS] at M
   refine ⟨nofun, ?_⟩
   refine wa_done (by kernel_rfl) ?_
   refine wc_region <| wl_m M (q_add rfl rfl (IntWalk.i64_in _ (by omega))) rfl rfl ?_
   refine wl_mv M rfl rfl <| wl_nil ?_
   replace M := M.drop 0
   refine ⟨(k2 + 1, us42.set j42 u46, aput g_14_2 x2.out ((aget g_14_2 x2.out).getD [] ++ [x2.dst])), ?_, ⟨(by omega), (by rw [take_snoc hx2, List.filter_append, ← List.append_assoc]; simp only [List.filter_cons, List.filter_nil, decide_eq_false (nd_t ht35)]; rw [show (!false) = true from rfl, if_pos rfl, grp_snoc, hg2]), M⟩, ⟨rfl, trivial⟩, unw_look rfl unw_base⟩
   show (mv.filter fun m_ => m_.src = p17.1).length - (k2 + 1) < (mv.filter fun m_ => m_.src = p17.1).length - k2
   omega
  refine wc_skip <| wc_region <| wl_m M (q_add rfl rfl (IntWalk.i64_in _ (by omega))) rfl rfl ?_
  refine wl_mv M rfl rfl <| wl_nil ?_
  replace M := M.drop 0
  refine ⟨(k2 + 1, us_14_2, g_14_2), ?_, ⟨(by omega), (by rw [take_snoc hx2, List.filter_append, hg2]; simp [nd_f ht35]), M⟩, ⟨rfl, trivial⟩, unw_look rfl unw_base⟩
  show (mv.filter fun m_ => m_.src = p17.1).length - (k2 + 1) < (mv.filter fun m_ => m_.src = p17.1).length - k2
  omega
 have hke2 : k2 = (mv.filter fun m_ => m_.src = p17.1).length := by omega
 rw [hke2, List.take_length] at hg2
 refine wc_exit rfl ?_
 replace M := M.drop 0
 refine ⟨(dn_17_0 ++ [p17], us_14_2, g_14_2), ?_, ⟨(by rw [List.flatMap_append, List.flatMap_cons, List.flatMap_nil, List.append_nil]; exact hg2), M⟩, trivial, unw_look rfl (unw_hav rfl (unw_look rfl unw_base))⟩
 show (tr cs).length - (dn_17_0 ++ [p17]).length < (tr cs).length - dn_17_0.length
 rw [List.length_append, List.length_singleton]; omega
end Go.Proofs.Ytfepjcmjkaolgaa.G
