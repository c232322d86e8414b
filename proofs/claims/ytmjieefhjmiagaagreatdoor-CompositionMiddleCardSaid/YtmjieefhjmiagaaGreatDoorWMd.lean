/- Walks of the program's functions. -/
import Derived.Test.YtmjieefhjmiagaaGreatDoorWMc
set_option linter.all false
namespace Go.Proofs.YtmjieefhjmiagaaGreatDoor.G
open Go Go.RowKit
set_option maxRecDepth 4000 in
set_option maxHeartbeats 1000000 in
theorem nextC_c {a b : Tra} {fu1 au1 fu2 au2 ux uz uf ut : SV} {xs zs : List Int} {m n sb : Nat} {I : Heap} {w : World} {dist : List (Config × Int)} {vd : Value} {lim : Int} (hdl : dist.length ≤ 42025) (hdk : ∀ c k, okD dist c k = true → c ∈ rect4 m xs.length n zs.length) {tx : ByteArray} {txt : List Int} (htx : tx = strL txt) (hts : tx.size ≤ 1000) {cs : List Config} {bs : Nat} (hcs : ∀ c ∈ cs, c ∈ rect4 m xs.length n zs.length) (hcl : cs.length ≤ 42025) (hI : hle I (hp w)) (hF : FewB a b xs zs m n) (hB0 : BtwH I sb m n a b xs zs fu1 au1 fu2 au2 ux uz uf ut) (Rd : rdMp QConfig (Value.int .i64) I vd dist) (Rs : rdMp QConfig Value.bool I (.map (some bs)) (tr cs)) :
    Calls A 29 #[.pointer (some ⟨sb, 0, none⟩), .agg #[.string tx, .map (some bs)], vd, .int .i64 lim] w (Ret w I fun r I' => ∃ (rs : List CPre) (ys : List Int) (fr Kf : Int → List Config), (ys.Pairwise (· < ·) ∧ (∀ r, r ∈ ys ↔ ∃ c ∈ cs, ∃ d, (r, d) ∈ spkL a b xs zs c) ∧ (∀ r d, d ∈ fr r ↔ ∃ c ∈ cs, (r, d) ∈ spkL a b xs zs c) ∧ ∀ r ∈ ys, ∀ c, c ∈ Kf r ↔ Clo (bnet a b xs zs) dist lim (fr r) c) ∧ ((∀ r ∈ ys, (Kf r).length ≤ 42025) ∧ ys.length ≤ 12) ∧ rdSl ECPre I' r rs ∧ CPres I' rs (qsC txt ys Kf)) := by
 have hB1 := hB0
 obtain ⟨Hs, Rf1, Rf2, Rx, Rz, Rm1, Rm2⟩ := hB1
 have M := Mem.start hI
 refine enter Tryz.func29 rfl 71 Tryz.ntmps29 [_, _, _, _] rfl ?_
 refine wc_seq ?_
 refine wc_region ?_
 refine wl_e (e_box M rfl) rfl rfl ?_
 rintro _ w1 ⟨b5, rfl, M⟩
 refine wl_as M rfl rfl ?_
 refine wl_nil ?_
 refine wc_seq ?_
 refine wc_region ?_
 refine wl_e (e_mkm QRune sv M) rfl rfl ?_
 rintro _ w2 ⟨b17, rfl, M⟩
 replace M := M.toGm 0 EConfig rfl
 try simp only [sC0, sCS] at M
 refine wl_as M rfl rfl ?_
 refine wl_nil ?_
 refine wc_seq ?_
 refine wc_seq ?_
 refine wc_region ?_
 refine wl_m M (q_fa fo_66_1 rfl) rfl rfl ?_
 refine wl_m M (q_ldb 1 Tryz.underlying60 rfl rfl rfl rfl) rfl rfl ?_
 refine wl_e (e_rngI M Rs Tryz.underlying60 rfl) rfl rfl ?_
 rintro _ w3 ⟨r20, mb20, rfl, hmb20, M⟩
 obtain rfl : bs = mb20 := by cases hmb20; rfl
 refine wl_nil ?_
 refine wc_block ?_
 refine wc_loop (α := (List (Int × Config)) × (List (Config × Bool)) × (List SV) × (List (Int × List Config))) [10, 11, 12, 21, 22, 23, 24, 25, 26, 27, 28, 29, 30, 31, 32, 33, 34, 35, 36, 37, 38, 39, 40] (fun ((ls, dn_20_0, us_17_0, g_17_0) : (List (Int × Config)) × (List (Config × Bool)) × (List SV) × (List (Int × List Config))) => [])
   (fun ((ls, dn_20_0, us_17_0, g_17_0) : (List (Int × Config)) × (List (Config × Bool)) × (List SV) × (List (Int × List Config))) w' => (Gs g_17_0 ls) ∧ (∀ r d, (r, d) ∈ ls ↔ ∃ p ∈ dn_20_0, (r, d) ∈ spkL a b xs zs p.1) ∧ (ls.length ≤ dn_20_0.length * 1728) ∧ Mem w I I (itr r20 bs (tr cs) dn_20_0 :: gmap QRune EConfig b17 us_17_0 us_17_0 g_17_0 :: box b5 66 [.string tx, (.map (some bs))] :: []) w')
   (fun ((ls, dn_20_0, us_17_0, g_17_0) : (List (Int × Config)) × (List (Config × Bool)) × (List SV) × (List (Int × List Config))) => (tr cs).length - dn_20_0.length) ([], [], [], []) trivial ?_ ?_
 ·refine ⟨Gs.init, (by simp), (by simp), ?_⟩
  exact M
 rintro ⟨ls, dn_20_0, us_17_0, g_17_0⟩ jj0 w4 ⟨hG, hls, hll, M⟩
 refine wc_seq ?_
 refine wc_region ?_
 refine wl_e (e_nx (Q := QConfig) (V := Value.bool) 0 M (M.imm _ _ (Rs).at_) rfl rfl) rfl rfl ?_
 rintro _ w5 (⟨rfl, hpm3, M⟩ | ⟨p20, hpi3, hpl3, rfl, M⟩)
 ·refine wl_m M (q_ext rfl rfl) rfl rfl ?_
  refine wl_nil ?_
  refine wc_seq ?_
  refine wc_false rfl ?_
  have htl : (tr cs).length = cs.length := by simp [tr]
  have hdl20 := hpm3.length_eq
  refine wc_exit rfl ?_
  refine wc_seq ?_
  refine wc_region ?_
  refine wl_as M rfl rfl ?_
  replace M := M.nilRow ECPre
  refine wl_nil ?_
  refine wc_seq ?_
  refine wc_seq ?_
  have hdn := hpm3
  replace M : Mem w I I (itr r20 bs (tr cs) dn_20_0 :: row ECPre (sv nilV) [] :: gmap QRune EConfig b17 us_17_0 us_17_0 g_17_0 :: box b5 66 [.string tx, (.map (some bs))] :: []) w5 := M.perm (front_perm (i := 1) rfl).symm
  replace M : Mem w I I (row ECPre (sv nilV) [] :: itr r20 bs (tr cs) dn_20_0 :: gmap QRune EConfig b17 us_17_0 us_17_0 g_17_0 :: box b5 66 [.string tx, (.map (some bs))] :: []) w5 := M.perm (front_perm (i := 1) rfl).symm
  replace M : Mem w I I (gmap QRune EConfig b17 us_17_0 us_17_0 g_17_0 :: row ECPre (sv nilV) [] :: itr r20 bs (tr cs) dn_20_0 :: box b5 66 [.string tx, (.map (some bs))] :: []) w5 := M.perm (front_perm (i := 2) rfl).symm
  obtain ⟨lm, Im, M, hIm, Rl, hlk⟩ := M.gmRows hG.nd
  replace M : Mem w I Im (row ECPre (sv nilV) [] :: itr r20 bs (tr cs) dn_20_0 :: box b5 66 [.string tx, (.map (some bs))] :: (rowsY EConfig (fun r => (aget lm r).getD nilV) (fun r => (aget g_17_0 r).getD []) (gk g_17_0))) w5 := M
  have hoIm := M.old
  have hkg : ∀ r, r ∈ gk g_17_0 ↔ ∃ c ∈ cs, ∃ d, (r, d) ∈ spkL a b xs zs c := fun r => by
    rw [hG.keys]
    exact ⟨fun ⟨d, h⟩ => by
      obtain ⟨p, hp, h2⟩ := (hls r d).1 h
      obtain ⟨c, hc, e⟩ := List.mem_map.1 (hdn.mem_iff.1 hp)
      exact ⟨c, hc, d, by rw [← e] at h2; exact h2⟩, fun ⟨c, hc, d, h⟩ => ⟨d, (hls r d).2 ⟨(c, true), hdn.mem_iff.2 (List.mem_map.2 ⟨c, hc, rfl⟩), h⟩⟩⟩
  have hlm : lm.length ≤ 12 := by
    rw [← List.length_map (f := (·.1)), hlk]
    exact keys_few hG.nd (fun r hr => by obtain ⟨c, _, d, h⟩ := (hkg r).1 hr; exact spk_arc h) hF.2.2.1
  have hlx : ∀ xs : List Int, xs.Perm (lm.map (·.1)) → xs.length ≤ 12 := fun xs h => by rw [h.length_eq, List.length_map]; exact hlm
  refine wc_region ?_
  refine wl_mv M rfl rfl ?_
  refine wl_e (e_callC M (keysC_c (mb := some b17) M.imm) Tryz.func66 rfl rfl) rfl rfl ?_
  rintro _ w6 ⟨J49, hJ49, ⟨b49, rfl, Hb49⟩, M⟩
  have hoJ49 := M.old
  refine wl_e (e_callR Tryz.func65 rfl (vs := [.func (.func 100) #[] #[.pointer (some ⟨b49, 0, none⟩)]]) rfl (sortedR_c (by omega) hlx (enters_of Tryz.func100 (by kernel_rfl) rfl) (givesKC (Rl.mono hJ49) Hb49) M)) rfl rfl ?_
  rintro _ w7 ⟨u50, xs50, ys, rfl, hxs50, ⟨hyp, hyle⟩, M⟩
  have hyg : ys.Perm (gk g_17_0) := (hyp.trans hxs50).trans (by rw [hlk])
  have hyn : ys.Nodup := hyg.nodup_iff.2 hG.nd
  have hys := strict_ofC hyle hyn
  have hyl : ys.length ≤ 12 := by rw [hyp.length_eq]; exact hlx _ hxs50
  refine wl_m M (q_lenr 0 M rfl Tryz.underlying29 rfl) rfl rfl ?_
  refine wl_mv M rfl rfl ?_
  refine wl_nil ?_
  obtain ⟨I10, M, hI10, Ry⟩ := M.frzRow 0 rfl
  have hoI10 := M.old
  replace M : Mem w I I10 (row ECPre (sv nilV) [] :: itr r20 bs (tr cs) dn_20_0 :: box b5 66 [.string tx, (.map (some bs))] :: (rowsY EConfig (fun r => (aget lm r).getD nilV) (fun r => (aget g_17_0 r).getD []) ys)) w7 := Mem.rowsPerm (L := [row ECPre (sv nilV) [], itr r20 bs (tr cs) dn_20_0, box b5 66 [.string tx, (.map (some bs))]]) M hyg
  refine wc_block ?_
  refine wc_loop (α := Heap × Nat × (Int → List Config) × SV × (List CPre)) [13, 15, 16, 45, 46, 47, 48, 49, 50, 51, 52, 53, 54, 55, 56, 57, 58, 59, 60, 61, 62, 63, 64, 65, 66, 67, 68, 69] (fun ((Ic, k4, Kf, u_13_4, l_13_4) : Heap × Nat × (Int → List Config) × SV × (List CPre)) => [(45, .int .i64 (k4 : Int)), (13, sv u_13_4)])
    (fun ((Ic, k4, Kf, u_13_4, l_13_4) : Heap × Nat × (Int → List Config) × SV × (List CPre)) w' => (hle I10 Ic) ∧ (k4 ≤ ys.length) ∧ (CPres Ic l_13_4 (qsC txt (ys.take k4) Kf)) ∧ (∀ r ∈ ys.take k4, (∀ c, c ∈ Kf r ↔ Clo (bnet a b xs zs) dist lim ((aget g_17_0 r).getD []) c)) ∧ (∀ r ∈ ys.take k4, (Kf r).length ≤ 42025) ∧ Mem w I Ic (row ECPre (sv u_13_4) l_13_4 :: itr r20 bs (tr cs) dn_20_0 :: box b5 66 [.string tx, (.map (some bs))] :: (rowsY EConfig (fun r => (aget lm r).getD nilV) (fun r => (aget g_17_0 r).getD []) (ys.drop k4))) w')
    (fun ((Ic, k4, Kf, u_13_4, l_13_4) : Heap × Nat × (Int → List Config) × SV × (List CPre)) => ys.length - k4) (I10, 0, fun _ => [], nilV, []) ⟨rfl, rfl, trivial⟩ ?_ ?_
  ·refine ⟨hle.refl _, Nat.zero_le _, trivial, (by simp), (by simp), ?_⟩
   exact M
  rintro ⟨Ic, k4, Kf, u_13_4, l_13_4⟩ jj4 w8 ⟨hIc, hk4, hP, hKf, hKl, M⟩
  have hoIc := M.old
  refine wc_seq ?_
  refine wc_region ?_
  refine wl_m M (q_lss rfl rfl) rfl rfl ?_
  refine wl_nil ?_
  refine wc_seq ?_
  refine wc_dec rfl (fun ht46 => ?_) (fun ht46 => ?_)
  ·obtain ⟨x4, hx4⟩ : ∃ x_, ys[k4]? = some x_ := ⟨_, List.getElem?_eq_getElem (by omega)⟩
   have hll4 := ((Ry.mono hIc)).len_le
   have hnew := sorted_newC hys hx4
   refine wc_skip ?_
   refine wc_seq ?_
   refine wc_block ?_
   refine wc_seq ?_
   refine wc_region ?_
   refine wl_ix (j := k4) M (Ry.mono hIc) Tryz.underlying29 rfl rfl hx4 rfl (fun b47 o47 p47 => ?_)
   refine wl_m M (q_ldp p47 rfl rfl) rfl rfl ?_
   refine wl_as M rfl rfl ?_
   refine wl_nil ?_
   refine wc_seq ?_
   rw [drop_cons hx4] at M
   replace M : Mem w I Ic (row EConfig (sv ((aget lm x4).getD nilV)) ((aget g_17_0 x4).getD []) :: row ECPre (sv u_13_4) l_13_4 :: itr r20 bs (tr cs) dn_20_0 :: box b5 66 [.string tx, (.map (some bs))] :: (rowsY EConfig (fun r => (aget lm r).getD nilV) (fun r => (aget g_17_0 r).getD []) (ys.drop (k4 + 1)))) w8 := Mem.rowsTake (L := [row ECPre (sv u_13_4) l_13_4, itr r20 bs (tr cs) dn_20_0, box b5 66 [.string tx, (.map (some bs))]]) M
   refine wc_region ?_
   refine wl_mv M rfl rfl ?_
   refine wl_mv M rfl rfl ?_
   refine wl_mv M rfl rfl ?_
   refine wl_m M (q_lkI (Q := QRune) (V := sv) (k := x4) (z := nilV) (((Rl.mono hJ49).mono hI10).mono hIc) Tryz.underlying83 zv64 rfl rfl) rfl rfl ?_
   refine wl_mv M rfl rfl ?_
   refine wl_mv M rfl rfl ?_
   refine wl_e (e_callR Tryz.func27 rfl (vs := [.pointer (some ⟨sb, 0, none⟩), sv ((aget lm x4).getD nilV), vd, .int .i64 lim]) rfl (closureC_c hdl hdk (by have := hG.len x4; omega) hF ((((hB0.mono hIm).mono hJ49).mono hI10).mono hIc) ((((Rd.mono hIm).mono hJ49).mono hI10).mono hIc) M)) rfl rfl ?_
   rintro _ w9 ⟨b55, K55, rfl, ⟨hn55, hl55, hK55⟩, M⟩
   refine wl_as M rfl rfl ?_
   refine wl_nil ?_
   obtain ⟨I55, M, hI55, R55⟩ := M.frzMp 0 rfl
   have hoI55 := M.old
   refine wc_seq ?_
   refine wc_region ?_
   refine wl_mv M rfl rfl ?_
   refine wl_m M (q_lenMI R55 Tryz.underlying60 rfl) rfl rfl ?_
   refine wl_m M (q_gtr rfl rfl) rfl rfl ?_
   refine wl_nil ?_
   refine wc_dec rfl (fun ht58 => ?_) (fun ht58 => ?_)
   ·have hez := enc_sz x4
    have hK0 : 0 < K55.length := by rw [show (tr K55).length = K55.length from by simp [tr]] at ht58; omega
    have hKn : ∀ r ∈ ys.take (k4 + 1), (∀ c, c ∈ extC Kf x4 K55 r ↔ Clo (bnet a b xs zs) dist lim ((aget g_17_0 r).getD []) c) := fun r hr => by
      rw [take_snoc hx4] at hr
      rcases List.mem_append.1 hr with h | h
      · rw [extC, if_neg (fun e : r = x4 => hnew (e ▸ h))]; exact hKf r h
      · rw [List.mem_singleton.1 h, extC, if_pos rfl]; exact hK55
    have hKm : ∀ r ∈ ys.take (k4 + 1), (extC Kf x4 K55 r).length ≤ 42025 := fun r hr => by
      rw [take_snoc hx4] at hr
      rcases List.mem_append.1 hr with h | h
      · rw [extC, if_neg (fun e : r = x4 => hnew (e ▸ h))]; exact hKl r h
      · rw [List.mem_singleton.1 h, extC, if_pos rfl]; exact hl55
    refine wc_region ?_
    refine wl_mv M rfl rfl ?_
    refine wl_m M (q_fa fo_66_0 rfl) rfl rfl ?_
    refine wl_m M (q_ldb 2 Tryz.underlying9 rfl rfl rfl rfl) rfl rfl ?_
    refine wl_mv M rfl rfl ?_
    refine wl_m M (q_cvI (by rw [Tryz.underlying21]; rfl) Tryz.underlying9 rfl) rfl rfl ?_
    refine wl_m M (q_addS rfl rfl (by omega)) rfl rfl ?_
    refine wl_mv M rfl rfl ?_
    refine wl_m M (q_build (bd_66_0_1 _ _) ⟨⟨rfl, rfl⟩, ⟨rfl, rfl⟩, trivial⟩) rfl rfl ?_
    refine wl_e (e_bsI (E := ECPre) (xs := [CPre.mk (tx ++ Utf8.encode x4) b55]) M (bs_67_1 _ _) ⟨⟨rfl, rfl⟩, trivial⟩ rfl rfl (by decide)) rfl rfl ?_
    rintro _ w10 ⟨u67, J67, rfl, hJ67, R67, M⟩
    have hoJ67 := M.old
    refine wl_e (e_app 0 M rfl R67 Tryz.underlying67 rfl rfl (by have := hP.len; have h2 : (qsC txt (ys.take k4) Kf).length ≤ ys.length := qsC_len; show (_ + 1) * 24 ≤ _; omega)) rfl rfl ?_
    rintro _ w11 ⟨u68, rfl, M⟩
    replace M := M.less hJ67 hoI55
    try simp only [sC0, sCS] at M
    refine wl_as M rfl rfl ?_
    refine wl_nil ?_
    refine wc_region ?_
    refine wl_m M (q_add rfl rfl (IntWalk.i64_in _ (by omega))) rfl rfl ?_
    refine wl_mv M rfl rfl ?_
    refine wl_nil ?_
    refine ⟨(I55, k4 + 1, extC Kf x4 K55, u68, l_13_4 ++ [CPre.mk (tx ++ Utf8.encode x4) b55]), ?_, ⟨(hle.trans hIc hI55), (by omega), (by rw [take_snoc hx4, qsC_yes hnew hK0]; exact (CPres.mono hI55 hP).snoc ⟨by show tx ++ Utf8.encode x4 = _; rw [htx, strL_snoc], R55⟩), hKn, hKm, M⟩, ⟨rfl, rfl, trivial⟩, unw_look rfl unw_base⟩
    show ys.length - (k4 + 1) < ys.length - k4
    omega
   have hK0 : ¬ 0 < K55.length := by rw [show (tr K55).length = K55.length from by simp [tr]] at ht58; omega
   have hKn : ∀ r ∈ ys.take (k4 + 1), (∀ c, c ∈ extC Kf x4 K55 r ↔ Clo (bnet a b xs zs) dist lim ((aget g_17_0 r).getD []) c) := fun r hr => by
     rw [take_snoc hx4] at hr
     rcases List.mem_append.1 hr with h | h
     · rw [extC, if_neg (fun e : r = x4 => hnew (e ▸ h))]; exact hKf r h
     · rw [List.mem_singleton.1 h, extC, if_pos rfl]; exact hK55
   have hKm : ∀ r ∈ ys.take (k4 + 1), (extC Kf x4 K55 r).length ≤ 42025 := fun r hr => by
     rw [take_snoc hx4] at hr
     rcases List.mem_append.1 hr with h | h
     · rw [extC, if_neg (fun e : r = x4 => hnew (e ▸ h))]; exact hKl r h
     · rw [List.mem_singleton.1 h, extC, if_pos rfl]; exact hl55
   refine wc_skip ?_
   refine wc_region ?_
   refine wl_m M (q_add rfl rfl (IntWalk.i64_in _ (by omega))) rfl rfl ?_
   refine wl_mv M rfl rfl ?_
   refine wl_nil ?_
   refine ⟨(I55, k4 + 1, extC Kf x4 K55, u_13_4, l_13_4), ?_, ⟨(hle.trans hIc hI55), (by omega), (by rw [take_snoc hx4, qsC_no hnew hK0]; exact CPres.mono hI55 hP), hKn, hKm, M⟩, ⟨rfl, rfl, trivial⟩, unw_look rfl unw_base⟩
   show ys.length - (k4 + 1) < ys.length - k4
   omega
  have hke4 : k4 = ys.length := by omega
  rw [hke4, List.take_length] at hP hKf hKl
  refine wc_exit rfl ?_
  refine wc_seq ?_
  refine wc_region ?_
  refine wl_mv M rfl rfl ?_
  refine wl_as M rfl rfl ?_
  refine wl_nil ?_
  refine wc_ret ?_
  obtain ⟨K1, M, hK1, Rk1⟩ := M.frzRow 0 rfl
  exact out1 rfl rfl ⟨_, K1, rfl, (M.grow : Grow w I _ K1), _, ys, (fun r => (aget g_17_0 r).getD []), Kf, ⟨hys, fun r => by rw [hyg.mem_iff]; exact hkg r, fun r d => by rw [hG.mem, hls]; exact ⟨fun ⟨p, hp, h2⟩ => by
        obtain ⟨c, hc, e⟩ := List.mem_map.1 (hdn.mem_iff.1 hp)
        exact ⟨c, hc, by rw [← e] at h2; exact h2⟩, fun ⟨c, hc, h⟩ => ⟨(c, true), hdn.mem_iff.2 (List.mem_map.2 ⟨c, hc, rfl⟩), h⟩⟩, hKf⟩, ⟨hKl, hyl⟩, Rk1, CPres.mono hK1 hP⟩
 simp only [sC0, sCS] at M
 refine wl_m M (q_ext rfl rfl) rfl rfl ?_
 refine wl_nil ?_
 refine wc_seq ?_
 refine wc_true rfl ?_
 have hc20 : p20.1 ∈ cs := by obtain ⟨c, hc, e⟩ := List.mem_map.1 hpi3; rw [← e]; exact hc
 have htl : (tr cs).length = cs.length := by simp [tr]
 refine wc_skip ?_
 refine wc_block ?_
 refine wc_seq ?_
 refine wc_region ?_
 refine wl_m M (q_ent (Q := QConfig) (V := Value.bool) 0 (fun w M => M.imm _ _ (Rs).at_) rfl rfl) rfl rfl ?_
 refine wl_m M (q_ext rfl rfl) rfl rfl ?_
 refine wl_e (e_alloc M z63) rfl rfl ?_
 rintro _ w12 ⟨b10, rfl, M⟩
 refine wl_e0 (e_stW 0 M rfl rfl rfl sz63 rfl rfl) rfl ?_
 intro _ w13 M
 try simp only [sC0, sCS] at M
 refine wl_nil ?_
 refine wc_seq ?_
 refine wc_region ?_
 refine wl_mv M rfl rfl ?_
 refine wl_m M (q_ldbA 0 Tryz.underlying63 rfl sz63 rfl rfl rfl rfl) rfl rfl ?_
 refine wl_e (e_callC M (spokenX_c hF (hcs p20.1 hc20) M.imm hB0) Tryz.func38 rfl rfl) rfl rfl ?_
 rintro v27 w14 ⟨J27, hJ27, Rg27, M⟩
 obtain ⟨lm27, Rl27, hlk27, hlr27⟩ := Rg27.opn (grp_nodup _ _ _)
 have hlm27 : lm27.length ≤ 12 := by have := hF.keys p20.1; rw [← hlk27, List.length_map] at this; exact this
 have hsp27 := hF.spk p20.1
 have hoJ27 := M.old
 refine wl_e (e_rngI M Rl27 Tryz.underlying83 rfl) rfl rfl ?_
 rintro _ w15 ⟨r28, mb28, rfl, rfl, M⟩
 refine wl_nil ?_
 refine wc_block ?_
 refine wc_loop (α := (List (Int × Config)) × (List (Int × SV)) × (List SV) × (List (Int × List Config))) [11, 12, 29, 30, 31, 32, 33, 34, 35, 36, 37, 38, 39, 40] (fun ((ls2, dn_28_2, us_17_2, g_17_2) : (List (Int × Config)) × (List (Int × SV)) × (List SV) × (List (Int × List Config))) => [])
   (fun ((ls2, dn_28_2, us_17_2, g_17_2) : (List (Int × Config)) × (List (Int × SV)) × (List SV) × (List (Int × List Config))) w' => (Gs g_17_2 ls2) ∧ (∀ r d, (r, d) ∈ ls2 ↔ (r, d) ∈ ls ∨ ∃ p ∈ dn_28_2, p.1 = r ∧ d ∈ (aget (grp (fun e : Int × Config => e.1) (fun e : Int × Config => e.2) (spkL a b xs zs p20.1)) p.1).getD []) ∧ (ls2.length ≤ ls.length + dn_28_2.length * 144) ∧ Mem w I J27 (itr r28 mb28 lm27 dn_28_2 :: box b10 63 [.int .i64 p20.1.p, .int .i64 p20.1.i, .int .i64 p20.1.q, .int .i64 p20.1.j] :: itr r20 bs (tr cs) (dn_20_0 ++ [p20]) :: gmap QRune EConfig b17 us_17_2 us_17_2 g_17_2 :: box b5 66 [.string tx, (.map (some bs))] :: []) w')
   (fun ((ls2, dn_28_2, us_17_2, g_17_2) : (List (Int × Config)) × (List (Int × SV)) × (List SV) × (List (Int × List Config))) => lm27.length - dn_28_2.length) (ls, [], us_17_0, g_17_0) trivial ?_ ?_
 ·refine ⟨hG, (by simp), (by simp), ?_⟩
  exact M
 rintro ⟨ls2, dn_28_2, us_17_2, g_17_2⟩ jj2 w16 ⟨hG2, hls2, hll2, M⟩
 have hoJ27 := M.old
 refine wc_seq ?_
 refine wc_region ?_
 refine wl_e (e_nx (Q := QRune) (V := sv) 0 M (M.imm _ _ (Rl27).at_) rfl rfl) rfl rfl ?_
 rintro _ w17 (⟨rfl, hpm6, M⟩ | ⟨p28, hpi6, hpl6, rfl, M⟩)
 ·refine wl_m M (q_ext rfl rfl) rfl rfl ?_
  refine wl_nil ?_
  refine wc_seq ?_
  refine wc_false rfl ?_
  refine wc_exit rfl ?_
  replace M := M.less hJ27 (fun _ _ => rfl)
  replace M := M.drop 0
  replace M := M.drop 0
  refine ⟨(ls2, dn_20_0 ++ [p20], us_17_2, g_17_2), ?_, ⟨hG2, (fun r d => by rw [hls2, hls, gs_all hlk27 hpm6]; simp only [List.mem_append, List.mem_singleton]; exact ⟨fun h => h.elim (fun ⟨p, h1, h2⟩ => ⟨p, .inl h1, h2⟩) (fun h => ⟨p20, .inr rfl, h⟩), fun ⟨p, h1, h2⟩ => h1.elim (fun h1 => .inl ⟨p, h1, h2⟩) (fun h1 => .inr (by rw [h1] at h2; exact h2))⟩), (by rw [List.length_append, List.length_singleton]; have := hpm6.length_eq; omega), M⟩, trivial, unw_look rfl (unw_hav rfl (unw_look rfl unw_base))⟩
  show (tr cs).length - (dn_20_0 ++ [p20]).length < (tr cs).length - dn_20_0.length
  rw [List.length_append, List.length_singleton]; omega
 simp only [sC0, sCS] at M
 refine wl_m M (q_ext rfl rfl) rfl rfl ?_
 refine wl_nil ?_
 refine wc_seq ?_
 refine wc_true rfl ?_
 refine wc_skip ?_
 refine wc_block ?_
 refine wc_seq ?_
 refine wc_region ?_
 refine wl_m M (q_ent (Q := QRune) (V := sv) 0 (fun w M => M.imm _ _ (Rl27).at_) rfl rfl) rfl rfl ?_
 refine wl_m M (q_ext rfl rfl) rfl rfl ?_
 refine wl_m M (q_ext rfl rfl) rfl rfl ?_
 refine wl_as M rfl rfl ?_
 refine wl_as M rfl rfl ?_
 refine wl_nil ?_
 obtain ⟨us40, j40, u40, hu40, hg40, hs40, hlk40, hup40, M⟩ := M.gmReady 3 rfl p28.1
 simp only [sC0, sCS] at M
 have hgl40 := M.gmVs (i := 3) rfl
 refine wc_region ?_
 refine wl_mv M rfl rfl ?_
 refine wl_mv M rfl rfl ?_
 refine wl_mv M rfl rfl ?_
 refine wl_mv M rfl rfl ?_
 refine wl_m M (q_lkgS (k := p28.1) (fun w M => M.gmAt (i := 3) rfl) hlk40 Tryz.underlying83 zv64 rfl rfl) rfl rfl ?_
 refine wl_mv M rfl rfl ?_
 refine wl_e (e_gapp 3 j40 M rfl Tryz.underlying64 hu40 hg40 rfl rfl (hlr27 p28 hpi6) (by have h1 := hG2.len p28.1; have h2 := grp_look_len (fun e : Int × Config => e.1) (fun e : Int × Config => e.2) p28.1 (spkL a b xs zs p20.1); show (_ + _) * 32 ≤ _; omega)) rfl rfl ?_
 rintro _ w18 ⟨u40, rfl, M⟩
 try simp only [sC0, sCS] at M
 refine wl_e0 (e_gmu (k := p28.1) (u := u40) (os' := us40.set j40 u40) 3 M rfl rfl (by rw [gk_set hg40]; exact hup40 _) (by rw [List.length_set, List.length_set]; exact Nat.le_of_eq hgl40) Tryz.underlying83 rfl rfl rfl) rfl ?_
 intro _ w19 M
 rw [hs40] at M
 try simp only [sC0, sCS] at M
 refine wl_nil ?_
 refine ⟨(ls2 ++ ((aget (grp (fun e : Int × Config => e.1) (fun e : Int × Config => e.2) (spkL a b xs zs p20.1)) p28.1).getD []).map (fun d_ => (p28.1, d_)), dn_28_2 ++ [p28], us40.set j40 u40, aput g_17_2 p28.1 ((aget g_17_2 p28.1).getD [] ++ (aget (grp (fun e : Int × Config => e.1) (fun e : Int × Config => e.2) (spkL a b xs zs p20.1)) p28.1).getD [])), ?_, ⟨(hG2.add (gs_ne hlk27 hpi6)), (gs_step (f := fun q_ => (aget (grp (fun e : Int × Config => e.1) (fun e : Int × Config => e.2) (spkL a b xs zs p20.1)) q_.1).getD []) hls2), (by rw [List.length_append, List.length_append, List.length_map, List.length_singleton]; have h2 := grp_look_len (fun e : Int × Config => e.1) (fun e : Int × Config => e.2) p28.1 (spkL a b xs zs p20.1); omega), M⟩, trivial, unw_look rfl unw_base⟩
 show lm27.length - (dn_28_2 ++ [p28]).length < lm27.length - dn_28_2.length
 rw [List.length_append, List.length_singleton]; omega
end Go.Proofs.YtmjieefhjmiagaaGreatDoor.G
