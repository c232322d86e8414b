/- Walks of the program's functions. -/
import Derived.Test.YtmjieefhjmiagaaGreatDoorGMiw
set_option linter.all false
namespace Go.Proofs.YtmjieefhjmiagaaGreatDoor.G
open Go Go.RowKit
theorem add_c {w0 w : World} {I0 I : Heap} {Lt : List Res} {bb bbm bk bkm bq : Nat} {us : List SV} {g : List (Config × List Lnk)} {l : List (Config × Bool)} {uq : SV} {qs : List Config} (src dst : Config) (k : Int) (hg : ((aget g dst).getD []).length ≤ 1099511627776) (hq : qs.length ≤ 1099511627776) (M : Mem w0 I0 I (box bb 132 [.map (some bbm)] :: gmap QConfig ELnk bbm us us g :: box bk 60 [.map (some bkm)] :: mpr QConfig Value.bool bkm l :: box bq 64 [sv uq] :: row EConfig (sv uq) qs :: Lt) w) :
    Calls A 64 #[EConfig.val src, EConfig.val dst, .int .i64 k, .pointer (some ⟨bb, 0, none⟩), .pointer (some ⟨bk, 0, none⟩), .pointer (some ⟨bq, 0, none⟩)] w (fun e w' => ∃ v, e = .returned v ∧ ∃ (us' : List SV) (uq' : SV), Mem w0 I0 I (box bb 132 [.map (some bbm)] :: gmap QConfig ELnk bbm us' us' (aput g dst ((aget g dst).getD [] ++ [⟨src, k⟩])) :: box bk 60 [.map (some bkm)] :: mpr QConfig Value.bool bkm (addK l dst) :: box bq 64 [sv uq'] :: row EConfig (sv uq') (addQ l qs dst) :: Lt) w') := by
 have hoI := M.old
 refine enter Tryz.func64 rfl 29 Tryz.ntmps64 [_, _, _, _, _, _] rfl ?_
 refine wc_seq ?_
 refine wc_region ?_
 refine wl_e (e_box M rfl) rfl rfl ?_
 rintro _ w1 ⟨b6, rfl, M⟩
 refine wl_e (e_box M rfl) rfl rfl ?_
 rintro _ w2 ⟨b7, rfl, M⟩
 refine wl_nil ?_
 refine wc_seq ?_
 refine wc_region ?_
 refine wl_m M (q_ldb 2 Tryz.underlying132 rfl rfl rfl rfl) rfl rfl ?_
 refine wl_m M (q_ldbA 0 Tryz.underlying63 rfl sz63 rfl rfl rfl rfl) rfl rfl ?_
 refine wl_m M (q_ldbA 1 Tryz.underlying63 rfl sz63 rfl rfl rfl rfl) rfl rfl ?_
 refine wl_mv M rfl rfl ?_
 refine wl_m M (q_build (bd_135_0_1 _ _ _ _ _) ⟨⟨rfl, rfl⟩, ⟨rfl, rfl⟩, trivial⟩) rfl rfl ?_
 refine wl_e (e_bsI (E := ELnk) (xs := [Lnk.mk src k]) M (bs_133_1 _ _ _ _ _) ⟨⟨rfl, rfl⟩, trivial⟩ rfl rfl (by decide)) rfl rfl ?_
 rintro _ w3 ⟨u15, J15, rfl, hJ15, R15, M⟩
 have hoJ15 := M.old
 refine wl_e (e_gent (k := dst) 3 M rfl Tryz.underlying132 zv133 rfl rfl) rfl rfl ?_
 rintro _ w4 ⟨us16, j16, u16, rfl, hu16, hg16, hs16, M⟩
 simp only [sC0, sCS] at M
 refine wl_m M (q_ext rfl rfl) rfl rfl ?_
 refine wl_e (e_gapp 3 j16 M rfl Tryz.underlying133 hu16 hg16 rfl rfl R15 (by show (_ + 1) * 40 ≤ _; omega)) rfl rfl ?_
 rintro _ w5 ⟨u17, rfl, M⟩
 replace M := M.less hJ15 hoI
 simp only [sC0, sCS] at M
 refine wl_m M (q_ext rfl rfl) rfl rfl ?_
 refine wl_e0 (e_gst 3 j16 M rfl (by rw [List.length_set]; exact (List.getElem?_eq_some_iff.1 hg16).1) (List.getElem?_eq_some_iff.1 hu16).1 rfl rfl rfl) rfl ?_
 intro _ w6 M
 rw [hs16] at M
 simp only [sC0, sCS] at M
 refine wl_nil ?_
 refine wc_seq ?_
 refine wc_region ?_
 refine wl_m M (q_ldb 4 Tryz.underlying60 rfl rfl rfl rfl) rfl rfl ?_
 refine wl_m M (q_ldbA 0 Tryz.underlying63 rfl sz63 rfl rfl rfl rfl) rfl rfl ?_
 refine wl_m M (q_lk (k := dst) (z := false) 5 rfl Tryz.underlying60 zv4 rfl rfl) rfl rfl ?_
 refine wl_m M (q_not rfl) rfl rfl ?_
 refine wl_nil ?_
 refine wc_cond rfl (fun ht22 => ?_) (fun ht22 => ?_)
 ·refine wc_seq ?_
  refine wc_region ?_
  refine wl_m M (q_ldb 4 Tryz.underlying60 rfl rfl rfl rfl) rfl rfl ?_
  refine wl_m M (q_ldbA 0 Tryz.underlying63 rfl sz63 rfl rfl rfl rfl) rfl rfl ?_
  refine wl_e0 (e_mpu (k := dst) (v := true) 5 M rfl Tryz.underlying60 rfl rfl rfl) rfl ?_
  intro _ w7 M
  simp only [sC0, sCS] at M
  refine wl_nil ?_
  refine wc_region ?_
  refine wl_m M (q_ldb 6 Tryz.underlying64 rfl rfl rfl rfl) rfl rfl ?_
  refine wl_m M (q_ldbA 0 Tryz.underlying63 rfl sz63 rfl rfl rfl rfl) rfl rfl ?_
  refine wl_e (e_bsI (E := EConfig) (xs := [dst]) M (bs_64_1 _ _ _ _) ⟨⟨rfl, rfl⟩, trivial⟩ rfl rfl (by decide)) rfl rfl ?_
  rintro _ w8 ⟨u27, J27, rfl, hJ27, R27, M⟩
  have hoJ27 := M.old
  refine wl_e (e_app 7 M rfl R27 Tryz.underlying64 rfl rfl (by show (_ + 1) * 32 ≤ _; omega)) rfl rfl ?_
  rintro _ w9 ⟨u28, rfl, M⟩
  replace M := M.less hJ27 hoI
  simp only [sC0, sCS] at M
  refine wl_e0 (e_stW 6 M rfl rfl rfl sz64 rfl rfl) rfl ?_
  intro _ w10 M
  simp only [sC0, sCS] at M
  refine wl_nil ?_
  replace M := M.drop 0
  replace M := M.drop 0
  have hl22 : (aget l dst).getD false = false := by simpa using ht22
  rw [addK_new hl22, addQ_new hl22]
  exact out0 rfl ⟨_, rfl, _, _, M⟩
 refine wc_skip ?_
 replace M := M.drop 0
 replace M := M.drop 0
 have hl22 : (aget l dst).getD false = true := by simpa using ht22
 rw [addK_old hl22, addQ_old hl22]
 exact out0 rfl ⟨_, rfl, _, _, M⟩
end Go.Proofs.YtmjieefhjmiagaaGreatDoor.G
