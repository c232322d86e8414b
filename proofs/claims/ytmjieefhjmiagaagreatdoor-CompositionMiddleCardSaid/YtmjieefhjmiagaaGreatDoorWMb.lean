/- Walks of the program's functions. -/
import Derived.Test.YtmjieefhjmiagaaGreatDoorWMa
set_option linter.all false
namespace Go.Proofs.YtmjieefhjmiagaaGreatDoor.G
open Go Go.RowKit
set_option maxRecDepth 4000 in
set_option maxHeartbeats 1000000 in
theorem distancesC_c {a b : Tra} {fu1 au1 fu2 au2 ux uz uf ut : SV} {xs zs : List Int} {m n sb : Nat} {I : Heap} {w : World} (hI : hle I (hp w)) (hF : FewB a b xs zs m n) (hB0 : BtwH I sb m n a b xs zs fu1 au1 fu2 au2 ux uz uf ut) :
    Calls A 26 #[.pointer (some ⟨sb, 0, none⟩)] w (Ret w I fun r I' => ∃ dist : List (Config × Int), rdMp QConfig (Value.int .i64) I' r dist ∧ DistOk (bnet a b xs zs) ⟨a.start, 0, b.start, 0⟩ dist ∧ dist.length ≤ 42025 ∧ ∀ c k, okD dist c k = true → c ∈ rect4 m xs.length n zs.length) := by
 have hB1 := hB0
 obtain ⟨Hs, Rf1, Rf2, Rx, Rz, Rm1, Rm2⟩ := hB1
 have hU := hF.rect
 have hcr := cfg_rect hF.1 hF.2.1 (xs := xs) (zs := zs)
 have M := Mem.start hI
 refine enter Tryz.func26 rfl 137 Tryz.ntmps26 [_] rfl ?_
 refine wc_seq ?_
 refine wc_region ?_
 refine wl_as M rfl rfl ?_
 refine wl_nil ?_
 refine wc_seq ?_
 refine wc_draws (fun w' => Mem w I I ([]) w' ∧ True) [12] fol ?_
 replace M := M.drew
 have hS := (⟨M, trivial⟩ : _ ∧ _)
 refine wa_q 0 rfl (by kernel_rfl) (q_move rfl) hS rfl rfl ?_
 refine wa_q 1 rfl (by kernel_rfl) (q_nilCheck rfl) hS rfl rfl ?_
 refine wa_q 2 rfl (by kernel_rfl) (q_fa fo_131_0 rfl) hS rfl rfl ?_
 refine wa_q 3 rfl (by kernel_rfl) (q_fa fo_25_1 rfl) hS rfl rfl ?_
 refine wa_q 4 rfl (by kernel_rfl) ((q_ldbI Hs Tryz.underlying3 rfl rfl rfl).mono fun _ h => h.1) hS rfl rfl ?_
 refine wa_q 5 rfl (by kernel_rfl) (q_move rfl) hS rfl rfl ?_
 refine wa_q 6 rfl (by kernel_rfl) (q_nilCheck rfl) hS rfl rfl ?_
 refine wa_q 7 rfl (by kernel_rfl) (q_fa fo_131_1 rfl) hS rfl rfl ?_
 refine wa_q 8 rfl (by kernel_rfl) (q_fa fo_25_1 rfl) hS rfl rfl ?_
 refine wa_q 9 rfl (by kernel_rfl) ((q_ldbI Hs Tryz.underlying3 rfl rfl rfl).mono fun _ h => h.1) hS rfl rfl ?_
 refine wa_q 10 rfl (by kernel_rfl) (q_build (bd_63_0_2 _ _) ⟨⟨rfl, rfl⟩, ⟨rfl, rfl⟩, trivial⟩) hS rfl rfl ?_
 refine wa_e 11 rfl (by kernel_rfl) (e_alloc M z63) rfl rfl ?_
 rintro _ w1 ⟨b3, rfl, M⟩
 have hS := (⟨(M.drop 0), trivial⟩ : _ ∧ _)
 refine ⟨fun _ => hS, ?_⟩
 refine wa_e0 12 rfl (by kernel_rfl) (e_stW 0 M rfl rfl rfl sz63 rfl rfl) rfl ?_
 intro _ w2 M
 simp only [sC0, sCS] at M
 refine ⟨nofun, ?_⟩
 refine wa_done (by kernel_rfl) ?_
 refine wc_seq ?_
 refine wc_region ?_
 refine wl_e (e_mkm QConfig Value.bool M) rfl rfl ?_
 rintro _ w3 ⟨b35, rfl, M⟩
 refine wl_m M (q_ldbA 1 Tryz.underlying63 rfl sz63 rfl rfl rfl rfl) rfl rfl ?_
 refine wl_e0 (e_mpi (k := (Config.mk a.start 0 b.start 0)) (v := true) 0 M rfl Tryz.underlying60 rfl rfl rfl) rfl ?_
 intro _ w4 M
 simp only [sC0, sCS] at M
 refine wl_mv M rfl rfl ?_
 refine wl_e (e_alloc M z60) rfl rfl ?_
 rintro _ w5 ⟨b4, rfl, M⟩
 refine wl_e0 (e_stW 0 M rfl rfl rfl sz60 rfl rfl) rfl ?_
 intro _ w6 M
 simp only [sC0, sCS] at M
 refine wl_nil ?_
 refine wc_seq ?_
 refine wc_region ?_
 refine wl_m M (q_ldbA 2 Tryz.underlying63 rfl sz63 rfl rfl rfl rfl) rfl rfl ?_
 refine wl_e (e_bsR (E := EConfig) (xs := [(Config.mk a.start 0 b.start 0)]) M (bs_64_1 _ _ _ _) ⟨⟨rfl, rfl⟩, trivial⟩ rfl rfl (by decide)) rfl rfl ?_
 rintro _ w7 ⟨u39, rfl, M⟩
 refine wl_e (e_alloc M z64) rfl rfl ?_
 rintro _ w8 ⟨b5, rfl, M⟩
 refine wl_e0 (e_stW 0 M rfl rfl rfl sz64 rfl rfl) rfl ?_
 intro _ w9 M
 simp only [sC0, sCS] at M
 refine wl_nil ?_
 refine wc_seq ?_
 refine wc_region ?_
 refine wl_e (e_mkm QConfig sv M) rfl rfl ?_
 rintro _ w10 ⟨b40, rfl, M⟩
 replace M := M.toGm 0 ELnk rfl
 simp only [sC0, sCS] at M
 refine wl_e (e_alloc M z132) rfl rfl ?_
 rintro _ w11 ⟨b6, rfl, M⟩
 refine wl_e0 (e_stW 0 M rfl rfl rfl sz132 rfl rfl) rfl ?_
 intro _ w12 M
 simp only [sC0, sCS] at M
 refine wl_nil ?_
 refine wc_seq ?_
 refine wc_region ?_
 refine wl_e (e_mkm QConfig (Value.int .i64) M) rfl rfl ?_
 rintro _ w13 ⟨b41, rfl, M⟩
 refine wl_as M rfl rfl ?_
 refine wl_nil ?_
 refine wc_seq ?_
 refine wc_region ?_
 refine wl_as M rfl rfl ?_
 replace M := M.nilRow EConfig
 refine wl_nil ?_
 refine wc_seq ?_
 refine wc_region ?_
 refine wl_m M (q_makeFunc (vs := [.pointer (some ⟨b6, 0, none⟩), .pointer (some ⟨b4, 0, none⟩), .pointer (some ⟨b5, 0, none⟩)]) rfl) rfl rfl ?_
 refine wl_as M rfl rfl ?_
 refine wl_nil ?_
 refine wc_seq ?_
 refine wc_block ?_
 refine wc_loop (α := (List Config) × (List (Config × Lnk)) × SV × (List Config) × (List (Config × Bool)) × (List SV) × (List (Config × List Lnk)) × SV × (List Config)) [8, 10, 12, 14, 16, 43, 44, 45, 46, 47, 48, 49, 50, 51, 52, 53, 54, 55, 56, 57, 58, 59, 60, 61, 62, 63, 64, 65, 66, 67, 68, 69, 70, 71, 72, 73, 74, 75, 76, 77, 78, 79, 80, 81, 82, 83, 84, 85, 86, 87, 88, 89] (fun ((vs, ev, u_39_0, l_39_0, m_35_0, us_40_0, g_40_0, u_8_0, l_8_0) : (List Config) × (List (Config × Lnk)) × SV × (List Config) × (List (Config × Bool)) × (List SV) × (List (Config × List Lnk)) × SV × (List Config)) => [(8, sv u_8_0)])
   (fun ((vs, ev, u_39_0, l_39_0, m_35_0, us_40_0, g_40_0, u_8_0, l_8_0) : (List Config) × (List (Config × Lnk)) × SV × (List Config) × (List (Config × Bool)) × (List SV) × (List (Config × List Lnk)) × SV × (List Config)) w' => (Bfs (cfgN a b xs zs) (· = Config.mk a.start 0 b.start 0) vs l_39_0) ∧ (m_35_0 = tr (vs ++ l_39_0)) ∧ (g_40_0 = grp (fun e : Config × Lnk => e.1) (fun e : Config × Lnk => e.2) ev) ∧ (EvOk a b xs zs vs ev) ∧ (ev.length ≤ vs.length * 1752) ∧ (l_8_0 = vs.filter (doneB a b xs zs)) ∧ Mem w I I (row EConfig (sv u_8_0) l_8_0 :: mpr QConfig (Value.int .i64) b41 [] :: box b6 132 [.map (some b40)] :: gmap QConfig ELnk b40 us_40_0 us_40_0 g_40_0 :: box b5 64 [sv u_39_0] :: row EConfig (sv u_39_0) l_39_0 :: box b4 60 [.map (some b35)] :: mpr QConfig Value.bool b35 m_35_0 :: box b3 63 [.int .i64 a.start, .int .i64 0, .int .i64 b.start, .int .i64 0] :: []) w')
   (fun ((vs, ev, u_39_0, l_39_0, m_35_0, us_40_0, g_40_0, u_8_0, l_8_0) : (List Config) × (List (Config × Lnk)) × SV × (List Config) × (List (Config × Bool)) × (List SV) × (List (Config × List Lnk)) × SV × (List Config)) => (rect4 m xs.length n zs.length).length - vs.length) ([], [], u39, [(Config.mk a.start 0 b.start 0)], aput [] (Config.mk a.start 0 b.start 0) true, [], [], nilV, []) ⟨rfl, trivial⟩ ?_ ?_
 ·refine ⟨Bfs.init _ _, rfl, rfl, evOk_nil, (by simp), rfl, ?_⟩
  exact M
 rintro ⟨vs, ev, u_39_0, l_39_0, m_35_0, us_40_0, g_40_0, u_8_0, l_8_0⟩ jj0 w14 ⟨hB, hm, hg, hE, hev, hn, M⟩
 refine wc_seq ?_
 refine wc_seq ?_
 refine wc_region ?_
 refine wl_m M (q_ldb 4 Tryz.underlying64 rfl rfl rfl rfl) rfl rfl ?_
 refine wl_m M (q_lenr 5 M rfl Tryz.underlying64 rfl) rfl rfl ?_
 refine wl_m M (q_gtr rfl rfl) rfl rfl ?_
 refine wl_nil ?_
 refine wc_dec rfl (fun ht45 => ?_) (fun ht45 => ?_)
 ·obtain ⟨c9, qs9, hq⟩ : ∃ (x : Config) (qs : List Config), l_39_0 = x :: qs := by
    cases l_39_0 with
    | nil => simp at ht45
    | cons x qs => exact ⟨x, qs, rfl⟩
  have hc9 := hcr c9 (hB.reach c9 (by rw [hq]; simp))
  have hc9n : c9 ∉ vs := fun h => by
    have := hB.nodup
    rw [hq, List.nodup_append] at this
    exact this.2.2 c9 h c9 (by simp) rfl
  have hvl := hB.len hcr
  have hsl := hF.sil c9
  refine wc_skip ?_
  refine wc_block ?_
  refine wc_seq ?_
  refine wc_region ?_
  refine wl_m M (q_ldb 4 Tryz.underlying64 rfl rfl rfl rfl) rfl rfl ?_
  refine wl_ixr (j := 0) 5 M rfl Tryz.underlying64 rfl rfl (by rw [hq]; rfl) rfl (fun b47 o47 p47 => ?_)
  refine wl_m M (q_ldp p47 rfl rfl) rfl rfl ?_
  refine wl_e (e_alloc M z63) rfl rfl ?_
  rintro _ w15 ⟨b10, rfl, M⟩
  refine wl_e0 (e_stW 0 M rfl rfl rfl sz63 rfl rfl) rfl ?_
  intro _ w16 M
  simp only [sC0, sCS] at M
  refine wl_nil ?_
  refine wc_seq ?_
  refine wc_region ?_
  refine wl_m M (q_ldb 5 Tryz.underlying64 rfl rfl rfl rfl) rfl rfl ?_
  refine wl_e (e_cut (k := 1) 6 M rfl Tryz.underlying64 rfl rfl (by omega)) rfl rfl ?_
  rintro _ w17 ⟨u50, rfl, M⟩
  simp only [sC0, sCS] at M
  refine wl_e0 (e_stW 5 M rfl rfl rfl sz64 rfl rfl) rfl ?_
  intro _ w18 M
  simp only [sC0, sCS] at M
  refine wl_nil ?_
  refine wc_seq ?_
  refine wc_seq ?_
  refine wc_region ?_
  refine wl_mv M rfl rfl ?_
  refine wl_m M (q_ldbA 0 Tryz.underlying63 rfl sz63 rfl rfl rfl rfl) rfl rfl ?_
  refine wl_e (e_callC M (doneX_c (c := c9) M.imm hB0) Tryz.func28 rfl rfl) rfl rfl ?_
  rintro _ w19 ⟨J53, hJ53, rfl, M⟩
  replace M := M.less hJ53 (fun _ _ => rfl)
  refine wl_nil ?_
  refine wc_cond rfl (fun ht53 => ?_) (fun ht53 => ?_)
  ·refine wc_region ?_
   refine wl_mv M rfl rfl ?_
   refine wl_m M (q_ldbA 0 Tryz.underlying63 rfl sz63 rfl rfl rfl rfl) rfl rfl ?_
   refine wl_e (e_bsI (E := EConfig) (xs := [c9]) M (bs_64_1 _ _ _ _) ⟨⟨rfl, rfl⟩, trivial⟩ rfl rfl (by decide)) rfl rfl ?_
   rintro _ w20 ⟨u56, J56, rfl, hJ56, R56, M⟩
   have hoJ56 := M.old
   refine wl_e (e_app 1 M rfl R56 Tryz.underlying64 rfl rfl (by rw [hn]; have := List.length_filter_le (doneB a b xs zs) vs; show (_ + 1) * 32 ≤ _; omega)) rfl rfl ?_
   rintro _ w21 ⟨u57, rfl, M⟩
   replace M := M.less hJ56 (fun _ _ => rfl)
   simp only [sC0, sCS] at M
   refine wl_as M rfl rfl ?_
   refine wl_nil ?_
   refine wc_seq ?_
   refine wc_seq ?_
   refine wc_region ?_
   refine wl_mv M rfl rfl ?_
   refine wl_m M (q_ldbA 0 Tryz.underlying63 rfl sz63 rfl rfl rfl rfl) rfl rfl ?_
   refine wl_e (e_callO (val := sv) Tryz.func37 rfl (vs := [.pointer (some ⟨sb, 0, none⟩), .agg #[.int .i64 c9.p, .int .i64 c9.i, .int .i64 c9.q, .int .i64 c9.j]]) rfl (silentX_c hF hc9 M hB0)) rfl rfl ?_
   rintro _ w22 ⟨u60, rfl, M⟩
   refine wl_m M (q_lenr 0 M rfl Tryz.underlying64 rfl) rfl rfl ?_
   refine wl_mv M rfl rfl ?_
   refine wl_nil ?_
   refine wc_block ?_
   refine wc_loop (α := Nat × SV × (List Config) × (List (Config × Bool)) × (List SV) × (List (Config × List Lnk))) [12, 62, 63, 64, 65, 66, 67, 68, 69, 70] (fun ((k2, u_39_2, l_39_2, m_35_2, us_40_2, g_40_2) : Nat × SV × (List Config) × (List (Config × Bool)) × (List SV) × (List (Config × List Lnk))) => [(62, .int .i64 (k2 : Int))])
     (fun ((k2, u_39_2, l_39_2, m_35_2, us_40_2, g_40_2) : Nat × SV × (List Config) × (List (Config × Bool)) × (List SV) × (List (Config × List Lnk))) w' => (k2 ≤ (silL a b xs zs c9).length) ∧ (BfsIn (cfgN a b xs zs) (· = Config.mk a.start 0 b.start 0) vs c9 ((silL a b xs zs c9).take k2) l_39_2) ∧ (m_35_2 = tr (vs ++ c9 :: l_39_2)) ∧ (g_40_2 = grp (fun e : Config × Lnk => e.1) (fun e : Config × Lnk => e.2) (ev ++ ev0 c9 ((silL a b xs zs c9).take k2))) ∧ Mem w I I (row EConfig (sv u60) (silL a b xs zs c9) :: box b10 63 [.int .i64 c9.p, .int .i64 c9.i, .int .i64 c9.q, .int .i64 c9.j] :: row EConfig (sv u57) (l_8_0 ++ [c9]) :: mpr QConfig (Value.int .i64) b41 [] :: box b6 132 [.map (some b40)] :: gmap QConfig ELnk b40 us_40_2 us_40_2 g_40_2 :: box b5 64 [sv u_39_2] :: row EConfig (sv u_39_2) l_39_2 :: box b4 60 [.map (some b35)] :: mpr QConfig Value.bool b35 m_35_2 :: box b3 63 [.int .i64 a.start, .int .i64 0, .int .i64 b.start, .int .i64 0] :: []) w')
     (fun ((k2, u_39_2, l_39_2, m_35_2, us_40_2, g_40_2) : Nat × SV × (List Config) × (List (Config × Bool)) × (List SV) × (List (Config × List Lnk))) => (silL a b xs zs c9).length - k2) (0, u50, l_39_0.drop 1, m_35_0, us_40_0, g_40_0) ⟨rfl, trivial⟩ ?_ ?_
   ·refine ⟨Nat.zero_le _, (by have := hB; rw [hq] at this; rw [hq]; exact this.opn), (by rw [hm, hq]; rfl), (by rw [hg]; simp [ev0]), ?_⟩
    exact M
   rintro ⟨k2, u_39_2, l_39_2, m_35_2, us_40_2, g_40_2⟩ jj2 w23 ⟨hk2, hB2, hm2, hg2, M⟩
   have hql2 := hB2.len hcr
   refine wc_seq ?_
   refine wc_region ?_
   refine wl_m M (q_lss rfl rfl) rfl rfl ?_
   refine wl_nil ?_
   refine wc_seq ?_
   refine wc_dec rfl (fun ht63 => ?_) (fun ht63 => ?_)
   ·obtain ⟨x2, hx2⟩ : ∃ x_, (silL a b xs zs c9)[k2]? = some x_ := ⟨_, List.getElem?_eq_getElem (by omega)⟩
    refine wc_skip ?_
    refine wc_seq ?_
    refine wc_block ?_
    refine wc_seq ?_
    refine wc_region ?_
    refine wl_ixr (j := k2) 0 M rfl Tryz.underlying64 rfl rfl hx2 rfl (fun b64 o64 p64 => ?_)
    refine wl_m M (q_ldp p64 rfl rfl) rfl rfl ?_
    refine wl_e (e_alloc M z63) rfl rfl ?_
    rintro _ w24 ⟨b12, rfl, M⟩
    refine wl_e0 (e_stW 0 M rfl rfl rfl sz63 rfl rfl) rfl ?_
    intro _ w25 M
    simp only [sC0, sCS] at M
    refine wl_nil ?_
    refine wc_region ?_
    refine wl_mv M rfl rfl ?_
    refine wl_m M (q_ldbA 2 Tryz.underlying63 rfl sz63 rfl rfl rfl rfl) rfl rfl ?_
    refine wl_m M (q_ldbA 0 Tryz.underlying63 rfl sz63 rfl rfl rfl rfl) rfl rfl ?_
    replace M : Mem w I I (mpr QConfig (Value.int .i64) b41 [] :: box b12 63 [.int .i64 x2.p, .int .i64 x2.i, .int .i64 x2.q, .int .i64 x2.j] :: row EConfig (sv u60) (silL a b xs zs c9) :: box b10 63 [.int .i64 c9.p, .int .i64 c9.i, .int .i64 c9.q, .int .i64 c9.j] :: row EConfig (sv u57) (l_8_0 ++ [c9]) :: box b6 132 [.map (some b40)] :: gmap QConfig ELnk b40 us_40_2 us_40_2 g_40_2 :: box b5 64 [sv u_39_2] :: row EConfig (sv u_39_2) l_39_2 :: box b4 60 [.map (some b35)] :: mpr QConfig Value.bool b35 m_35_2 :: box b3 63 [.int .i64 a.start, .int .i64 0, .int .i64 b.start, .int .i64 0] :: []) w25 := M.perm (front_perm (i := 4) rfl).symm
    replace M : Mem w I I (row EConfig (sv u57) (l_8_0 ++ [c9]) :: mpr QConfig (Value.int .i64) b41 [] :: box b12 63 [.int .i64 x2.p, .int .i64 x2.i, .int .i64 x2.q, .int .i64 x2.j] :: row EConfig (sv u60) (silL a b xs zs c9) :: box b10 63 [.int .i64 c9.p, .int .i64 c9.i, .int .i64 c9.q, .int .i64 c9.j] :: box b6 132 [.map (some b40)] :: gmap QConfig ELnk b40 us_40_2 us_40_2 g_40_2 :: box b5 64 [sv u_39_2] :: row EConfig (sv u_39_2) l_39_2 :: box b4 60 [.map (some b35)] :: mpr QConfig Value.bool b35 m_35_2 :: box b3 63 [.int .i64 a.start, .int .i64 0, .int .i64 b.start, .int .i64 0] :: []) w25 := M.perm (front_perm (i := 4) rfl).symm
    replace M : Mem w I I (box b10 63 [.int .i64 c9.p, .int .i64 c9.i, .int .i64 c9.q, .int .i64 c9.j] :: row EConfig (sv u57) (l_8_0 ++ [c9]) :: mpr QConfig (Value.int .i64) b41 [] :: box b12 63 [.int .i64 x2.p, .int .i64 x2.i, .int .i64 x2.q, .int .i64 x2.j] :: row EConfig (sv u60) (silL a b xs zs c9) :: box b6 132 [.map (some b40)] :: gmap QConfig ELnk b40 us_40_2 us_40_2 g_40_2 :: box b5 64 [sv u_39_2] :: row EConfig (sv u_39_2) l_39_2 :: box b4 60 [.map (some b35)] :: mpr QConfig Value.bool b35 m_35_2 :: box b3 63 [.int .i64 a.start, .int .i64 0, .int .i64 b.start, .int .i64 0] :: []) w25 := M.perm (front_perm (i := 4) rfl).symm
    replace M : Mem w I I (row EConfig (sv u60) (silL a b xs zs c9) :: box b10 63 [.int .i64 c9.p, .int .i64 c9.i, .int .i64 c9.q, .int .i64 c9.j] :: row EConfig (sv u57) (l_8_0 ++ [c9]) :: mpr QConfig (Value.int .i64) b41 [] :: box b12 63 [.int .i64 x2.p, .int .i64 x2.i, .int .i64 x2.q, .int .i64 x2.j] :: box b6 132 [.map (some b40)] :: gmap QConfig ELnk b40 us_40_2 us_40_2 g_40_2 :: box b5 64 [sv u_39_2] :: row EConfig (sv u_39_2) l_39_2 :: box b4 60 [.map (some b35)] :: mpr QConfig Value.bool b35 m_35_2 :: box b3 63 [.int .i64 a.start, .int .i64 0, .int .i64 b.start, .int .i64 0] :: []) w25 := M.perm (front_perm (i := 4) rfl).symm
    replace M : Mem w I I (box b12 63 [.int .i64 x2.p, .int .i64 x2.i, .int .i64 x2.q, .int .i64 x2.j] :: row EConfig (sv u60) (silL a b xs zs c9) :: box b10 63 [.int .i64 c9.p, .int .i64 c9.i, .int .i64 c9.q, .int .i64 c9.j] :: row EConfig (sv u57) (l_8_0 ++ [c9]) :: mpr QConfig (Value.int .i64) b41 [] :: box b6 132 [.map (some b40)] :: gmap QConfig ELnk b40 us_40_2 us_40_2 g_40_2 :: box b5 64 [sv u_39_2] :: row EConfig (sv u_39_2) l_39_2 :: box b4 60 [.map (some b35)] :: mpr QConfig Value.bool b35 m_35_2 :: box b3 63 [.int .i64 a.start, .int .i64 0, .int .i64 b.start, .int .i64 0] :: []) w25 := M.perm (front_perm (i := 4) rfl).symm
    replace M : Mem w I I (row EConfig (sv u_39_2) l_39_2 :: box b12 63 [.int .i64 x2.p, .int .i64 x2.i, .int .i64 x2.q, .int .i64 x2.j] :: row EConfig (sv u60) (silL a b xs zs c9) :: box b10 63 [.int .i64 c9.p, .int .i64 c9.i, .int .i64 c9.q, .int .i64 c9.j] :: row EConfig (sv u57) (l_8_0 ++ [c9]) :: mpr QConfig (Value.int .i64) b41 [] :: box b6 132 [.map (some b40)] :: gmap QConfig ELnk b40 us_40_2 us_40_2 g_40_2 :: box b5 64 [sv u_39_2] :: box b4 60 [.map (some b35)] :: mpr QConfig Value.bool b35 m_35_2 :: box b3 63 [.int .i64 a.start, .int .i64 0, .int .i64 b.start, .int .i64 0] :: []) w25 := M.perm (front_perm (i := 8) rfl).symm
    replace M : Mem w I I (box b5 64 [sv u_39_2] :: row EConfig (sv u_39_2) l_39_2 :: box b12 63 [.int .i64 x2.p, .int .i64 x2.i, .int .i64 x2.q, .int .i64 x2.j] :: row EConfig (sv u60) (silL a b xs zs c9) :: box b10 63 [.int .i64 c9.p, .int .i64 c9.i, .int .i64 c9.q, .int .i64 c9.j] :: row EConfig (sv u57) (l_8_0 ++ [c9]) :: mpr QConfig (Value.int .i64) b41 [] :: box b6 132 [.map (some b40)] :: gmap QConfig ELnk b40 us_40_2 us_40_2 g_40_2 :: box b4 60 [.map (some b35)] :: mpr QConfig Value.bool b35 m_35_2 :: box b3 63 [.int .i64 a.start, .int .i64 0, .int .i64 b.start, .int .i64 0] :: []) w25 := M.perm (front_perm (i := 8) rfl).symm
    replace M : Mem w I I (mpr QConfig Value.bool b35 m_35_2 :: box b5 64 [sv u_39_2] :: row EConfig (sv u_39_2) l_39_2 :: box b12 63 [.int .i64 x2.p, .int .i64 x2.i, .int .i64 x2.q, .int .i64 x2.j] :: row EConfig (sv u60) (silL a b xs zs c9) :: box b10 63 [.int .i64 c9.p, .int .i64 c9.i, .int .i64 c9.q, .int .i64 c9.j] :: row EConfig (sv u57) (l_8_0 ++ [c9]) :: mpr QConfig (Value.int .i64) b41 [] :: box b6 132 [.map (some b40)] :: gmap QConfig ELnk b40 us_40_2 us_40_2 g_40_2 :: box b4 60 [.map (some b35)] :: box b3 63 [.int .i64 a.start, .int .i64 0, .int .i64 b.start, .int .i64 0] :: []) w25 := M.perm (front_perm (i := 10) rfl).symm
    replace M : Mem w I I (box b4 60 [.map (some b35)] :: mpr QConfig Value.bool b35 m_35_2 :: box b5 64 [sv u_39_2] :: row EConfig (sv u_39_2) l_39_2 :: box b12 63 [.int .i64 x2.p, .int .i64 x2.i, .int .i64 x2.q, .int .i64 x2.j] :: row EConfig (sv u60) (silL a b xs zs c9) :: box b10 63 [.int .i64 c9.p, .int .i64 c9.i, .int .i64 c9.q, .int .i64 c9.j] :: row EConfig (sv u57) (l_8_0 ++ [c9]) :: mpr QConfig (Value.int .i64) b41 [] :: box b6 132 [.map (some b40)] :: gmap QConfig ELnk b40 us_40_2 us_40_2 g_40_2 :: box b3 63 [.int .i64 a.start, .int .i64 0, .int .i64 b.start, .int .i64 0] :: []) w25 := M.perm (front_perm (i := 10) rfl).symm
    replace M : Mem w I I (gmap QConfig ELnk b40 us_40_2 us_40_2 g_40_2 :: box b4 60 [.map (some b35)] :: mpr QConfig Value.bool b35 m_35_2 :: box b5 64 [sv u_39_2] :: row EConfig (sv u_39_2) l_39_2 :: box b12 63 [.int .i64 x2.p, .int .i64 x2.i, .int .i64 x2.q, .int .i64 x2.j] :: row EConfig (sv u60) (silL a b xs zs c9) :: box b10 63 [.int .i64 c9.p, .int .i64 c9.i, .int .i64 c9.q, .int .i64 c9.j] :: row EConfig (sv u57) (l_8_0 ++ [c9]) :: mpr QConfig (Value.int .i64) b41 [] :: box b6 132 [.map (some b40)] :: box b3 63 [.int .i64 a.start, .int .i64 0, .int .i64 b.start, .int .i64 0] :: []) w25 := M.perm (front_perm (i := 10) rfl).symm
    replace M : Mem w I I (box b6 132 [.map (some b40)] :: gmap QConfig ELnk b40 us_40_2 us_40_2 g_40_2 :: box b4 60 [.map (some b35)] :: mpr QConfig Value.bool b35 m_35_2 :: box b5 64 [sv u_39_2] :: row EConfig (sv u_39_2) l_39_2 :: box b12 63 [.int .i64 x2.p, .int .i64 x2.i, .int .i64 x2.q, .int .i64 x2.j] :: row EConfig (sv u60) (silL a b xs zs c9) :: box b10 63 [.int .i64 c9.p, .int .i64 c9.i, .int .i64 c9.q, .int .i64 c9.j] :: row EConfig (sv u57) (l_8_0 ++ [c9]) :: mpr QConfig (Value.int .i64) b41 [] :: box b3 63 [.int .i64 a.start, .int .i64 0, .int .i64 b.start, .int .i64 0] :: []) w25 := M.perm (front_perm (i := 10) rfl).symm
    refine wl_e (e_callV (vs := [.agg #[.int .i64 c9.p, .int .i64 c9.i, .int .i64 c9.q, .int .i64 c9.j], .agg #[.int .i64 x2.p, .int .i64 x2.i, .int .i64 x2.q, .int .i64 x2.j], .int .i64 0]) (caps := [.pointer (some ⟨b6, 0, none⟩), .pointer (some ⟨b4, 0, none⟩), .pointer (some ⟨b5, 0, none⟩)]) Tryz.func64 rfl rfl rfl (add_c c9 x2 0 (by rw [hg2]; have h1 := grp_look_len (fun e : Config × Lnk => e.1) (fun e : Config × Lnk => e.2) x2 (ev ++ ev0 c9 ((silL a b xs zs c9).take k2)); rw [List.length_append, ev0_len, List.length_take] at h1; omega) (by omega) M)) rfl rfl ?_
    rintro _ w26 ⟨usn, uqn, M⟩
    replace M : Mem w I I (mpr QConfig Value.bool b35 (addK m_35_2 x2) :: box b6 132 [.map (some b40)] :: gmap QConfig ELnk b40 usn usn (aput g_40_2 x2 ((aget g_40_2 x2).getD [] ++ [Lnk.mk c9 0])) :: box b4 60 [.map (some b35)] :: box b5 64 [sv uqn] :: row EConfig (sv uqn) (addQ m_35_2 l_39_2 x2) :: box b12 63 [.int .i64 x2.p, .int .i64 x2.i, .int .i64 x2.q, .int .i64 x2.j] :: row EConfig (sv u60) (silL a b xs zs c9) :: box b10 63 [.int .i64 c9.p, .int .i64 c9.i, .int .i64 c9.q, .int .i64 c9.j] :: row EConfig (sv u57) (l_8_0 ++ [c9]) :: mpr QConfig (Value.int .i64) b41 [] :: box b3 63 [.int .i64 a.start, .int .i64 0, .int .i64 b.start, .int .i64 0] :: []) w26 := M.perm (front_perm (i := 3) rfl).symm
    replace M : Mem w I I (box b4 60 [.map (some b35)] :: mpr QConfig Value.bool b35 (addK m_35_2 x2) :: box b6 132 [.map (some b40)] :: gmap QConfig ELnk b40 usn usn (aput g_40_2 x2 ((aget g_40_2 x2).getD [] ++ [Lnk.mk c9 0])) :: box b5 64 [sv uqn] :: row EConfig (sv uqn) (addQ m_35_2 l_39_2 x2) :: box b12 63 [.int .i64 x2.p, .int .i64 x2.i, .int .i64 x2.q, .int .i64 x2.j] :: row EConfig (sv u60) (silL a b xs zs c9) :: box b10 63 [.int .i64 c9.p, .int .i64 c9.i, .int .i64 c9.q, .int .i64 c9.j] :: row EConfig (sv u57) (l_8_0 ++ [c9]) :: mpr QConfig (Value.int .i64) b41 [] :: box b3 63 [.int .i64 a.start, .int .i64 0, .int .i64 b.start, .int .i64 0] :: []) w26 := M.perm (front_perm (i := 3) rfl).symm
    replace M : Mem w I I (row EConfig (sv uqn) (addQ m_35_2 l_39_2 x2) :: box b4 60 [.map (some b35)] :: mpr QConfig Value.bool b35 (addK m_35_2 x2) :: box b6 132 [.map (some b40)] :: gmap QConfig ELnk b40 usn usn (aput g_40_2 x2 ((aget g_40_2 x2).getD [] ++ [Lnk.mk c9 0])) :: box b5 64 [sv uqn] :: box b12 63 [.int .i64 x2.p, .int .i64 x2.i, .int .i64 x2.q, .int .i64 x2.j] :: row EConfig (sv u60) (silL a b xs zs c9) :: box b10 63 [.int .i64 c9.p, .int .i64 c9.i, .int .i64 c9.q, .int .i64 c9.j] :: row EConfig (sv u57) (l_8_0 ++ [c9]) :: mpr QConfig (Value.int .i64) b41 [] :: box b3 63 [.int .i64 a.start, .int .i64 0, .int .i64 b.start, .int .i64 0] :: []) w26 := M.perm (front_perm (i := 5) rfl).symm
    replace M : Mem w I I (box b5 64 [sv uqn] :: row EConfig (sv uqn) (addQ m_35_2 l_39_2 x2) :: box b4 60 [.map (some b35)] :: mpr QConfig Value.bool b35 (addK m_35_2 x2) :: box b6 132 [.map (some b40)] :: gmap QConfig ELnk b40 usn usn (aput g_40_2 x2 ((aget g_40_2 x2).getD [] ++ [Lnk.mk c9 0])) :: box b12 63 [.int .i64 x2.p, .int .i64 x2.i, .int .i64 x2.q, .int .i64 x2.j] :: row EConfig (sv u60) (silL a b xs zs c9) :: box b10 63 [.int .i64 c9.p, .int .i64 c9.i, .int .i64 c9.q, .int .i64 c9.j] :: row EConfig (sv u57) (l_8_0 ++ [c9]) :: mpr QConfig (Value.int .i64) b41 [] :: box b3 63 [.int .i64 a.start, .int .i64 0, .int .i64 b.start, .int .i64 0] :: []) w26 := M.perm (front_perm (i := 5) rfl).symm
    replace M : Mem w I I (gmap QConfig ELnk b40 usn usn (aput g_40_2 x2 ((aget g_40_2 x2).getD [] ++ [Lnk.mk c9 0])) :: box b5 64 [sv uqn] :: row EConfig (sv uqn) (addQ m_35_2 l_39_2 x2) :: box b4 60 [.map (some b35)] :: mpr QConfig Value.bool b35 (addK m_35_2 x2) :: box b6 132 [.map (some b40)] :: box b12 63 [.int .i64 x2.p, .int .i64 x2.i, .int .i64 x2.q, .int .i64 x2.j] :: row EConfig (sv u60) (silL a b xs zs c9) :: box b10 63 [.int .i64 c9.p, .int .i64 c9.i, .int .i64 c9.q, .int .i64 c9.j] :: row EConfig (sv u57) (l_8_0 ++ [c9]) :: mpr QConfig (Value.int .i64) b41 [] :: box b3 63 [.int .i64 a.start, .int .i64 0, .int .i64 b.start, .int .i64 0] :: []) w26 := M.perm (front_perm (i := 5) rfl).symm
    replace M : Mem w I I (box b6 132 [.map (some b40)] :: gmap QConfig ELnk b40 usn usn (aput g_40_2 x2 ((aget g_40_2 x2).getD [] ++ [Lnk.mk c9 0])) :: box b5 64 [sv uqn] :: row EConfig (sv uqn) (addQ m_35_2 l_39_2 x2) :: box b4 60 [.map (some b35)] :: mpr QConfig Value.bool b35 (addK m_35_2 x2) :: box b12 63 [.int .i64 x2.p, .int .i64 x2.i, .int .i64 x2.q, .int .i64 x2.j] :: row EConfig (sv u60) (silL a b xs zs c9) :: box b10 63 [.int .i64 c9.p, .int .i64 c9.i, .int .i64 c9.q, .int .i64 c9.j] :: row EConfig (sv u57) (l_8_0 ++ [c9]) :: mpr QConfig (Value.int .i64) b41 [] :: box b3 63 [.int .i64 a.start, .int .i64 0, .int .i64 b.start, .int .i64 0] :: []) w26 := M.perm (front_perm (i := 5) rfl).symm
    replace M : Mem w I I (mpr QConfig (Value.int .i64) b41 [] :: box b6 132 [.map (some b40)] :: gmap QConfig ELnk b40 usn usn (aput g_40_2 x2 ((aget g_40_2 x2).getD [] ++ [Lnk.mk c9 0])) :: box b5 64 [sv uqn] :: row EConfig (sv uqn) (addQ m_35_2 l_39_2 x2) :: box b4 60 [.map (some b35)] :: mpr QConfig Value.bool b35 (addK m_35_2 x2) :: box b12 63 [.int .i64 x2.p, .int .i64 x2.i, .int .i64 x2.q, .int .i64 x2.j] :: row EConfig (sv u60) (silL a b xs zs c9) :: box b10 63 [.int .i64 c9.p, .int .i64 c9.i, .int .i64 c9.q, .int .i64 c9.j] :: row EConfig (sv u57) (l_8_0 ++ [c9]) :: box b3 63 [.int .i64 a.start, .int .i64 0, .int .i64 b.start, .int .i64 0] :: []) w26 := M.perm (front_perm (i := 10) rfl).symm
    replace M : Mem w I I (row EConfig (sv u57) (l_8_0 ++ [c9]) :: mpr QConfig (Value.int .i64) b41 [] :: box b6 132 [.map (some b40)] :: gmap QConfig ELnk b40 usn usn (aput g_40_2 x2 ((aget g_40_2 x2).getD [] ++ [Lnk.mk c9 0])) :: box b5 64 [sv uqn] :: row EConfig (sv uqn) (addQ m_35_2 l_39_2 x2) :: box b4 60 [.map (some b35)] :: mpr QConfig Value.bool b35 (addK m_35_2 x2) :: box b12 63 [.int .i64 x2.p, .int .i64 x2.i, .int .i64 x2.q, .int .i64 x2.j] :: row EConfig (sv u60) (silL a b xs zs c9) :: box b10 63 [.int .i64 c9.p, .int .i64 c9.i, .int .i64 c9.q, .int .i64 c9.j] :: box b3 63 [.int .i64 a.start, .int .i64 0, .int .i64 b.start, .int .i64 0] :: []) w26 := M.perm (front_perm (i := 10) rfl).symm
    replace M : Mem w I I (box b10 63 [.int .i64 c9.p, .int .i64 c9.i, .int .i64 c9.q, .int .i64 c9.j] :: row EConfig (sv u57) (l_8_0 ++ [c9]) :: mpr QConfig (Value.int .i64) b41 [] :: box b6 132 [.map (some b40)] :: gmap QConfig ELnk b40 usn usn (aput g_40_2 x2 ((aget g_40_2 x2).getD [] ++ [Lnk.mk c9 0])) :: box b5 64 [sv uqn] :: row EConfig (sv uqn) (addQ m_35_2 l_39_2 x2) :: box b4 60 [.map (some b35)] :: mpr QConfig Value.bool b35 (addK m_35_2 x2) :: box b12 63 [.int .i64 x2.p, .int .i64 x2.i, .int .i64 x2.q, .int .i64 x2.j] :: row EConfig (sv u60) (silL a b xs zs c9) :: box b3 63 [.int .i64 a.start, .int .i64 0, .int .i64 b.start, .int .i64 0] :: []) w26 := M.perm (front_perm (i := 10) rfl).symm
    replace M : Mem w I I (row EConfig (sv u60) (silL a b xs zs c9) :: box b10 63 [.int .i64 c9.p, .int .i64 c9.i, .int .i64 c9.q, .int .i64 c9.j] :: row EConfig (sv u57) (l_8_0 ++ [c9]) :: mpr QConfig (Value.int .i64) b41 [] :: box b6 132 [.map (some b40)] :: gmap QConfig ELnk b40 usn usn (aput g_40_2 x2 ((aget g_40_2 x2).getD [] ++ [Lnk.mk c9 0])) :: box b5 64 [sv uqn] :: row EConfig (sv uqn) (addQ m_35_2 l_39_2 x2) :: box b4 60 [.map (some b35)] :: mpr QConfig Value.bool b35 (addK m_35_2 x2) :: box b12 63 [.int .i64 x2.p, .int .i64 x2.i, .int .i64 x2.q, .int .i64 x2.j] :: box b3 63 [.int .i64 a.start, .int .i64 0, .int .i64 b.start, .int .i64 0] :: []) w26 := M.perm (front_perm (i := 10) rfl).symm
    replace M : Mem w I I (box b12 63 [.int .i64 x2.p, .int .i64 x2.i, .int .i64 x2.q, .int .i64 x2.j] :: row EConfig (sv u60) (silL a b xs zs c9) :: box b10 63 [.int .i64 c9.p, .int .i64 c9.i, .int .i64 c9.q, .int .i64 c9.j] :: row EConfig (sv u57) (l_8_0 ++ [c9]) :: mpr QConfig (Value.int .i64) b41 [] :: box b6 132 [.map (some b40)] :: gmap QConfig ELnk b40 usn usn (aput g_40_2 x2 ((aget g_40_2 x2).getD [] ++ [Lnk.mk c9 0])) :: box b5 64 [sv uqn] :: row EConfig (sv uqn) (addQ m_35_2 l_39_2 x2) :: box b4 60 [.map (some b35)] :: mpr QConfig Value.bool b35 (addK m_35_2 x2) :: box b3 63 [.int .i64 a.start, .int .i64 0, .int .i64 b.start, .int .i64 0] :: []) w26 := M.perm (front_perm (i := 10) rfl).symm
    refine wl_nil ?_
    refine wc_region ?_
    refine wl_m M (q_add rfl rfl (IntWalk.i64_in _ (by omega))) rfl rfl ?_
    refine wl_mv M rfl rfl ?_
    refine wl_nil ?_
    replace M := M.drop 0
    refine ⟨(k2 + 1, uqn, addQ m_35_2 l_39_2 x2, addK m_35_2 x2, usn, aput g_40_2 x2 ((aget g_40_2 x2).getD [] ++ [Lnk.mk c9 0])), ?_, ⟨(by omega), (by rw [take_snoc hx2]; exact add_bfs hB2 hm2 (List.mem_append_left _ (List.mem_of_getElem? hx2))), (by have := addK_tr (d := x2) (K := vs ++ [c9]) (qs := l_39_2) (l := m_35_2) (by rw [hm2]; simp); rw [this]; simp), (by rw [take_snoc hx2, ev0_snoc, ← List.append_assoc, hg2]; exact (grp_snoc _ _ _ (x2, Lnk.mk c9 0)).symm), M⟩, ⟨rfl, trivial⟩, unw_look rfl unw_base⟩
    show (silL a b xs zs c9).length - (k2 + 1) < (silL a b xs zs c9).length - k2
    omega
   have hke2 : k2 = (silL a b xs zs c9).length := by omega
   rw [hke2, List.take_length] at hB2 hg2
   refine wc_exit rfl ?_
   refine wc_seq ?_
   refine wc_region ?_
   refine wl_mv M rfl rfl ?_
   refine wl_m M (q_ldbA 1 Tryz.underlying63 rfl sz63 rfl rfl rfl rfl) rfl rfl ?_
   refine wl_e (e_callC M (spokenX_c hF hc9 M.imm hB0) Tryz.func38 rfl rfl) rfl rfl ?_
   rintro v73 w27 ⟨J73, hJ73, Rg73, M⟩
   obtain ⟨lm73, Rl73, hlk73, hlr73⟩ := Rg73.opn (grp_nodup _ _ _)
   have hlm : lm73.length ≤ 12 := by have := hF.keys c9; rw [← hlk73, List.length_map] at this; exact this
   have hoJ73 := M.old
   refine wl_e (e_rngI M Rl73 Tryz.underlying83 rfl) rfl rfl ?_
   rintro _ w28 ⟨r74, mb74, rfl, rfl, M⟩
   refine wl_nil ?_
   refine wc_block ?_
   refine wc_loop (α := (List (Int × SV)) × SV × (List Config) × (List (Config × Bool)) × (List SV) × (List (Config × List Lnk))) [14, 16, 75, 76, 77, 78, 79, 80, 81, 82, 83, 84, 85, 86, 87, 88, 89] (fun ((dn_74_4, u_39_4, l_39_4, m_35_4, us_40_4, g_40_4) : (List (Int × SV)) × SV × (List Config) × (List (Config × Bool)) × (List SV) × (List (Config × List Lnk))) => [])
     (fun ((dn_74_4, u_39_4, l_39_4, m_35_4, us_40_4, g_40_4) : (List (Int × SV)) × SV × (List Config) × (List (Config × Bool)) × (List SV) × (List (Config × List Lnk))) w' => (BfsIn (cfgN a b xs zs) (· = Config.mk a.start 0 b.start 0) vs c9 ((silL a b xs zs c9) ++ dn_74_4.flatMap (fun p_ => (aget (grp (fun e : Int × Config => e.1) (fun e : Int × Config => e.2) (spkL a b xs zs c9)) p_.1).getD [])) l_39_4) ∧ (m_35_4 = tr (vs ++ c9 :: l_39_4)) ∧ (g_40_4 = grp (fun e : Config × Lnk => e.1) (fun e : Config × Lnk => e.2) (ev ++ ev0 c9 (silL a b xs zs c9) ++ ev1 c9 (dn_74_4.flatMap (fun p_ => (aget (grp (fun e : Int × Config => e.1) (fun e : Int × Config => e.2) (spkL a b xs zs c9)) p_.1).getD [])))) ∧ Mem w I J73 (itr r74 mb74 lm73 dn_74_4 :: row EConfig (sv u60) (silL a b xs zs c9) :: box b10 63 [.int .i64 c9.p, .int .i64 c9.i, .int .i64 c9.q, .int .i64 c9.j] :: row EConfig (sv u57) (l_8_0 ++ [c9]) :: mpr QConfig (Value.int .i64) b41 [] :: box b6 132 [.map (some b40)] :: gmap QConfig ELnk b40 us_40_4 us_40_4 g_40_4 :: box b5 64 [sv u_39_4] :: row EConfig (sv u_39_4) l_39_4 :: box b4 60 [.map (some b35)] :: mpr QConfig Value.bool b35 m_35_4 :: box b3 63 [.int .i64 a.start, .int .i64 0, .int .i64 b.start, .int .i64 0] :: []) w')
     (fun ((dn_74_4, u_39_4, l_39_4, m_35_4, us_40_4, g_40_4) : (List (Int × SV)) × SV × (List Config) × (List (Config × Bool)) × (List SV) × (List (Config × List Lnk))) => lm73.length - dn_74_4.length) ([], u_39_2, l_39_2, m_35_2, us_40_2, g_40_2) trivial ?_ ?_
   ·refine ⟨(by simpa using hB2), hm2, (by rw [hg2]; simp [ev1]), ?_⟩
    exact M
   rintro ⟨dn_74_4, u_39_4, l_39_4, m_35_4, us_40_4, g_40_4⟩ jj4 w29 ⟨hB4, hm4, hg4, M⟩
   have hoJ73 := M.old
   refine wc_seq ?_
   refine wc_region ?_
   refine wl_e (e_nx (Q := QRune) (V := sv) 0 M (M.imm _ _ (Rl73).at_) rfl rfl) rfl rfl ?_
   rintro _ w30 (⟨rfl, hpm19, M⟩ | ⟨p74, hpi19, hpl19, rfl, M⟩)
   ·refine wl_m M (q_ext rfl rfl) rfl rfl ?_
    refine wl_nil ?_
    refine wc_seq ?_
    refine wc_false rfl ?_
    have hfm : ∀ d, d ∈ dn_74_4.flatMap (fun p_ => (aget (grp (fun e : Int × Config => e.1) (fun e : Int × Config => e.2) (spkL a b xs zs c9)) p_.1).getD []) ↔ ∃ r, (r, d) ∈ spkL a b xs zs c9 := fun d => by
      rw [grp_all (fun e : Int × Config => e.1) (fun e : Int × Config => e.2) _ hlk73 hpm19, List.mem_map]
      exact ⟨fun ⟨e, he, h⟩ => ⟨e.1, by rw [← h]; exact he⟩, fun ⟨r, h⟩ => ⟨(r, d), h, rfl⟩⟩
    have hBn := hB4.close (fun y hy => by
      rcases List.mem_append.1 hy with h | h
      · exact List.mem_append_left _ h
      · obtain ⟨⟨r, y'⟩, h1, rfl⟩ := List.mem_map.1 h
        exact List.mem_append_right _ ((hfm _).2 ⟨r, h1⟩))
    have hdl74 := hpm19.length_eq
    refine wc_exit rfl ?_
    replace M := M.less hJ73 (fun _ _ => rfl)
    replace M := M.drop 0
    replace M := M.drop 0
    replace M := M.drop 0
    refine ⟨(vs ++ [c9], ev ++ ev0 c9 (silL a b xs zs c9) ++ ev1 c9 (dn_74_4.flatMap (fun p_ => (aget (grp (fun e : Int × Config => e.1) (fun e : Int × Config => e.2) (spkL a b xs zs c9)) p_.1).getD [])), u_39_4, l_39_4, m_35_4, us_40_4, g_40_4, u57, l_8_0 ++ [c9]), ?_, ⟨hBn, (by rw [hm4]; congr 1; simp), hg4, (evOk_next hE hfm hc9n), (by rw [List.length_append, List.length_append, List.length_append, ev0_len, ev1_len, List.length_singleton]; have := hF.rows c9 dn_74_4 (by omega); omega), (by rw [List.filter_append, hn]; simp [ht53]), M⟩, ⟨rfl, trivial⟩, unw_look rfl (unw_hav rfl (unw_look rfl (unw_hav rfl (unw_look rfl unw_base))))⟩
    show (rect4 m xs.length n zs.length).length - (vs ++ [c9]).length < (rect4 m xs.length n zs.length).length - vs.length
    have := hBn.len hcr
    rw [List.length_append, List.length_singleton] at this ⊢
    omega
   simp only [sC0, sCS] at M
   refine wl_m M (q_ext rfl rfl) rfl rfl ?_
   refine wl_nil ?_
   refine wc_seq ?_
   refine wc_true rfl ?_
   refine wc_skip ?_
   refine wc_block ?_
   refine wc_seq ?_
   refine wc_region ?_
   refine wl_m M (q_ent (Q := QRune) (V := sv) 0 (fun w M => M.imm _ _ (Rl73).at_) rfl rfl) rfl rfl ?_
   refine wl_m M (q_ext rfl rfl) rfl rfl ?_
   refine wl_as M rfl rfl ?_
   refine wl_nil ?_
   refine wc_seq ?_
   refine wc_region ?_
   refine wl_mv M rfl rfl ?_
   refine wl_m M (q_lenR (hlr73 p74 hpi19) Tryz.underlying64 rfl) rfl rfl ?_
   refine wl_mv M rfl rfl ?_
   refine wl_nil ?_
   refine wc_block ?_
   refine wc_loop (α := Nat × SV × (List Config) × (List (Config × Bool)) × (List SV) × (List (Config × List Lnk))) [16, 81, 82, 83, 84, 85, 86, 87, 88, 89] (fun ((k6, u_39_6, l_39_6, m_35_6, us_40_6, g_40_6) : Nat × SV × (List Config) × (List (Config × Bool)) × (List SV) × (List (Config × List Lnk))) => [(81, .int .i64 (k6 : Int))])
     (fun ((k6, u_39_6, l_39_6, m_35_6, us_40_6, g_40_6) : Nat × SV × (List Config) × (List (Config × Bool)) × (List SV) × (List (Config × List Lnk))) w' => (k6 ≤ ((aget (grp (fun e : Int × Config => e.1) (fun e : Int × Config => e.2) (spkL a b xs zs c9)) p74.1).getD []).length) ∧ (BfsIn (cfgN a b xs zs) (· = Config.mk a.start 0 b.start 0) vs c9 ((silL a b xs zs c9) ++ dn_74_4.flatMap (fun p_ => (aget (grp (fun e : Int × Config => e.1) (fun e : Int × Config => e.2) (spkL a b xs zs c9)) p_.1).getD []) ++ ((aget (grp (fun e : Int × Config => e.1) (fun e : Int × Config => e.2) (spkL a b xs zs c9)) p74.1).getD []).take k6) l_39_6) ∧ (m_35_6 = tr (vs ++ c9 :: l_39_6)) ∧ (g_40_6 = grp (fun e : Config × Lnk => e.1) (fun e : Config × Lnk => e.2) (ev ++ ev0 c9 (silL a b xs zs c9) ++ ev1 c9 (dn_74_4.flatMap (fun p_ => (aget (grp (fun e : Int × Config => e.1) (fun e : Int × Config => e.2) (spkL a b xs zs c9)) p_.1).getD []) ++ ((aget (grp (fun e : Int × Config => e.1) (fun e : Int × Config => e.2) (spkL a b xs zs c9)) p74.1).getD []).take k6))) ∧ Mem w I J73 (itr r74 mb74 lm73 (dn_74_4 ++ [p74]) :: row EConfig (sv u60) (silL a b xs zs c9) :: box b10 63 [.int .i64 c9.p, .int .i64 c9.i, .int .i64 c9.q, .int .i64 c9.j] :: row EConfig (sv u57) (l_8_0 ++ [c9]) :: mpr QConfig (Value.int .i64) b41 [] :: box b6 132 [.map (some b40)] :: gmap QConfig ELnk b40 us_40_6 us_40_6 g_40_6 :: box b5 64 [sv u_39_6] :: row EConfig (sv u_39_6) l_39_6 :: box b4 60 [.map (some b35)] :: mpr QConfig Value.bool b35 m_35_6 :: box b3 63 [.int .i64 a.start, .int .i64 0, .int .i64 b.start, .int .i64 0] :: []) w')
     (fun ((k6, u_39_6, l_39_6, m_35_6, us_40_6, g_40_6) : Nat × SV × (List Config) × (List (Config × Bool)) × (List SV) × (List (Config × List Lnk))) => ((aget (grp (fun e : Int × Config => e.1) (fun e : Int × Config => e.2) (spkL a b xs zs c9)) p74.1).getD []).length - k6) (0, u_39_4, l_39_4, m_35_4, us_40_4, g_40_4) ⟨rfl, trivial⟩ ?_ ?_
   ·refine ⟨Nat.zero_le _, (by simpa using hB4), hm4, (by rw [hg4]; simp), ?_⟩
    exact M
   rintro ⟨k6, u_39_6, l_39_6, m_35_6, us_40_6, g_40_6⟩ jj6 w31 ⟨hk6, hB6, hm6, hg6, M⟩
   have hoJ73 := M.old
   have hql6 := hB6.len hcr
   have hrl6 := hF.rows c9 dn_74_4 (by omega)
   have hrw6 := grp_look_len (fun e : Int × Config => e.1) (fun e : Int × Config => e.2) p74.1 (spkL a b xs zs c9)
   have hsp6 := hF.spk c9
   refine wc_seq ?_
   refine wc_region ?_
   refine wl_m M (q_lss rfl rfl) rfl rfl ?_
   refine wl_nil ?_
   refine wc_seq ?_
   refine wc_dec rfl (fun ht82 => ?_) (fun ht82 => ?_)
   ·obtain ⟨x6, hx6⟩ : ∃ x_, ((aget (grp (fun e : Int × Config => e.1) (fun e : Int × Config => e.2) (spkL a b xs zs c9)) p74.1).getD [])[k6]? = some x_ := ⟨_, List.getElem?_eq_getElem (by omega)⟩
    have hll6 := ((hlr73 p74 hpi19)).len_le
    have hin6 : x6 ∈ cfgN a b xs zs c9 := List.mem_append_right _ ((grp_all (fun e : Int × Config => e.1) (fun e : Int × Config => e.2) _ hlk73 (List.Perm.refl _) x6).1 (List.mem_flatMap.2 ⟨p74, hpi19, List.mem_of_getElem? hx6⟩))
    refine wc_skip ?_
    refine wc_seq ?_
    refine wc_block ?_
    refine wc_seq ?_
    refine wc_region ?_
    refine wl_ix (j := k6) M (hlr73 p74 hpi19) Tryz.underlying64 rfl rfl hx6 rfl (fun b83 o83 p83 => ?_)
    refine wl_m M (q_ldp p83 rfl rfl) rfl rfl ?_
    refine wl_e (e_alloc M z63) rfl rfl ?_
    rintro _ w32 ⟨b16, rfl, M⟩
    refine wl_e0 (e_stW 0 M rfl rfl rfl sz63 rfl rfl) rfl ?_
    intro _ w33 M
    simp only [sC0, sCS] at M
    refine wl_nil ?_
    refine wc_region ?_
    refine wl_mv M rfl rfl ?_
    refine wl_m M (q_ldbA 3 Tryz.underlying63 rfl sz63 rfl rfl rfl rfl) rfl rfl ?_
    refine wl_m M (q_ldbA 0 Tryz.underlying63 rfl sz63 rfl rfl rfl rfl) rfl rfl ?_
    replace M : Mem w I J73 (mpr QConfig (Value.int .i64) b41 [] :: box b16 63 [.int .i64 x6.p, .int .i64 x6.i, .int .i64 x6.q, .int .i64 x6.j] :: itr r74 mb74 lm73 (dn_74_4 ++ [p74]) :: row EConfig (sv u60) (silL a b xs zs c9) :: box b10 63 [.int .i64 c9.p, .int .i64 c9.i, .int .i64 c9.q, .int .i64 c9.j] :: row EConfig (sv u57) (l_8_0 ++ [c9]) :: box b6 132 [.map (some b40)] :: gmap QConfig ELnk b40 us_40_6 us_40_6 g_40_6 :: box b5 64 [sv u_39_6] :: row EConfig (sv u_39_6) l_39_6 :: box b4 60 [.map (some b35)] :: mpr QConfig Value.bool b35 m_35_6 :: box b3 63 [.int .i64 a.start, .int .i64 0, .int .i64 b.start, .int .i64 0] :: []) w33 := M.perm (front_perm (i := 5) rfl).symm
    replace M : Mem w I J73 (row EConfig (sv u57) (l_8_0 ++ [c9]) :: mpr QConfig (Value.int .i64) b41 [] :: box b16 63 [.int .i64 x6.p, .int .i64 x6.i, .int .i64 x6.q, .int .i64 x6.j] :: itr r74 mb74 lm73 (dn_74_4 ++ [p74]) :: row EConfig (sv u60) (silL a b xs zs c9) :: box b10 63 [.int .i64 c9.p, .int .i64 c9.i, .int .i64 c9.q, .int .i64 c9.j] :: box b6 132 [.map (some b40)] :: gmap QConfig ELnk b40 us_40_6 us_40_6 g_40_6 :: box b5 64 [sv u_39_6] :: row EConfig (sv u_39_6) l_39_6 :: box b4 60 [.map (some b35)] :: mpr QConfig Value.bool b35 m_35_6 :: box b3 63 [.int .i64 a.start, .int .i64 0, .int .i64 b.start, .int .i64 0] :: []) w33 := M.perm (front_perm (i := 5) rfl).symm
    replace M : Mem w I J73 (box b10 63 [.int .i64 c9.p, .int .i64 c9.i, .int .i64 c9.q, .int .i64 c9.j] :: row EConfig (sv u57) (l_8_0 ++ [c9]) :: mpr QConfig (Value.int .i64) b41 [] :: box b16 63 [.int .i64 x6.p, .int .i64 x6.i, .int .i64 x6.q, .int .i64 x6.j] :: itr r74 mb74 lm73 (dn_74_4 ++ [p74]) :: row EConfig (sv u60) (silL a b xs zs c9) :: box b6 132 [.map (some b40)] :: gmap QConfig ELnk b40 us_40_6 us_40_6 g_40_6 :: box b5 64 [sv u_39_6] :: row EConfig (sv u_39_6) l_39_6 :: box b4 60 [.map (some b35)] :: mpr QConfig Value.bool b35 m_35_6 :: box b3 63 [.int .i64 a.start, .int .i64 0, .int .i64 b.start, .int .i64 0] :: []) w33 := M.perm (front_perm (i := 5) rfl).symm
    replace M : Mem w I J73 (row EConfig (sv u60) (silL a b xs zs c9) :: box b10 63 [.int .i64 c9.p, .int .i64 c9.i, .int .i64 c9.q, .int .i64 c9.j] :: row EConfig (sv u57) (l_8_0 ++ [c9]) :: mpr QConfig (Value.int .i64) b41 [] :: box b16 63 [.int .i64 x6.p, .int .i64 x6.i, .int .i64 x6.q, .int .i64 x6.j] :: itr r74 mb74 lm73 (dn_74_4 ++ [p74]) :: box b6 132 [.map (some b40)] :: gmap QConfig ELnk b40 us_40_6 us_40_6 g_40_6 :: box b5 64 [sv u_39_6] :: row EConfig (sv u_39_6) l_39_6 :: box b4 60 [.map (some b35)] :: mpr QConfig Value.bool b35 m_35_6 :: box b3 63 [.int .i64 a.start, .int .i64 0, .int .i64 b.start, .int .i64 0] :: []) w33 := M.perm (front_perm (i := 5) rfl).symm
    replace M : Mem w I J73 (itr r74 mb74 lm73 (dn_74_4 ++ [p74]) :: row EConfig (sv u60) (silL a b xs zs c9) :: box b10 63 [.int .i64 c9.p, .int .i64 c9.i, .int .i64 c9.q, .int .i64 c9.j] :: row EConfig (sv u57) (l_8_0 ++ [c9]) :: mpr QConfig (Value.int .i64) b41 [] :: box b16 63 [.int .i64 x6.p, .int .i64 x6.i, .int .i64 x6.q, .int .i64 x6.j] :: box b6 132 [.map (some b40)] :: gmap QConfig ELnk b40 us_40_6 us_40_6 g_40_6 :: box b5 64 [sv u_39_6] :: row EConfig (sv u_39_6) l_39_6 :: box b4 60 [.map (some b35)] :: mpr QConfig Value.bool b35 m_35_6 :: box b3 63 [.int .i64 a.start, .int .i64 0, .int .i64 b.start, .int .i64 0] :: []) w33 := M.perm (front_perm (i := 5) rfl).symm
    replace M : Mem w I J73 (box b16 63 [.int .i64 x6.p, .int .i64 x6.i, .int .i64 x6.q, .int .i64 x6.j] :: itr r74 mb74 lm73 (dn_74_4 ++ [p74]) :: row EConfig (sv u60) (silL a b xs zs c9) :: box b10 63 [.int .i64 c9.p, .int .i64 c9.i, .int .i64 c9.q, .int .i64 c9.j] :: row EConfig (sv u57) (l_8_0 ++ [c9]) :: mpr QConfig (Value.int .i64) b41 [] :: box b6 132 [.map (some b40)] :: gmap QConfig ELnk b40 us_40_6 us_40_6 g_40_6 :: box b5 64 [sv u_39_6] :: row EConfig (sv u_39_6) l_39_6 :: box b4 60 [.map (some b35)] :: mpr QConfig Value.bool b35 m_35_6 :: box b3 63 [.int .i64 a.start, .int .i64 0, .int .i64 b.start, .int .i64 0] :: []) w33 := M.perm (front_perm (i := 5) rfl).symm
    replace M : Mem w I J73 (row EConfig (sv u_39_6) l_39_6 :: box b16 63 [.int .i64 x6.p, .int .i64 x6.i, .int .i64 x6.q, .int .i64 x6.j] :: itr r74 mb74 lm73 (dn_74_4 ++ [p74]) :: row EConfig (sv u60) (silL a b xs zs c9) :: box b10 63 [.int .i64 c9.p, .int .i64 c9.i, .int .i64 c9.q, .int .i64 c9.j] :: row EConfig (sv u57) (l_8_0 ++ [c9]) :: mpr QConfig (Value.int .i64) b41 [] :: box b6 132 [.map (some b40)] :: gmap QConfig ELnk b40 us_40_6 us_40_6 g_40_6 :: box b5 64 [sv u_39_6] :: box b4 60 [.map (some b35)] :: mpr QConfig Value.bool b35 m_35_6 :: box b3 63 [.int .i64 a.start, .int .i64 0, .int .i64 b.start, .int .i64 0] :: []) w33 := M.perm (front_perm (i := 9) rfl).symm
    replace M : Mem w I J73 (box b5 64 [sv u_39_6] :: row EConfig (sv u_39_6) l_39_6 :: box b16 63 [.int .i64 x6.p, .int .i64 x6.i, .int .i64 x6.q, .int .i64 x6.j] :: itr r74 mb74 lm73 (dn_74_4 ++ [p74]) :: row EConfig (sv u60) (silL a b xs zs c9) :: box b10 63 [.int .i64 c9.p, .int .i64 c9.i, .int .i64 c9.q, .int .i64 c9.j] :: row EConfig (sv u57) (l_8_0 ++ [c9]) :: mpr QConfig (Value.int .i64) b41 [] :: box b6 132 [.map (some b40)] :: gmap QConfig ELnk b40 us_40_6 us_40_6 g_40_6 :: box b4 60 [.map (some b35)] :: mpr QConfig Value.bool b35 m_35_6 :: box b3 63 [.int .i64 a.start, .int .i64 0, .int .i64 b.start, .int .i64 0] :: []) w33 := M.perm (front_perm (i := 9) rfl).symm
    replace M : Mem w I J73 (mpr QConfig Value.bool b35 m_35_6 :: box b5 64 [sv u_39_6] :: row EConfig (sv u_39_6) l_39_6 :: box b16 63 [.int .i64 x6.p, .int .i64 x6.i, .int .i64 x6.q, .int .i64 x6.j] :: itr r74 mb74 lm73 (dn_74_4 ++ [p74]) :: row EConfig (sv u60) (silL a b xs zs c9) :: box b10 63 [.int .i64 c9.p, .int .i64 c9.i, .int .i64 c9.q, .int .i64 c9.j] :: row EConfig (sv u57) (l_8_0 ++ [c9]) :: mpr QConfig (Value.int .i64) b41 [] :: box b6 132 [.map (some b40)] :: gmap QConfig ELnk b40 us_40_6 us_40_6 g_40_6 :: box b4 60 [.map (some b35)] :: box b3 63 [.int .i64 a.start, .int .i64 0, .int .i64 b.start, .int .i64 0] :: []) w33 := M.perm (front_perm (i := 11) rfl).symm
    replace M : Mem w I J73 (box b4 60 [.map (some b35)] :: mpr QConfig Value.bool b35 m_35_6 :: box b5 64 [sv u_39_6] :: row EConfig (sv u_39_6) l_39_6 :: box b16 63 [.int .i64 x6.p, .int .i64 x6.i, .int .i64 x6.q, .int .i64 x6.j] :: itr r74 mb74 lm73 (dn_74_4 ++ [p74]) :: row EConfig (sv u60) (silL a b xs zs c9) :: box b10 63 [.int .i64 c9.p, .int .i64 c9.i, .int .i64 c9.q, .int .i64 c9.j] :: row EConfig (sv u57) (l_8_0 ++ [c9]) :: mpr QConfig (Value.int .i64) b41 [] :: box b6 132 [.map (some b40)] :: gmap QConfig ELnk b40 us_40_6 us_40_6 g_40_6 :: box b3 63 [.int .i64 a.start, .int .i64 0, .int .i64 b.start, .int .i64 0] :: []) w33 := M.perm (front_perm (i := 11) rfl).symm
    replace M : Mem w I J73 (gmap QConfig ELnk b40 us_40_6 us_40_6 g_40_6 :: box b4 60 [.map (some b35)] :: mpr QConfig Value.bool b35 m_35_6 :: box b5 64 [sv u_39_6] :: row EConfig (sv u_39_6) l_39_6 :: box b16 63 [.int .i64 x6.p, .int .i64 x6.i, .int .i64 x6.q, .int .i64 x6.j] :: itr r74 mb74 lm73 (dn_74_4 ++ [p74]) :: row EConfig (sv u60) (silL a b xs zs c9) :: box b10 63 [.int .i64 c9.p, .int .i64 c9.i, .int .i64 c9.q, .int .i64 c9.j] :: row EConfig (sv u57) (l_8_0 ++ [c9]) :: mpr QConfig (Value.int .i64) b41 [] :: box b6 132 [.map (some b40)] :: box b3 63 [.int .i64 a.start, .int .i64 0, .int .i64 b.start, .int .i64 0] :: []) w33 := M.perm (front_perm (i := 11) rfl).symm
    replace M : Mem w I J73 (box b6 132 [.map (some b40)] :: gmap QConfig ELnk b40 us_40_6 us_40_6 g_40_6 :: box b4 60 [.map (some b35)] :: mpr QConfig Value.bool b35 m_35_6 :: box b5 64 [sv u_39_6] :: row EConfig (sv u_39_6) l_39_6 :: box b16 63 [.int .i64 x6.p, .int .i64 x6.i, .int .i64 x6.q, .int .i64 x6.j] :: itr r74 mb74 lm73 (dn_74_4 ++ [p74]) :: row EConfig (sv u60) (silL a b xs zs c9) :: box b10 63 [.int .i64 c9.p, .int .i64 c9.i, .int .i64 c9.q, .int .i64 c9.j] :: row EConfig (sv u57) (l_8_0 ++ [c9]) :: mpr QConfig (Value.int .i64) b41 [] :: box b3 63 [.int .i64 a.start, .int .i64 0, .int .i64 b.start, .int .i64 0] :: []) w33 := M.perm (front_perm (i := 11) rfl).symm
    refine wl_e (e_callV (vs := [.agg #[.int .i64 c9.p, .int .i64 c9.i, .int .i64 c9.q, .int .i64 c9.j], .agg #[.int .i64 x6.p, .int .i64 x6.i, .int .i64 x6.q, .int .i64 x6.j], .int .i64 1]) (caps := [.pointer (some ⟨b6, 0, none⟩), .pointer (some ⟨b4, 0, none⟩), .pointer (some ⟨b5, 0, none⟩)]) Tryz.func64 rfl rfl rfl (add_c c9 x6 1 (by rw [hg6]; have h1 := grp_look_len (fun e : Config × Lnk => e.1) (fun e : Config × Lnk => e.2) x6 (ev ++ ev0 c9 (silL a b xs zs c9) ++ ev1 c9 (dn_74_4.flatMap (fun p_ => (aget (grp (fun e : Int × Config => e.1) (fun e : Int × Config => e.2) (spkL a b xs zs c9)) p_.1).getD []) ++ ((aget (grp (fun e : Int × Config => e.1) (fun e : Int × Config => e.2) (spkL a b xs zs c9)) p74.1).getD []).take k6)); rw [List.length_append, List.length_append, ev0_len, ev1_len, List.length_append, List.length_take] at h1; omega) (by omega) M)) rfl rfl ?_
    rintro _ w34 ⟨usn, uqn, M⟩
    replace M : Mem w I J73 (mpr QConfig Value.bool b35 (addK m_35_6 x6) :: box b6 132 [.map (some b40)] :: gmap QConfig ELnk b40 usn usn (aput g_40_6 x6 ((aget g_40_6 x6).getD [] ++ [Lnk.mk c9 1])) :: box b4 60 [.map (some b35)] :: box b5 64 [sv uqn] :: row EConfig (sv uqn) (addQ m_35_6 l_39_6 x6) :: box b16 63 [.int .i64 x6.p, .int .i64 x6.i, .int .i64 x6.q, .int .i64 x6.j] :: itr r74 mb74 lm73 (dn_74_4 ++ [p74]) :: row EConfig (sv u60) (silL a b xs zs c9) :: box b10 63 [.int .i64 c9.p, .int .i64 c9.i, .int .i64 c9.q, .int .i64 c9.j] :: row EConfig (sv u57) (l_8_0 ++ [c9]) :: mpr QConfig (Value.int .i64) b41 [] :: box b3 63 [.int .i64 a.start, .int .i64 0, .int .i64 b.start, .int .i64 0] :: []) w34 := M.perm (front_perm (i := 3) rfl).symm
    replace M : Mem w I J73 (box b4 60 [.map (some b35)] :: mpr QConfig Value.bool b35 (addK m_35_6 x6) :: box b6 132 [.map (some b40)] :: gmap QConfig ELnk b40 usn usn (aput g_40_6 x6 ((aget g_40_6 x6).getD [] ++ [Lnk.mk c9 1])) :: box b5 64 [sv uqn] :: row EConfig (sv uqn) (addQ m_35_6 l_39_6 x6) :: box b16 63 [.int .i64 x6.p, .int .i64 x6.i, .int .i64 x6.q, .int .i64 x6.j] :: itr r74 mb74 lm73 (dn_74_4 ++ [p74]) :: row EConfig (sv u60) (silL a b xs zs c9) :: box b10 63 [.int .i64 c9.p, .int .i64 c9.i, .int .i64 c9.q, .int .i64 c9.j] :: row EConfig (sv u57) (l_8_0 ++ [c9]) :: mpr QConfig (Value.int .i64) b41 [] :: box b3 63 [.int .i64 a.start, .int .i64 0, .int .i64 b.start, .int .i64 0] :: []) w34 := M.perm (front_perm (i := 3) rfl).symm
    replace M : Mem w I J73 (row EConfig (sv uqn) (addQ m_35_6 l_39_6 x6) :: box b4 60 [.map (some b35)] :: mpr QConfig Value.bool b35 (addK m_35_6 x6) :: box b6 132 [.map (some b40)] :: gmap QConfig ELnk b40 usn usn (aput g_40_6 x6 ((aget g_40_6 x6).getD [] ++ [Lnk.mk c9 1])) :: box b5 64 [sv uqn] :: box b16 63 [.int .i64 x6.p, .int .i64 x6.i, .int .i64 x6.q, .int .i64 x6.j] :: itr r74 mb74 lm73 (dn_74_4 ++ [p74]) :: row EConfig (sv u60) (silL a b xs zs c9) :: box b10 63 [.int .i64 c9.p, .int .i64 c9.i, .int .i64 c9.q, .int .i64 c9.j] :: row EConfig (sv u57) (l_8_0 ++ [c9]) :: mpr QConfig (Value.int .i64) b41 [] :: box b3 63 [.int .i64 a.start, .int .i64 0, .int .i64 b.start, .int .i64 0] :: []) w34 := M.perm (front_perm (i := 5) rfl).symm
    replace M : Mem w I J73 (box b5 64 [sv uqn] :: row EConfig (sv uqn) (addQ m_35_6 l_39_6 x6) :: box b4 60 [.map (some b35)] :: mpr QConfig Value.bool b35 (addK m_35_6 x6) :: box b6 132 [.map (some b40)] :: gmap QConfig ELnk b40 usn usn (aput g_40_6 x6 ((aget g_40_6 x6).getD [] ++ [Lnk.mk c9 1])) :: box b16 63 [.int .i64 x6.p, .int .i64 x6.i, .int .i64 x6.q, .int .i64 x6.j] :: itr r74 mb74 lm73 (dn_74_4 ++ [p74]) :: row EConfig (sv u60) (silL a b xs zs c9) :: box b10 63 [.int .i64 c9.p, .int .i64 c9.i, .int .i64 c9.q, .int .i64 c9.j] :: row EConfig (sv u57) (l_8_0 ++ [c9]) :: mpr QConfig (Value.int .i64) b41 [] :: box b3 63 [.int .i64 a.start, .int .i64 0, .int .i64 b.start, .int .i64 0] :: []) w34 := M.perm (front_perm (i := 5) rfl).symm
    replace M : Mem w I J73 (gmap QConfig ELnk b40 usn usn (aput g_40_6 x6 ((aget g_40_6 x6).getD [] ++ [Lnk.mk c9 1])) :: box b5 64 [sv uqn] :: row EConfig (sv uqn) (addQ m_35_6 l_39_6 x6) :: box b4 60 [.map (some b35)] :: mpr QConfig Value.bool b35 (addK m_35_6 x6) :: box b6 132 [.map (some b40)] :: box b16 63 [.int .i64 x6.p, .int .i64 x6.i, .int .i64 x6.q, .int .i64 x6.j] :: itr r74 mb74 lm73 (dn_74_4 ++ [p74]) :: row EConfig (sv u60) (silL a b xs zs c9) :: box b10 63 [.int .i64 c9.p, .int .i64 c9.i, .int .i64 c9.q, .int .i64 c9.j] :: row EConfig (sv u57) (l_8_0 ++ [c9]) :: mpr QConfig (Value.int .i64) b41 [] :: box b3 63 [.int .i64 a.start, .int .i64 0, .int .i64 b.start, .int .i64 0] :: []) w34 := M.perm (front_perm (i := 5) rfl).symm
    replace M : Mem w I J73 (box b6 132 [.map (some b40)] :: gmap QConfig ELnk b40 usn usn (aput g_40_6 x6 ((aget g_40_6 x6).getD [] ++ [Lnk.mk c9 1])) :: box b5 64 [sv uqn] :: row EConfig (sv uqn) (addQ m_35_6 l_39_6 x6) :: box b4 60 [.map (some b35)] :: mpr QConfig Value.bool b35 (addK m_35_6 x6) :: box b16 63 [.int .i64 x6.p, .int .i64 x6.i, .int .i64 x6.q, .int .i64 x6.j] :: itr r74 mb74 lm73 (dn_74_4 ++ [p74]) :: row EConfig (sv u60) (silL a b xs zs c9) :: box b10 63 [.int .i64 c9.p, .int .i64 c9.i, .int .i64 c9.q, .int .i64 c9.j] :: row EConfig (sv u57) (l_8_0 ++ [c9]) :: mpr QConfig (Value.int .i64) b41 [] :: box b3 63 [.int .i64 a.start, .int .i64 0, .int .i64 b.start, .int .i64 0] :: []) w34 := M.perm (front_perm (i := 5) rfl).symm
    replace M : Mem w I J73 (mpr QConfig (Value.int .i64) b41 [] :: box b6 132 [.map (some b40)] :: gmap QConfig ELnk b40 usn usn (aput g_40_6 x6 ((aget g_40_6 x6).getD [] ++ [Lnk.mk c9 1])) :: box b5 64 [sv uqn] :: row EConfig (sv uqn) (addQ m_35_6 l_39_6 x6) :: box b4 60 [.map (some b35)] :: mpr QConfig Value.bool b35 (addK m_35_6 x6) :: box b16 63 [.int .i64 x6.p, .int .i64 x6.i, .int .i64 x6.q, .int .i64 x6.j] :: itr r74 mb74 lm73 (dn_74_4 ++ [p74]) :: row EConfig (sv u60) (silL a b xs zs c9) :: box b10 63 [.int .i64 c9.p, .int .i64 c9.i, .int .i64 c9.q, .int .i64 c9.j] :: row EConfig (sv u57) (l_8_0 ++ [c9]) :: box b3 63 [.int .i64 a.start, .int .i64 0, .int .i64 b.start, .int .i64 0] :: []) w34 := M.perm (front_perm (i := 11) rfl).symm
    replace M : Mem w I J73 (row EConfig (sv u57) (l_8_0 ++ [c9]) :: mpr QConfig (Value.int .i64) b41 [] :: box b6 132 [.map (some b40)] :: gmap QConfig ELnk b40 usn usn (aput g_40_6 x6 ((aget g_40_6 x6).getD [] ++ [Lnk.mk c9 1])) :: box b5 64 [sv uqn] :: row EConfig (sv uqn) (addQ m_35_6 l_39_6 x6) :: box b4 60 [.map (some b35)] :: mpr QConfig Value.bool b35 (addK m_35_6 x6) :: box b16 63 [.int .i64 x6.p, .int .i64 x6.i, .int .i64 x6.q, .int .i64 x6.j] :: itr r74 mb74 lm73 (dn_74_4 ++ [p74]) :: row EConfig (sv u60) (silL a b xs zs c9) :: box b10 63 [.int .i64 c9.p, .int .i64 c9.i, .int .i64 c9.q, .int .i64 c9.j] :: box b3 63 [.int .i64 a.start, .int .i64 0, .int .i64 b.start, .int .i64 0] :: []) w34 := M.perm (front_perm (i := 11) rfl).symm
    replace M : Mem w I J73 (box b10 63 [.int .i64 c9.p, .int .i64 c9.i, .int .i64 c9.q, .int .i64 c9.j] :: row EConfig (sv u57) (l_8_0 ++ [c9]) :: mpr QConfig (Value.int .i64) b41 [] :: box b6 132 [.map (some b40)] :: gmap QConfig ELnk b40 usn usn (aput g_40_6 x6 ((aget g_40_6 x6).getD [] ++ [Lnk.mk c9 1])) :: box b5 64 [sv uqn] :: row EConfig (sv uqn) (addQ m_35_6 l_39_6 x6) :: box b4 60 [.map (some b35)] :: mpr QConfig Value.bool b35 (addK m_35_6 x6) :: box b16 63 [.int .i64 x6.p, .int .i64 x6.i, .int .i64 x6.q, .int .i64 x6.j] :: itr r74 mb74 lm73 (dn_74_4 ++ [p74]) :: row EConfig (sv u60) (silL a b xs zs c9) :: box b3 63 [.int .i64 a.start, .int .i64 0, .int .i64 b.start, .int .i64 0] :: []) w34 := M.perm (front_perm (i := 11) rfl).symm
    replace M : Mem w I J73 (row EConfig (sv u60) (silL a b xs zs c9) :: box b10 63 [.int .i64 c9.p, .int .i64 c9.i, .int .i64 c9.q, .int .i64 c9.j] :: row EConfig (sv u57) (l_8_0 ++ [c9]) :: mpr QConfig (Value.int .i64) b41 [] :: box b6 132 [.map (some b40)] :: gmap QConfig ELnk b40 usn usn (aput g_40_6 x6 ((aget g_40_6 x6).getD [] ++ [Lnk.mk c9 1])) :: box b5 64 [sv uqn] :: row EConfig (sv uqn) (addQ m_35_6 l_39_6 x6) :: box b4 60 [.map (some b35)] :: mpr QConfig Value.bool b35 (addK m_35_6 x6) :: box b16 63 [.int .i64 x6.p, .int .i64 x6.i, .int .i64 x6.q, .int .i64 x6.j] :: itr r74 mb74 lm73 (dn_74_4 ++ [p74]) :: box b3 63 [.int .i64 a.start, .int .i64 0, .int .i64 b.start, .int .i64 0] :: []) w34 := M.perm (front_perm (i := 11) rfl).symm
    replace M : Mem w I J73 (itr r74 mb74 lm73 (dn_74_4 ++ [p74]) :: row EConfig (sv u60) (silL a b xs zs c9) :: box b10 63 [.int .i64 c9.p, .int .i64 c9.i, .int .i64 c9.q, .int .i64 c9.j] :: row EConfig (sv u57) (l_8_0 ++ [c9]) :: mpr QConfig (Value.int .i64) b41 [] :: box b6 132 [.map (some b40)] :: gmap QConfig ELnk b40 usn usn (aput g_40_6 x6 ((aget g_40_6 x6).getD [] ++ [Lnk.mk c9 1])) :: box b5 64 [sv uqn] :: row EConfig (sv uqn) (addQ m_35_6 l_39_6 x6) :: box b4 60 [.map (some b35)] :: mpr QConfig Value.bool b35 (addK m_35_6 x6) :: box b16 63 [.int .i64 x6.p, .int .i64 x6.i, .int .i64 x6.q, .int .i64 x6.j] :: box b3 63 [.int .i64 a.start, .int .i64 0, .int .i64 b.start, .int .i64 0] :: []) w34 := M.perm (front_perm (i := 11) rfl).symm
    replace M : Mem w I J73 (box b16 63 [.int .i64 x6.p, .int .i64 x6.i, .int .i64 x6.q, .int .i64 x6.j] :: itr r74 mb74 lm73 (dn_74_4 ++ [p74]) :: row EConfig (sv u60) (silL a b xs zs c9) :: box b10 63 [.int .i64 c9.p, .int .i64 c9.i, .int .i64 c9.q, .int .i64 c9.j] :: row EConfig (sv u57) (l_8_0 ++ [c9]) :: mpr QConfig (Value.int .i64) b41 [] :: box b6 132 [.map (some b40)] :: gmap QConfig ELnk b40 usn usn (aput g_40_6 x6 ((aget g_40_6 x6).getD [] ++ [Lnk.mk c9 1])) :: box b5 64 [sv uqn] :: row EConfig (sv uqn) (addQ m_35_6 l_39_6 x6) :: box b4 60 [.map (some b35)] :: mpr QConfig Value.bool b35 (addK m_35_6 x6) :: box b3 63 [.int .i64 a.start, .int .i64 0, .int .i64 b.start, .int .i64 0] :: []) w34 := M.perm (front_perm (i := 11) rfl).symm
    refine wl_nil ?_
    refine wc_region ?_
    refine wl_m M (q_add rfl rfl (IntWalk.i64_in _ (by omega))) rfl rfl ?_
    refine wl_mv M rfl rfl ?_
    refine wl_nil ?_
    replace M := M.drop 0
    refine ⟨(k6 + 1, uqn, addQ m_35_6 l_39_6 x6, addK m_35_6 x6, usn, aput g_40_6 x6 ((aget g_40_6 x6).getD [] ++ [Lnk.mk c9 1])), ?_, ⟨(by omega), (by rw [take_snoc hx6, ← List.append_assoc]; exact add_bfs hB6 hm6 hin6), (by have := addK_tr (d := x6) (K := vs ++ [c9]) (qs := l_39_6) (l := m_35_6) (by rw [hm6]; simp); rw [this]; simp), (by rw [take_snoc hx6, ← List.append_assoc, ev1_snoc, ← List.append_assoc, hg6]; exact (grp_snoc _ _ _ (x6, Lnk.mk c9 1)).symm), M⟩, ⟨rfl, trivial⟩, unw_look rfl unw_base⟩
    show ((aget (grp (fun e : Int × Config => e.1) (fun e : Int × Config => e.2) (spkL a b xs zs c9)) p74.1).getD []).length - (k6 + 1) < ((aget (grp (fun e : Int × Config => e.1) (fun e : Int × Config => e.2) (spkL a b xs zs c9)) p74.1).getD []).length - k6
    omega
   have hke6 : k6 = ((aget (grp (fun e : Int × Config => e.1) (fun e : Int × Config => e.2) (spkL a b xs zs c9)) p74.1).getD []).length := by omega
   rw [hke6, List.take_length] at hB6 hg6
   refine wc_exit rfl ?_
   refine ⟨(dn_74_4 ++ [p74], u_39_6, l_39_6, m_35_6, us_40_6, g_40_6), ?_, ⟨(by rw [List.flatMap_append, List.flatMap_singleton, ← List.append_assoc]; exact hB6), hm6, (by rw [List.flatMap_append, List.flatMap_singleton]; exact hg6), M⟩, trivial, unw_look rfl (unw_hav rfl (unw_look rfl unw_base))⟩
   show lm73.length - (dn_74_4 ++ [p74]).length < lm73.length - dn_74_4.length
   rw [List.length_append, List.length_singleton]; omega
  refine wc_skip ?_
  refine wc_seq ?_
  refine wc_seq ?_
  refine wc_region ?_
  refine wl_mv M rfl rfl ?_
  refine wl_m M (q_ldbA 0 Tryz.underlying63 rfl sz63 rfl rfl rfl rfl) rfl rfl ?_
  refine wl_e (e_callO (val := sv) Tryz.func37 rfl (vs := [.pointer (some ⟨sb, 0, none⟩), .agg #[.int .i64 c9.p, .int .i64 c9.i, .int .i64 c9.q, .int .i64 c9.j]]) rfl (silentX_c hF hc9 M hB0)) rfl rfl ?_
  rintro _ w35 ⟨u60, rfl, M⟩
  refine wl_m M (q_lenr 0 M rfl Tryz.underlying64 rfl) rfl rfl ?_
  refine wl_mv M rfl rfl ?_
  refine wl_nil ?_
  refine wc_block ?_
  refine wc_loop (α := Nat × SV × (List Config) × (List (Config × Bool)) × (List SV) × (List (Config × List Lnk))) [12, 62, 63, 64, 65, 66, 67, 68, 69, 70] (fun ((k2, u_39_2, l_39_2, m_35_2, us_40_2, g_40_2) : Nat × SV × (List Config) × (List (Config × Bool)) × (List SV) × (List (Config × List Lnk))) => [(62, .int .i64 (k2 : Int))])
    (fun ((k2, u_39_2, l_39_2, m_35_2, us_40_2, g_40_2) : Nat × SV × (List Config) × (List (Config × Bool)) × (List SV) × (List (Config × List Lnk))) w' => (k2 ≤ (silL a b xs zs c9).length) ∧ (BfsIn (cfgN a b xs zs) (· = Config.mk a.start 0 b.start 0) vs c9 ((silL a b xs zs c9).take k2) l_39_2) ∧ (m_35_2 = tr (vs ++ c9 :: l_39_2)) ∧ (g_40_2 = grp (fun e : Config × Lnk => e.1) (fun e : Config × Lnk => e.2) (ev ++ ev0 c9 ((silL a b xs zs c9).take k2))) ∧ Mem w I I (row EConfig (sv u60) (silL a b xs zs c9) :: box b10 63 [.int .i64 c9.p, .int .i64 c9.i, .int .i64 c9.q, .int .i64 c9.j] :: row EConfig (sv u_8_0) l_8_0 :: mpr QConfig (Value.int .i64) b41 [] :: box b6 132 [.map (some b40)] :: gmap QConfig ELnk b40 us_40_2 us_40_2 g_40_2 :: box b5 64 [sv u_39_2] :: row EConfig (sv u_39_2) l_39_2 :: box b4 60 [.map (some b35)] :: mpr QConfig Value.bool b35 m_35_2 :: box b3 63 [.int .i64 a.start, .int .i64 0, .int .i64 b.start, .int .i64 0] :: []) w')
    (fun ((k2, u_39_2, l_39_2, m_35_2, us_40_2, g_40_2) : Nat × SV × (List Config) × (List (Config × Bool)) × (List SV) × (List (Config × List Lnk))) => (silL a b xs zs c9).length - k2) (0, u50, l_39_0.drop 1, m_35_0, us_40_0, g_40_0) ⟨rfl, trivial⟩ ?_ ?_
  ·refine ⟨Nat.zero_le _, (by have := hB; rw [hq] at this; rw [hq]; exact this.opn), (by rw [hm, hq]; rfl), (by rw [hg]; simp [ev0]), ?_⟩
   exact M
  rintro ⟨k2, u_39_2, l_39_2, m_35_2, us_40_2, g_40_2⟩ jj2 w36 ⟨hk2, hB2, hm2, hg2, M⟩
  have hql2 := hB2.len hcr
  refine wc_seq ?_
  refine wc_region ?_
  refine wl_m M (q_lss rfl rfl) rfl rfl ?_
  refine wl_nil ?_
  refine wc_seq ?_
  refine wc_dec rfl (fun ht63 => ?_) (fun ht63 => ?_)
  ·obtain ⟨x2, hx2⟩ : ∃ x_, (silL a b xs zs c9)[k2]? = some x_ := ⟨_, List.getElem?_eq_getElem (by omega)⟩
   refine wc_skip ?_
   refine wc_seq ?_
   refine wc_block ?_
   refine wc_seq ?_
   refine wc_region ?_
   refine wl_ixr (j := k2) 0 M rfl Tryz.underlying64 rfl rfl hx2 rfl (fun b64 o64 p64 => ?_)
   refine wl_m M (q_ldp p64 rfl rfl) rfl rfl ?_
   refine wl_e (e_alloc M z63) rfl rfl ?_
   rintro _ w37 ⟨b12, rfl, M⟩
   refine wl_e0 (e_stW 0 M rfl rfl rfl sz63 rfl rfl) rfl ?_
   intro _ w38 M
   simp only [sC0, sCS] at M
   refine wl_nil ?_
   refine wc_region ?_
   refine wl_mv M rfl rfl ?_
   refine wl_m M (q_ldbA 2 Tryz.underlying63 rfl sz63 rfl rfl rfl rfl) rfl rfl ?_
   refine wl_m M (q_ldbA 0 Tryz.underlying63 rfl sz63 rfl rfl rfl rfl) rfl rfl ?_
   replace M : Mem w I I (mpr QConfig (Value.int .i64) b41 [] :: box b12 63 [.int .i64 x2.p, .int .i64 x2.i, .int .i64 x2.q, .int .i64 x2.j] :: row EConfig (sv u60) (silL a b xs zs c9) :: box b10 63 [.int .i64 c9.p, .int .i64 c9.i, .int .i64 c9.q, .int .i64 c9.j] :: row EConfig (sv u_8_0) l_8_0 :: box b6 132 [.map (some b40)] :: gmap QConfig ELnk b40 us_40_2 us_40_2 g_40_2 :: box b5 64 [sv u_39_2] :: row EConfig (sv u_39_2) l_39_2 :: box b4 60 [.map (some b35)] :: mpr QConfig Value.bool b35 m_35_2 :: box b3 63 [.int .i64 a.start, .int .i64 0, .int .i64 b.start, .int .i64 0] :: []) w38 := M.perm (front_perm (i := 4) rfl).symm
   replace M : Mem w I I (row EConfig (sv u_8_0) l_8_0 :: mpr QConfig (Value.int .i64) b41 [] :: box b12 63 [.int .i64 x2.p, .int .i64 x2.i, .int .i64 x2.q, .int .i64 x2.j] :: row EConfig (sv u60) (silL a b xs zs c9) :: box b10 63 [.int .i64 c9.p, .int .i64 c9.i, .int .i64 c9.q, .int .i64 c9.j] :: box b6 132 [.map (some b40)] :: gmap QConfig ELnk b40 us_40_2 us_40_2 g_40_2 :: box b5 64 [sv u_39_2] :: row EConfig (sv u_39_2) l_39_2 :: box b4 60 [.map (some b35)] :: mpr QConfig Value.bool b35 m_35_2 :: box b3 63 [.int .i64 a.start, .int .i64 0, .int .i64 b.start, .int .i64 0] :: []) w38 := M.perm (front_perm (i := 4) rfl).symm
   replace M : Mem w I I (box b10 63 [.int .i64 c9.p, .int .i64 c9.i, .int .i64 c9.q, .int .i64 c9.j] :: row EConfig (sv u_8_0) l_8_0 :: mpr QConfig (Value.int .i64) b41 [] :: box b12 63 [.int .i64 x2.p, .int .i64 x2.i, .int .i64 x2.q, .int .i64 x2.j] :: row EConfig (sv u60) (silL a b xs zs c9) :: box b6 132 [.map (some b40)] :: gmap QConfig ELnk b40 us_40_2 us_40_2 g_40_2 :: box b5 64 [sv u_39_2] :: row EConfig (sv u_39_2) l_39_2 :: box b4 60 [.map (some b35)] :: mpr QConfig Value.bool b35 m_35_2 :: box b3 63 [.int .i64 a.start, .int .i64 0, .int .i64 b.start, .int .i64 0] :: []) w38 := M.perm (front_perm (i := 4) rfl).symm
   replace M : Mem w I I (row EConfig (sv u60) (silL a b xs zs c9) :: box b10 63 [.int .i64 c9.p, .int .i64 c9.i, .int .i64 c9.q, .int .i64 c9.j] :: row EConfig (sv u_8_0) l_8_0 :: mpr QConfig (Value.int .i64) b41 [] :: box b12 63 [.int .i64 x2.p, .int .i64 x2.i, .int .i64 x2.q, .int .i64 x2.j] :: box b6 132 [.map (some b40)] :: gmap QConfig ELnk b40 us_40_2 us_40_2 g_40_2 :: box b5 64 [sv u_39_2] :: row EConfig (sv u_39_2) l_39_2 :: box b4 60 [.map (some b35)] :: mpr QConfig Value.bool b35 m_35_2 :: box b3 63 [.int .i64 a.start, .int .i64 0, .int .i64 b.start, .int .i64 0] :: []) w38 := M.perm (front_perm (i := 4) rfl).symm
   replace M : Mem w I I (box b12 63 [.int .i64 x2.p, .int .i64 x2.i, .int .i64 x2.q, .int .i64 x2.j] :: row EConfig (sv u60) (silL a b xs zs c9) :: box b10 63 [.int .i64 c9.p, .int .i64 c9.i, .int .i64 c9.q, .int .i64 c9.j] :: row EConfig (sv u_8_0) l_8_0 :: mpr QConfig (Value.int .i64) b41 [] :: box b6 132 [.map (some b40)] :: gmap QConfig ELnk b40 us_40_2 us_40_2 g_40_2 :: box b5 64 [sv u_39_2] :: row EConfig (sv u_39_2) l_39_2 :: box b4 60 [.map (some b35)] :: mpr QConfig Value.bool b35 m_35_2 :: box b3 63 [.int .i64 a.start, .int .i64 0, .int .i64 b.start, .int .i64 0] :: []) w38 := M.perm (front_perm (i := 4) rfl).symm
   replace M : Mem w I I (row EConfig (sv u_39_2) l_39_2 :: box b12 63 [.int .i64 x2.p, .int .i64 x2.i, .int .i64 x2.q, .int .i64 x2.j] :: row EConfig (sv u60) (silL a b xs zs c9) :: box b10 63 [.int .i64 c9.p, .int .i64 c9.i, .int .i64 c9.q, .int .i64 c9.j] :: row EConfig (sv u_8_0) l_8_0 :: mpr QConfig (Value.int .i64) b41 [] :: box b6 132 [.map (some b40)] :: gmap QConfig ELnk b40 us_40_2 us_40_2 g_40_2 :: box b5 64 [sv u_39_2] :: box b4 60 [.map (some b35)] :: mpr QConfig Value.bool b35 m_35_2 :: box b3 63 [.int .i64 a.start, .int .i64 0, .int .i64 b.start, .int .i64 0] :: []) w38 := M.perm (front_perm (i := 8) rfl).symm
   replace M : Mem w I I (box b5 64 [sv u_39_2] :: row EConfig (sv u_39_2) l_39_2 :: box b12 63 [.int .i64 x2.p, .int .i64 x2.i, .int .i64 x2.q, .int .i64 x2.j] :: row EConfig (sv u60) (silL a b xs zs c9) :: box b10 63 [.int .i64 c9.p, .int .i64 c9.i, .int .i64 c9.q, .int .i64 c9.j] :: row EConfig (sv u_8_0) l_8_0 :: mpr QConfig (Value.int .i64) b41 [] :: box b6 132 [.map (some b40)] :: gmap QConfig ELnk b40 us_40_2 us_40_2 g_40_2 :: box b4 60 [.map (some b35)] :: mpr QConfig Value.bool b35 m_35_2 :: box b3 63 [.int .i64 a.start, .int .i64 0, .int .i64 b.start, .int .i64 0] :: []) w38 := M.perm (front_perm (i := 8) rfl).symm
   replace M : Mem w I I (mpr QConfig Value.bool b35 m_35_2 :: box b5 64 [sv u_39_2] :: row EConfig (sv u_39_2) l_39_2 :: box b12 63 [.int .i64 x2.p, .int .i64 x2.i, .int .i64 x2.q, .int .i64 x2.j] :: row EConfig (sv u60) (silL a b xs zs c9) :: box b10 63 [.int .i64 c9.p, .int .i64 c9.i, .int .i64 c9.q, .int .i64 c9.j] :: row EConfig (sv u_8_0) l_8_0 :: mpr QConfig (Value.int .i64) b41 [] :: box b6 132 [.map (some b40)] :: gmap QConfig ELnk b40 us_40_2 us_40_2 g_40_2 :: box b4 60 [.map (some b35)] :: box b3 63 [.int .i64 a.start, .int .i64 0, .int .i64 b.start, .int .i64 0] :: []) w38 := M.perm (front_perm (i := 10) rfl).symm
   replace M : Mem w I I (box b4 60 [.map (some b35)] :: mpr QConfig Value.bool b35 m_35_2 :: box b5 64 [sv u_39_2] :: row EConfig (sv u_39_2) l_39_2 :: box b12 63 [.int .i64 x2.p, .int .i64 x2.i, .int .i64 x2.q, .int .i64 x2.j] :: row EConfig (sv u60) (silL a b xs zs c9) :: box b10 63 [.int .i64 c9.p, .int .i64 c9.i, .int .i64 c9.q, .int .i64 c9.j] :: row EConfig (sv u_8_0) l_8_0 :: mpr QConfig (Value.int .i64) b41 [] :: box b6 132 [.map (some b40)] :: gmap QConfig ELnk b40 us_40_2 us_40_2 g_40_2 :: box b3 63 [.int .i64 a.start, .int .i64 0, .int .i64 b.start, .int .i64 0] :: []) w38 := M.perm (front_perm (i := 10) rfl).symm
   replace M : Mem w I I (gmap QConfig ELnk b40 us_40_2 us_40_2 g_40_2 :: box b4 60 [.map (some b35)] :: mpr QConfig Value.bool b35 m_35_2 :: box b5 64 [sv u_39_2] :: row EConfig (sv u_39_2) l_39_2 :: box b12 63 [.int .i64 x2.p, .int .i64 x2.i, .int .i64 x2.q, .int .i64 x2.j] :: row EConfig (sv u60) (silL a b xs zs c9) :: box b10 63 [.int .i64 c9.p, .int .i64 c9.i, .int .i64 c9.q, .int .i64 c9.j] :: row EConfig (sv u_8_0) l_8_0 :: mpr QConfig (Value.int .i64) b41 [] :: box b6 132 [.map (some b40)] :: box b3 63 [.int .i64 a.start, .int .i64 0, .int .i64 b.start, .int .i64 0] :: []) w38 := M.perm (front_perm (i := 10) rfl).symm
   replace M : Mem w I I (box b6 132 [.map (some b40)] :: gmap QConfig ELnk b40 us_40_2 us_40_2 g_40_2 :: box b4 60 [.map (some b35)] :: mpr QConfig Value.bool b35 m_35_2 :: box b5 64 [sv u_39_2] :: row EConfig (sv u_39_2) l_39_2 :: box b12 63 [.int .i64 x2.p, .int .i64 x2.i, .int .i64 x2.q, .int .i64 x2.j] :: row EConfig (sv u60) (silL a b xs zs c9) :: box b10 63 [.int .i64 c9.p, .int .i64 c9.i, .int .i64 c9.q, .int .i64 c9.j] :: row EConfig (sv u_8_0) l_8_0 :: mpr QConfig (Value.int .i64) b41 [] :: box b3 63 [.int .i64 a.start, .int .i64 0, .int .i64 b.start, .int .i64 0] :: []) w38 := M.perm (front_perm (i := 10) rfl).symm
   refine wl_e (e_callV (vs := [.agg #[.int .i64 c9.p, .int .i64 c9.i, .int .i64 c9.q, .int .i64 c9.j], .agg #[.int .i64 x2.p, .int .i64 x2.i, .int .i64 x2.q, .int .i64 x2.j], .int .i64 0]) (caps := [.pointer (some ⟨b6, 0, none⟩), .pointer (some ⟨b4, 0, none⟩), .pointer (some ⟨b5, 0, none⟩)]) Tryz.func64 rfl rfl rfl (add_c c9 x2 0 (by rw [hg2]; have h1 := grp_look_len (fun e : Config × Lnk => e.1) (fun e : Config × Lnk => e.2) x2 (ev ++ ev0 c9 ((silL a b xs zs c9).take k2)); rw [List.length_append, ev0_len, List.length_take] at h1; omega) (by omega) M)) rfl rfl ?_
   rintro _ w39 ⟨usn, uqn, M⟩
   replace M : Mem w I I (mpr QConfig Value.bool b35 (addK m_35_2 x2) :: box b6 132 [.map (some b40)] :: gmap QConfig ELnk b40 usn usn (aput g_40_2 x2 ((aget g_40_2 x2).getD [] ++ [Lnk.mk c9 0])) :: box b4 60 [.map (some b35)] :: box b5 64 [sv uqn] :: row EConfig (sv uqn) (addQ m_35_2 l_39_2 x2) :: box b12 63 [.int .i64 x2.p, .int .i64 x2.i, .int .i64 x2.q, .int .i64 x2.j] :: row EConfig (sv u60) (silL a b xs zs c9) :: box b10 63 [.int .i64 c9.p, .int .i64 c9.i, .int .i64 c9.q, .int .i64 c9.j] :: row EConfig (sv u_8_0) l_8_0 :: mpr QConfig (Value.int .i64) b41 [] :: box b3 63 [.int .i64 a.start, .int .i64 0, .int .i64 b.start, .int .i64 0] :: []) w39 := M.perm (front_perm (i := 3) rfl).symm
   replace M : Mem w I I (box b4 60 [.map (some b35)] :: mpr QConfig Value.bool b35 (addK m_35_2 x2) :: box b6 132 [.map (some b40)] :: gmap QConfig ELnk b40 usn usn (aput g_40_2 x2 ((aget g_40_2 x2).getD [] ++ [Lnk.mk c9 0])) :: box b5 64 [sv uqn] :: row EConfig (sv uqn) (addQ m_35_2 l_39_2 x2) :: box b12 63 [.int .i64 x2.p, .int .i64 x2.i, .int .i64 x2.q, .int .i64 x2.j] :: row EConfig (sv u60) (silL a b xs zs c9) :: box b10 63 [.int .i64 c9.p, .int .i64 c9.i, .int .i64 c9.q, .int .i64 c9.j] :: row EConfig (sv u_8_0) l_8_0 :: mpr QConfig (Value.int .i64) b41 [] :: box b3 63 [.int .i64 a.start, .int .i64 0, .int .i64 b.start, .int .i64 0] :: []) w39 := M.perm (front_perm (i := 3) rfl).symm
   replace M : Mem w I I (row EConfig (sv uqn) (addQ m_35_2 l_39_2 x2) :: box b4 60 [.map (some b35)] :: mpr QConfig Value.bool b35 (addK m_35_2 x2) :: box b6 132 [.map (some b40)] :: gmap QConfig ELnk b40 usn usn (aput g_40_2 x2 ((aget g_40_2 x2).getD [] ++ [Lnk.mk c9 0])) :: box b5 64 [sv uqn] :: box b12 63 [.int .i64 x2.p, .int .i64 x2.i, .int .i64 x2.q, .int .i64 x2.j] :: row EConfig (sv u60) (silL a b xs zs c9) :: box b10 63 [.int .i64 c9.p, .int .i64 c9.i, .int .i64 c9.q, .int .i64 c9.j] :: row EConfig (sv u_8_0) l_8_0 :: mpr QConfig (Value.int .i64) b41 [] :: box b3 63 [.int .i64 a.start, .int .i64 0, .int .i64 b.start, .int .i64 0] :: []) w39 := M.perm (front_perm (i := 5) rfl).symm
   replace M : Mem w I I (box b5 64 [sv uqn] :: row EConfig (sv uqn) (addQ m_35_2 l_39_2 x2) :: box b4 60 [.map (some b35)] :: mpr QConfig Value.bool b35 (addK m_35_2 x2) :: box b6 132 [.map (some b40)] :: gmap QConfig ELnk b40 usn usn (aput g_40_2 x2 ((aget g_40_2 x2).getD [] ++ [Lnk.mk c9 0])) :: box b12 63 [.int .i64 x2.p, .int .i64 x2.i, .int .i64 x2.q, .int .i64 x2.j] :: row EConfig (sv u60) (silL a b xs zs c9) :: box b10 63 [.int .i64 c9.p, .int .i64 c9.i, .int .i64 c9.q, .int .i64 c9.j] :: row EConfig (sv u_8_0) l_8_0 :: mpr QConfig (Value.int .i64) b41 [] :: box b3 63 [.int .i64 a.start, .int .i64 0, .int .i64 b.start, .int .i64 0] :: []) w39 := M.perm (front_perm (i := 5) rfl).symm
   replace M : Mem w I I (gmap QConfig ELnk b40 usn usn (aput g_40_2 x2 ((aget g_40_2 x2).getD [] ++ [Lnk.mk c9 0])) :: box b5 64 [sv uqn] :: row EConfig (sv uqn) (addQ m_35_2 l_39_2 x2) :: box b4 60 [.map (some b35)] :: mpr QConfig Value.bool b35 (addK m_35_2 x2) :: box b6 132 [.map (some b40)] :: box b12 63 [.int .i64 x2.p, .int .i64 x2.i, .int .i64 x2.q, .int .i64 x2.j] :: row EConfig (sv u60) (silL a b xs zs c9) :: box b10 63 [.int .i64 c9.p, .int .i64 c9.i, .int .i64 c9.q, .int .i64 c9.j] :: row EConfig (sv u_8_0) l_8_0 :: mpr QConfig (Value.int .i64) b41 [] :: box b3 63 [.int .i64 a.start, .int .i64 0, .int .i64 b.start, .int .i64 0] :: []) w39 := M.perm (front_perm (i := 5) rfl).symm
   replace M : Mem w I I (box b6 132 [.map (some b40)] :: gmap QConfig ELnk b40 usn usn (aput g_40_2 x2 ((aget g_40_2 x2).getD [] ++ [Lnk.mk c9 0])) :: box b5 64 [sv uqn] :: row EConfig (sv uqn) (addQ m_35_2 l_39_2 x2) :: box b4 60 [.map (some b35)] :: mpr QConfig Value.bool b35 (addK m_35_2 x2) :: box b12 63 [.int .i64 x2.p, .int .i64 x2.i, .int .i64 x2.q, .int .i64 x2.j] :: row EConfig (sv u60) (silL a b xs zs c9) :: box b10 63 [.int .i64 c9.p, .int .i64 c9.i, .int .i64 c9.q, .int .i64 c9.j] :: row EConfig (sv u_8_0) l_8_0 :: mpr QConfig (Value.int .i64) b41 [] :: box b3 63 [.int .i64 a.start, .int .i64 0, .int .i64 b.start, .int .i64 0] :: []) w39 := M.perm (front_perm (i := 5) rfl).symm
   replace M : Mem w I I (mpr QConfig (Value.int .i64) b41 [] :: box b6 132 [.map (some b40)] :: gmap QConfig ELnk b40 usn usn (aput g_40_2 x2 ((aget g_40_2 x2).getD [] ++ [Lnk.mk c9 0])) :: box b5 64 [sv uqn] :: row EConfig (sv uqn) (addQ m_35_2 l_39_2 x2) :: box b4 60 [.map (some b35)] :: mpr QConfig Value.bool b35 (addK m_35_2 x2) :: box b12 63 [.int .i64 x2.p, .int .i64 x2.i, .int .i64 x2.q, .int .i64 x2.j] :: row EConfig (sv u60) (silL a b xs zs c9) :: box b10 63 [.int .i64 c9.p, .int .i64 c9.i, .int .i64 c9.q, .int .i64 c9.j] :: row EConfig (sv u_8_0) l_8_0 :: box b3 63 [.int .i64 a.start, .int .i64 0, .int .i64 b.start, .int .i64 0] :: []) w39 := M.perm (front_perm (i := 10) rfl).symm
   replace M : Mem w I I (row EConfig (sv u_8_0) l_8_0 :: mpr QConfig (Value.int .i64) b41 [] :: box b6 132 [.map (some b40)] :: gmap QConfig ELnk b40 usn usn (aput g_40_2 x2 ((aget g_40_2 x2).getD [] ++ [Lnk.mk c9 0])) :: box b5 64 [sv uqn] :: row EConfig (sv uqn) (addQ m_35_2 l_39_2 x2) :: box b4 60 [.map (some b35)] :: mpr QConfig Value.bool b35 (addK m_35_2 x2) :: box b12 63 [.int .i64 x2.p, .int .i64 x2.i, .int .i64 x2.q, .int .i64 x2.j] :: row EConfig (sv u60) (silL a b xs zs c9) :: box b10 63 [.int .i64 c9.p, .int .i64 c9.i, .int .i64 c9.q, .int .i64 c9.j] :: box b3 63 [.int .i64 a.start, .int .i64 0, .int .i64 b.start, .int .i64 0] :: []) w39 := M.perm (front_perm (i := 10) rfl).symm
   replace M : Mem w I I (box b10 63 [.int .i64 c9.p, .int .i64 c9.i, .int .i64 c9.q, .int .i64 c9.j] :: row EConfig (sv u_8_0) l_8_0 :: mpr QConfig (Value.int .i64) b41 [] :: box b6 132 [.map (some b40)] :: gmap QConfig ELnk b40 usn usn (aput g_40_2 x2 ((aget g_40_2 x2).getD [] ++ [Lnk.mk c9 0])) :: box b5 64 [sv uqn] :: row EConfig (sv uqn) (addQ m_35_2 l_39_2 x2) :: box b4 60 [.map (some b35)] :: mpr QConfig Value.bool b35 (addK m_35_2 x2) :: box b12 63 [.int .i64 x2.p, .int .i64 x2.i, .int .i64 x2.q, .int .i64 x2.j] :: row EConfig (sv u60) (silL a b xs zs c9) :: box b3 63 [.int .i64 a.start, .int .i64 0, .int .i64 b.start, .int .i64 0] :: []) w39 := M.perm (front_perm (i := 10) rfl).symm
   replace M : Mem w I I (row EConfig (sv u60) (silL a b xs zs c9) :: box b10 63 [.int .i64 c9.p, .int .i64 c9.i, .int .i64 c9.q, .int .i64 c9.j] :: row EConfig (sv u_8_0) l_8_0 :: mpr QConfig (Value.int .i64) b41 [] :: box b6 132 [.map (some b40)] :: gmap QConfig ELnk b40 usn usn (aput g_40_2 x2 ((aget g_40_2 x2).getD [] ++ [Lnk.mk c9 0])) :: box b5 64 [sv uqn] :: row EConfig (sv uqn) (addQ m_35_2 l_39_2 x2) :: box b4 60 [.map (some b35)] :: mpr QConfig Value.bool b35 (addK m_35_2 x2) :: box b12 63 [.int .i64 x2.p, .int .i64 x2.i, .int .i64 x2.q, .int .i64 x2.j] :: box b3 63 [.int .i64 a.start, .int .i64 0, .int .i64 b.start, .int .i64 0] :: []) w39 := M.perm (front_perm (i := 10) rfl).symm
   replace M : Mem w I I (box b12 63 [.int .i64 x2.p, .int .i64 x2.i, .int .i64 x2.q, .int .i64 x2.j] :: row EConfig (sv u60) (silL a b xs zs c9) :: box b10 63 [.int .i64 c9.p, .int .i64 c9.i, .int .i64 c9.q, .int .i64 c9.j] :: row EConfig (sv u_8_0) l_8_0 :: mpr QConfig (Value.int .i64) b41 [] :: box b6 132 [.map (some b40)] :: gmap QConfig ELnk b40 usn usn (aput g_40_2 x2 ((aget g_40_2 x2).getD [] ++ [Lnk.mk c9 0])) :: box b5 64 [sv uqn] :: row EConfig (sv uqn) (addQ m_35_2 l_39_2 x2) :: box b4 60 [.map (some b35)] :: mpr QConfig Value.bool b35 (addK m_35_2 x2) :: box b3 63 [.int .i64 a.start, .int .i64 0, .int .i64 b.start, .int .i64 0] :: []) w39 := M.perm (front_perm (i := 10) rfl).symm
   refine wl_nil ?_
   refine wc_region ?_
   refine wl_m M (q_add rfl rfl (IntWalk.i64_in _ (by omega))) rfl rfl ?_
   refine wl_mv M rfl rfl ?_
   refine wl_nil ?_
   replace M := M.drop 0
   refine ⟨(k2 + 1, uqn, addQ m_35_2 l_39_2 x2, addK m_35_2 x2, usn, aput g_40_2 x2 ((aget g_40_2 x2).getD [] ++ [Lnk.mk c9 0])), ?_, ⟨(by omega), (by rw [take_snoc hx2]; exact add_bfs hB2 hm2 (List.mem_append_left _ (List.mem_of_getElem? hx2))), (by have := addK_tr (d := x2) (K := vs ++ [c9]) (qs := l_39_2) (l := m_35_2) (by rw [hm2]; simp); rw [this]; simp), (by rw [take_snoc hx2, ev0_snoc, ← List.append_assoc, hg2]; exact (grp_snoc _ _ _ (x2, Lnk.mk c9 0)).symm), M⟩, ⟨rfl, trivial⟩, unw_look rfl unw_base⟩
   show (silL a b xs zs c9).length - (k2 + 1) < (silL a b xs zs c9).length - k2
   omega
  have hke2 : k2 = (silL a b xs zs c9).length := by omega
  rw [hke2, List.take_length] at hB2 hg2
  refine wc_exit rfl ?_
  refine wc_seq ?_
  refine wc_region ?_
  refine wl_mv M rfl rfl ?_
  refine wl_m M (q_ldbA 1 Tryz.underlying63 rfl sz63 rfl rfl rfl rfl) rfl rfl ?_
  refine wl_e (e_callC M (spokenX_c hF hc9 M.imm hB0) Tryz.func38 rfl rfl) rfl rfl ?_
  rintro v73 w40 ⟨J73, hJ73, Rg73, M⟩
  obtain ⟨lm73, Rl73, hlk73, hlr73⟩ := Rg73.opn (grp_nodup _ _ _)
  have hlm : lm73.length ≤ 12 := by have := hF.keys c9; rw [← hlk73, List.length_map] at this; exact this
  have hoJ73 := M.old
  refine wl_e (e_rngI M Rl73 Tryz.underlying83 rfl) rfl rfl ?_
  rintro _ w41 ⟨r74, mb74, rfl, rfl, M⟩
  refine wl_nil ?_
  refine wc_block ?_
  refine wc_loop (α := (List (Int × SV)) × SV × (List Config) × (List (Config × Bool)) × (List SV) × (List (Config × List Lnk))) [14, 16, 75, 76, 77, 78, 79, 80, 81, 82, 83, 84, 85, 86, 87, 88, 89] (fun ((dn_74_4, u_39_4, l_39_4, m_35_4, us_40_4, g_40_4) : (List (Int × SV)) × SV × (List Config) × (List (Config × Bool)) × (List SV) × (List (Config × List Lnk))) => [])
    (fun ((dn_74_4, u_39_4, l_39_4, m_35_4, us_40_4, g_40_4) : (List (Int × SV)) × SV × (List Config) × (List (Config × Bool)) × (List SV) × (List (Config × List Lnk))) w' => (BfsIn (cfgN a b xs zs) (· = Config.mk a.start 0 b.start 0) vs c9 ((silL a b xs zs c9) ++ dn_74_4.flatMap (fun p_ => (aget (grp (fun e : Int × Config => e.1) (fun e : Int × Config => e.2) (spkL a b xs zs c9)) p_.1).getD [])) l_39_4) ∧ (m_35_4 = tr (vs ++ c9 :: l_39_4)) ∧ (g_40_4 = grp (fun e : Config × Lnk => e.1) (fun e : Config × Lnk => e.2) (ev ++ ev0 c9 (silL a b xs zs c9) ++ ev1 c9 (dn_74_4.flatMap (fun p_ => (aget (grp (fun e : Int × Config => e.1) (fun e : Int × Config => e.2) (spkL a b xs zs c9)) p_.1).getD [])))) ∧ Mem w I J73 (itr r74 mb74 lm73 dn_74_4 :: row EConfig (sv u60) (silL a b xs zs c9) :: box b10 63 [.int .i64 c9.p, .int .i64 c9.i, .int .i64 c9.q, .int .i64 c9.j] :: row EConfig (sv u_8_0) l_8_0 :: mpr QConfig (Value.int .i64) b41 [] :: box b6 132 [.map (some b40)] :: gmap QConfig ELnk b40 us_40_4 us_40_4 g_40_4 :: box b5 64 [sv u_39_4] :: row EConfig (sv u_39_4) l_39_4 :: box b4 60 [.map (some b35)] :: mpr QConfig Value.bool b35 m_35_4 :: box b3 63 [.int .i64 a.start, .int .i64 0, .int .i64 b.start, .int .i64 0] :: []) w')
    (fun ((dn_74_4, u_39_4, l_39_4, m_35_4, us_40_4, g_40_4) : (List (Int × SV)) × SV × (List Config) × (List (Config × Bool)) × (List SV) × (List (Config × List Lnk))) => lm73.length - dn_74_4.length) ([], u_39_2, l_39_2, m_35_2, us_40_2, g_40_2) trivial ?_ ?_
  ·refine ⟨(by simpa using hB2), hm2, (by rw [hg2]; simp [ev1]), ?_⟩
   exact M
  rintro ⟨dn_74_4, u_39_4, l_39_4, m_35_4, us_40_4, g_40_4⟩ jj4 w42 ⟨hB4, hm4, hg4, M⟩
  have hoJ73 := M.old
  refine wc_seq ?_
  refine wc_region ?_
  refine wl_e (e_nx (Q := QRune) (V := sv) 0 M (M.imm _ _ (Rl73).at_) rfl rfl) rfl rfl ?_
  rintro _ w43 (⟨rfl, hpm19, M⟩ | ⟨p74, hpi19, hpl19, rfl, M⟩)
  ·refine wl_m M (q_ext rfl rfl) rfl rfl ?_
   refine wl_nil ?_
   refine wc_seq ?_
   refine wc_false rfl ?_
   have hfm : ∀ d, d ∈ dn_74_4.flatMap (fun p_ => (aget (grp (fun e : Int × Config => e.1) (fun e : Int × Config => e.2) (spkL a b xs zs c9)) p_.1).getD []) ↔ ∃ r, (r, d) ∈ spkL a b xs zs c9 := fun d => by
     rw [grp_all (fun e : Int × Config => e.1) (fun e : Int × Config => e.2) _ hlk73 hpm19, List.mem_map]
     exact ⟨fun ⟨e, he, h⟩ => ⟨e.1, by rw [← h]; exact he⟩, fun ⟨r, h⟩ => ⟨(r, d), h, rfl⟩⟩
   have hBn := hB4.close (fun y hy => by
     rcases List.mem_append.1 hy with h | h
     · exact List.mem_append_left _ h
     · obtain ⟨⟨r, y'⟩, h1, rfl⟩ := List.mem_map.1 h
       exact List.mem_append_right _ ((hfm _).2 ⟨r, h1⟩))
   have hdl74 := hpm19.length_eq
   refine wc_exit rfl ?_
   replace M := M.less hJ73 (fun _ _ => rfl)
   replace M := M.drop 0
   replace M := M.drop 0
   replace M := M.drop 0
   refine ⟨(vs ++ [c9], ev ++ ev0 c9 (silL a b xs zs c9) ++ ev1 c9 (dn_74_4.flatMap (fun p_ => (aget (grp (fun e : Int × Config => e.1) (fun e : Int × Config => e.2) (spkL a b xs zs c9)) p_.1).getD [])), u_39_4, l_39_4, m_35_4, us_40_4, g_40_4, u_8_0, l_8_0), ?_, ⟨hBn, (by rw [hm4]; congr 1; simp), hg4, (evOk_next hE hfm hc9n), (by rw [List.length_append, List.length_append, List.length_append, ev0_len, ev1_len, List.length_singleton]; have := hF.rows c9 dn_74_4 (by omega); omega), (by rw [List.filter_append, hn]; simp [ht53]), M⟩, ⟨rfl, trivial⟩, unw_look rfl (unw_hav rfl (unw_look rfl (unw_hav rfl (unw_look rfl unw_base))))⟩
   show (rect4 m xs.length n zs.length).length - (vs ++ [c9]).length < (rect4 m xs.length n zs.length).length - vs.length
   have := hBn.len hcr
   rw [List.length_append, List.length_singleton] at this ⊢
   omega
  simp only [sC0, sCS] at M
  refine wl_m M (q_ext rfl rfl) rfl rfl ?_
  refine wl_nil ?_
  refine wc_seq ?_
  refine wc_true rfl ?_
  refine wc_skip ?_
  refine wc_block ?_
  refine wc_seq ?_
  refine wc_region ?_
  refine wl_m M (q_ent (Q := QRune) (V := sv) 0 (fun w M => M.imm _ _ (Rl73).at_) rfl rfl) rfl rfl ?_
  refine wl_m M (q_ext rfl rfl) rfl rfl ?_
  refine wl_as M rfl rfl ?_
  refine wl_nil ?_
  refine wc_seq ?_
  refine wc_region ?_
  refine wl_mv M rfl rfl ?_
  refine wl_m M (q_lenR (hlr73 p74 hpi19) Tryz.underlying64 rfl) rfl rfl ?_
  refine wl_mv M rfl rfl ?_
  refine wl_nil ?_
  refine wc_block ?_
  refine wc_loop (α := Nat × SV × (List Config) × (List (Config × Bool)) × (List SV) × (List (Config × List Lnk))) [16, 81, 82, 83, 84, 85, 86, 87, 88, 89] (fun ((k6, u_39_6, l_39_6, m_35_6, us_40_6, g_40_6) : Nat × SV × (List Config) × (List (Config × Bool)) × (List SV) × (List (Config × List Lnk))) => [(81, .int .i64 (k6 : Int))])
    (fun ((k6, u_39_6, l_39_6, m_35_6, us_40_6, g_40_6) : Nat × SV × (List Config) × (List (Config × Bool)) × (List SV) × (List (Config × List Lnk))) w' => (k6 ≤ ((aget (grp (fun e : Int × Config => e.1) (fun e : Int × Config => e.2) (spkL a b xs zs c9)) p74.1).getD []).length) ∧ (BfsIn (cfgN a b xs zs) (· = Config.mk a.start 0 b.start 0) vs c9 ((silL a b xs zs c9) ++ dn_74_4.flatMap (fun p_ => (aget (grp (fun e : Int × Config => e.1) (fun e : Int × Config => e.2) (spkL a b xs zs c9)) p_.1).getD []) ++ ((aget (grp (fun e : Int × Config => e.1) (fun e : Int × Config => e.2) (spkL a b xs zs c9)) p74.1).getD []).take k6) l_39_6) ∧ (m_35_6 = tr (vs ++ c9 :: l_39_6)) ∧ (g_40_6 = grp (fun e : Config × Lnk => e.1) (fun e : Config × Lnk => e.2) (ev ++ ev0 c9 (silL a b xs zs c9) ++ ev1 c9 (dn_74_4.flatMap (fun p_ => (aget (grp (fun e : Int × Config => e.1) (fun e : Int × Config => e.2) (spkL a b xs zs c9)) p_.1).getD []) ++ ((aget (grp (fun e : Int × Config => e.1) (fun e : Int × Config => e.2) (spkL a b xs zs c9)) p74.1).getD []).take k6))) ∧ Mem w I J73 (itr r74 mb74 lm73 (dn_74_4 ++ [p74]) :: row EConfig (sv u60) (silL a b xs zs c9) :: box b10 63 [.int .i64 c9.p, .int .i64 c9.i, .int .i64 c9.q, .int .i64 c9.j] :: row EConfig (sv u_8_0) l_8_0 :: mpr QConfig (Value.int .i64) b41 [] :: box b6 132 [.map (some b40)] :: gmap QConfig ELnk b40 us_40_6 us_40_6 g_40_6 :: box b5 64 [sv u_39_6] :: row EConfig (sv u_39_6) l_39_6 :: box b4 60 [.map (some b35)] :: mpr QConfig Value.bool b35 m_35_6 :: box b3 63 [.int .i64 a.start, .int .i64 0, .int .i64 b.start, .int .i64 0] :: []) w')
    (fun ((k6, u_39_6, l_39_6, m_35_6, us_40_6, g_40_6) : Nat × SV × (List Config) × (List (Config × Bool)) × (List SV) × (List (Config × List Lnk))) => ((aget (grp (fun e : Int × Config => e.1) (fun e : Int × Config => e.2) (spkL a b xs zs c9)) p74.1).getD []).length - k6) (0, u_39_4, l_39_4, m_35_4, us_40_4, g_40_4) ⟨rfl, trivial⟩ ?_ ?_
  ·refine ⟨Nat.zero_le _, (by simpa using hB4), hm4, (by rw [hg4]; simp), ?_⟩
   exact M
  rintro ⟨k6, u_39_6, l_39_6, m_35_6, us_40_6, g_40_6⟩ jj6 w44 ⟨hk6, hB6, hm6, hg6, M⟩
  have hoJ73 := M.old
  have hql6 := hB6.len hcr
  have hrl6 := hF.rows c9 dn_74_4 (by omega)
  have hrw6 := grp_look_len (fun e : Int × Config => e.1) (fun e : Int × Config => e.2) p74.1 (spkL a b xs zs c9)
  have hsp6 := hF.spk c9
  refine wc_seq ?_
  refine wc_region ?_
  refine wl_m M (q_lss rfl rfl) rfl rfl ?_
  refine wl_nil ?_
  refine wc_seq ?_
  refine wc_dec rfl (fun ht82 => ?_) (fun ht82 => ?_)
  ·obtain ⟨x6, hx6⟩ : ∃ x_, ((aget (grp (fun e : Int × Config => e.1) (fun e : Int × Config => e.2) (spkL a b xs zs c9)) p74.1).getD [])[k6]? = some x_ := ⟨_, List.getElem?_eq_getElem (by omega)⟩
   have hll6 := ((hlr73 p74 hpi19)).len_le
   have hin6 : x6 ∈ cfgN a b xs zs c9 := List.mem_append_right _ ((grp_all (fun e : Int × Config => e.1) (fun e : Int × Config => e.2) _ hlk73 (List.Perm.refl _) x6).1 (List.mem_flatMap.2 ⟨p74, hpi19, List.mem_of_getElem? hx6⟩))
   refine wc_skip ?_
   refine wc_seq ?_
   refine wc_block ?_
   refine wc_seq ?_
   refine wc_region ?_
   refine wl_ix (j := k6) M (hlr73 p74 hpi19) Tryz.underlying64 rfl rfl hx6 rfl (fun b83 o83 p83 => ?_)
   refine wl_m M (q_ldp p83 rfl rfl) rfl rfl ?_
   refine wl_e (e_alloc M z63) rfl rfl ?_
   rintro _ w45 ⟨b16, rfl, M⟩
   refine wl_e0 (e_stW 0 M rfl rfl rfl sz63 rfl rfl) rfl ?_
   intro _ w46 M
   simp only [sC0, sCS] at M
   refine wl_nil ?_
   refine wc_region ?_
   refine wl_mv M rfl rfl ?_
   refine wl_m M (q_ldbA 3 Tryz.underlying63 rfl sz63 rfl rfl rfl rfl) rfl rfl ?_
   refine wl_m M (q_ldbA 0 Tryz.underlying63 rfl sz63 rfl rfl rfl rfl) rfl rfl ?_
   replace M : Mem w I J73 (mpr QConfig (Value.int .i64) b41 [] :: box b16 63 [.int .i64 x6.p, .int .i64 x6.i, .int .i64 x6.q, .int .i64 x6.j] :: itr r74 mb74 lm73 (dn_74_4 ++ [p74]) :: row EConfig (sv u60) (silL a b xs zs c9) :: box b10 63 [.int .i64 c9.p, .int .i64 c9.i, .int .i64 c9.q, .int .i64 c9.j] :: row EConfig (sv u_8_0) l_8_0 :: box b6 132 [.map (some b40)] :: gmap QConfig ELnk b40 us_40_6 us_40_6 g_40_6 :: box b5 64 [sv u_39_6] :: row EConfig (sv u_39_6) l_39_6 :: box b4 60 [.map (some b35)] :: mpr QConfig Value.bool b35 m_35_6 :: box b3 63 [.int .i64 a.start, .int .i64 0, .int .i64 b.start, .int .i64 0] :: []) w46 := M.perm (front_perm (i := 5) rfl).symm
   replace M : Mem w I J73 (row EConfig (sv u_8_0) l_8_0 :: mpr QConfig (Value.int .i64) b41 [] :: box b16 63 [.int .i64 x6.p, .int .i64 x6.i, .int .i64 x6.q, .int .i64 x6.j] :: itr r74 mb74 lm73 (dn_74_4 ++ [p74]) :: row EConfig (sv u60) (silL a b xs zs c9) :: box b10 63 [.int .i64 c9.p, .int .i64 c9.i, .int .i64 c9.q, .int .i64 c9.j] :: box b6 132 [.map (some b40)] :: gmap QConfig ELnk b40 us_40_6 us_40_6 g_40_6 :: box b5 64 [sv u_39_6] :: row EConfig (sv u_39_6) l_39_6 :: box b4 60 [.map (some b35)] :: mpr QConfig Value.bool b35 m_35_6 :: box b3 63 [.int .i64 a.start, .int .i64 0, .int .i64 b.start, .int .i64 0] :: []) w46 := M.perm (front_perm (i := 5) rfl).symm
   replace M : Mem w I J73 (box b10 63 [.int .i64 c9.p, .int .i64 c9.i, .int .i64 c9.q, .int .i64 c9.j] :: row EConfig (sv u_8_0) l_8_0 :: mpr QConfig (Value.int .i64) b41 [] :: box b16 63 [.int .i64 x6.p, .int .i64 x6.i, .int .i64 x6.q, .int .i64 x6.j] :: itr r74 mb74 lm73 (dn_74_4 ++ [p74]) :: row EConfig (sv u60) (silL a b xs zs c9) :: box b6 132 [.map (some b40)] :: gmap QConfig ELnk b40 us_40_6 us_40_6 g_40_6 :: box b5 64 [sv u_39_6] :: row EConfig (sv u_39_6) l_39_6 :: box b4 60 [.map (some b35)] :: mpr QConfig Value.bool b35 m_35_6 :: box b3 63 [.int .i64 a.start, .int .i64 0, .int .i64 b.start, .int .i64 0] :: []) w46 := M.perm (front_perm (i := 5) rfl).symm
   replace M : Mem w I J73 (row EConfig (sv u60) (silL a b xs zs c9) :: box b10 63 [.int .i64 c9.p, .int .i64 c9.i, .int .i64 c9.q, .int .i64 c9.j] :: row EConfig (sv u_8_0) l_8_0 :: mpr QConfig (Value.int .i64) b41 [] :: box b16 63 [.int .i64 x6.p, .int .i64 x6.i, .int .i64 x6.q, .int .i64 x6.j] :: itr r74 mb74 lm73 (dn_74_4 ++ [p74]) :: box b6 132 [.map (some b40)] :: gmap QConfig ELnk b40 us_40_6 us_40_6 g_40_6 :: box b5 64 [sv u_39_6] :: row EConfig (sv u_39_6) l_39_6 :: box b4 60 [.map (some b35)] :: mpr QConfig Value.bool b35 m_35_6 :: box b3 63 [.int .i64 a.start, .int .i64 0, .int .i64 b.start, .int .i64 0] :: []) w46 := M.perm (front_perm (i := 5) rfl).symm
   replace M : Mem w I J73 (itr r74 mb74 lm73 (dn_74_4 ++ [p74]) :: row EConfig (sv u60) (silL a b xs zs c9) :: box b10 63 [.int .i64 c9.p, .int .i64 c9.i, .int .i64 c9.q, .int .i64 c9.j] :: row EConfig (sv u_8_0) l_8_0 :: mpr QConfig (Value.int .i64) b41 [] :: box b16 63 [.int .i64 x6.p, .int .i64 x6.i, .int .i64 x6.q, .int .i64 x6.j] :: box b6 132 [.map (some b40)] :: gmap QConfig ELnk b40 us_40_6 us_40_6 g_40_6 :: box b5 64 [sv u_39_6] :: row EConfig (sv u_39_6) l_39_6 :: box b4 60 [.map (some b35)] :: mpr QConfig Value.bool b35 m_35_6 :: box b3 63 [.int .i64 a.start, .int .i64 0, .int .i64 b.start, .int .i64 0] :: []) w46 := M.perm (front_perm (i := 5) rfl).symm
   replace M : Mem w I J73 (box b16 63 [.int .i64 x6.p, .int .i64 x6.i, .int .i64 x6.q, .int .i64 x6.j] :: itr r74 mb74 lm73 (dn_74_4 ++ [p74]) :: row EConfig (sv u60) (silL a b xs zs c9) :: box b10 63 [.int .i64 c9.p, .int .i64 c9.i, .int .i64 c9.q, .int .i64 c9.j] :: row EConfig (sv u_8_0) l_8_0 :: mpr QConfig (Value.int .i64) b41 [] :: box b6 132 [.map (some b40)] :: gmap QConfig ELnk b40 us_40_6 us_40_6 g_40_6 :: box b5 64 [sv u_39_6] :: row EConfig (sv u_39_6) l_39_6 :: box b4 60 [.map (some b35)] :: mpr QConfig Value.bool b35 m_35_6 :: box b3 63 [.int .i64 a.start, .int .i64 0, .int .i64 b.start, .int .i64 0] :: []) w46 := M.perm (front_perm (i := 5) rfl).symm
   replace M : Mem w I J73 (row EConfig (sv u_39_6) l_39_6 :: box b16 63 [.int .i64 x6.p, .int .i64 x6.i, .int .i64 x6.q, .int .i64 x6.j] :: itr r74 mb74 lm73 (dn_74_4 ++ [p74]) :: row EConfig (sv u60) (silL a b xs zs c9) :: box b10 63 [.int .i64 c9.p, .int .i64 c9.i, .int .i64 c9.q, .int .i64 c9.j] :: row EConfig (sv u_8_0) l_8_0 :: mpr QConfig (Value.int .i64) b41 [] :: box b6 132 [.map (some b40)] :: gmap QConfig ELnk b40 us_40_6 us_40_6 g_40_6 :: box b5 64 [sv u_39_6] :: box b4 60 [.map (some b35)] :: mpr QConfig Value.bool b35 m_35_6 :: box b3 63 [.int .i64 a.start, .int .i64 0, .int .i64 b.start, .int .i64 0] :: []) w46 := M.perm (front_perm (i := 9) rfl).symm
   replace M : Mem w I J73 (box b5 64 [sv u_39_6] :: row EConfig (sv u_39_6) l_39_6 :: box b16 63 [.int .i64 x6.p, .int .i64 x6.i, .int .i64 x6.q, .int .i64 x6.j] :: itr r74 mb74 lm73 (dn_74_4 ++ [p74]) :: row EConfig (sv u60) (silL a b xs zs c9) :: box b10 63 [.int .i64 c9.p, .int .i64 c9.i, .int .i64 c9.q, .int .i64 c9.j] :: row EConfig (sv u_8_0) l_8_0 :: mpr QConfig (Value.int .i64) b41 [] :: box b6 132 [.map (some b40)] :: gmap QConfig ELnk b40 us_40_6 us_40_6 g_40_6 :: box b4 60 [.map (some b35)] :: mpr QConfig Value.bool b35 m_35_6 :: box b3 63 [.int .i64 a.start, .int .i64 0, .int .i64 b.start, .int .i64 0] :: []) w46 := M.perm (front_perm (i := 9) rfl).symm
   replace M : Mem w I J73 (mpr QConfig Value.bool b35 m_35_6 :: box b5 64 [sv u_39_6] :: row EConfig (sv u_39_6) l_39_6 :: box b16 63 [.int .i64 x6.p, .int .i64 x6.i, .int .i64 x6.q, .int .i64 x6.j] :: itr r74 mb74 lm73 (dn_74_4 ++ [p74]) :: row EConfig (sv u60) (silL a b xs zs c9) :: box b10 63 [.int .i64 c9.p, .int .i64 c9.i, .int .i64 c9.q, .int .i64 c9.j] :: row EConfig (sv u_8_0) l_8_0 :: mpr QConfig (Value.int .i64) b41 [] :: box b6 132 [.map (some b40)] :: gmap QConfig ELnk b40 us_40_6 us_40_6 g_40_6 :: box b4 60 [.map (some b35)] :: box b3 63 [.int .i64 a.start, .int .i64 0, .int .i64 b.start, .int .i64 0] :: []) w46 := M.perm (front_perm (i := 11) rfl).symm
   replace M : Mem w I J73 (box b4 60 [.map (some b35)] :: mpr QConfig Value.bool b35 m_35_6 :: box b5 64 [sv u_39_6] :: row EConfig (sv u_39_6) l_39_6 :: box b16 63 [.int .i64 x6.p, .int .i64 x6.i, .int .i64 x6.q, .int .i64 x6.j] :: itr r74 mb74 lm73 (dn_74_4 ++ [p74]) :: row EConfig (sv u60) (silL a b xs zs c9) :: box b10 63 [.int .i64 c9.p, .int .i64 c9.i, .int .i64 c9.q, .int .i64 c9.j] :: row EConfig (sv u_8_0) l_8_0 :: mpr QConfig (Value.int .i64) b41 [] :: box b6 132 [.map (some b40)] :: gmap QConfig ELnk b40 us_40_6 us_40_6 g_40_6 :: box b3 63 [.int .i64 a.start, .int .i64 0, .int .i64 b.start, .int .i64 0] :: []) w46 := M.perm (front_perm (i := 11) rfl).symm
   replace M : Mem w I J73 (gmap QConfig ELnk b40 us_40_6 us_40_6 g_40_6 :: box b4 60 [.map (some b35)] :: mpr QConfig Value.bool b35 m_35_6 :: box b5 64 [sv u_39_6] :: row EConfig (sv u_39_6) l_39_6 :: box b16 63 [.int .i64 x6.p, .int .i64 x6.i, .int .i64 x6.q, .int .i64 x6.j] :: itr r74 mb74 lm73 (dn_74_4 ++ [p74]) :: row EConfig (sv u60) (silL a b xs zs c9) :: box b10 63 [.int .i64 c9.p, .int .i64 c9.i, .int .i64 c9.q, .int .i64 c9.j] :: row EConfig (sv u_8_0) l_8_0 :: mpr QConfig (Value.int .i64) b41 [] :: box b6 132 [.map (some b40)] :: box b3 63 [.int .i64 a.start, .int .i64 0, .int .i64 b.start, .int .i64 0] :: []) w46 := M.perm (front_perm (i := 11) rfl).symm
   replace M : Mem w I J73 (box b6 132 [.map (some b40)] :: gmap QConfig ELnk b40 us_40_6 us_40_6 g_40_6 :: box b4 60 [.map (some b35)] :: mpr QConfig Value.bool b35 m_35_6 :: box b5 64 [sv u_39_6] :: row EConfig (sv u_39_6) l_39_6 :: box b16 63 [.int .i64 x6.p, .int .i64 x6.i, .int .i64 x6.q, .int .i64 x6.j] :: itr r74 mb74 lm73 (dn_74_4 ++ [p74]) :: row EConfig (sv u60) (silL a b xs zs c9) :: box b10 63 [.int .i64 c9.p, .int .i64 c9.i, .int .i64 c9.q, .int .i64 c9.j] :: row EConfig (sv u_8_0) l_8_0 :: mpr QConfig (Value.int .i64) b41 [] :: box b3 63 [.int .i64 a.start, .int .i64 0, .int .i64 b.start, .int .i64 0] :: []) w46 := M.perm (front_perm (i := 11) rfl).symm
   refine wl_e (e_callV (vs := [.agg #[.int .i64 c9.p, .int .i64 c9.i, .int .i64 c9.q, .int .i64 c9.j], .agg #[.int .i64 x6.p, .int .i64 x6.i, .int .i64 x6.q, .int .i64 x6.j], .int .i64 1]) (caps := [.pointer (some ⟨b6, 0, none⟩), .pointer (some ⟨b4, 0, none⟩), .pointer (some ⟨b5, 0, none⟩)]) Tryz.func64 rfl rfl rfl (add_c c9 x6 1 (by rw [hg6]; have h1 := grp_look_len (fun e : Config × Lnk => e.1) (fun e : Config × Lnk => e.2) x6 (ev ++ ev0 c9 (silL a b xs zs c9) ++ ev1 c9 (dn_74_4.flatMap (fun p_ => (aget (grp (fun e : Int × Config => e.1) (fun e : Int × Config => e.2) (spkL a b xs zs c9)) p_.1).getD []) ++ ((aget (grp (fun e : Int × Config => e.1) (fun e : Int × Config => e.2) (spkL a b xs zs c9)) p74.1).getD []).take k6)); rw [List.length_append, List.length_append, ev0_len, ev1_len, List.length_append, List.length_take] at h1; omega) (by omega) M)) rfl rfl ?_
   rintro _ w47 ⟨usn, uqn, M⟩
   replace M : Mem w I J73 (mpr QConfig Value.bool b35 (addK m_35_6 x6) :: box b6 132 [.map (some b40)] :: gmap QConfig ELnk b40 usn usn (aput g_40_6 x6 ((aget g_40_6 x6).getD [] ++ [Lnk.mk c9 1])) :: box b4 60 [.map (some b35)] :: box b5 64 [sv uqn] :: row EConfig (sv uqn) (addQ m_35_6 l_39_6 x6) :: box b16 63 [.int .i64 x6.p, .int .i64 x6.i, .int .i64 x6.q, .int .i64 x6.j] :: itr r74 mb74 lm73 (dn_74_4 ++ [p74]) :: row EConfig (sv u60) (silL a b xs zs c9) :: box b10 63 [.int .i64 c9.p, .int .i64 c9.i, .int .i64 c9.q, .int .i64 c9.j] :: row EConfig (sv u_8_0) l_8_0 :: mpr QConfig (Value.int .i64) b41 [] :: box b3 63 [.int .i64 a.start, .int .i64 0, .int .i64 b.start, .int .i64 0] :: []) w47 := M.perm (front_perm (i := 3) rfl).symm
   replace M : Mem w I J73 (box b4 60 [.map (some b35)] :: mpr QConfig Value.bool b35 (addK m_35_6 x6) :: box b6 132 [.map (some b40)] :: gmap QConfig ELnk b40 usn usn (aput g_40_6 x6 ((aget g_40_6 x6).getD [] ++ [Lnk.mk c9 1])) :: box b5 64 [sv uqn] :: row EConfig (sv uqn) (addQ m_35_6 l_39_6 x6) :: box b16 63 [.int .i64 x6.p, .int .i64 x6.i, .int .i64 x6.q, .int .i64 x6.j] :: itr r74 mb74 lm73 (dn_74_4 ++ [p74]) :: row EConfig (sv u60) (silL a b xs zs c9) :: box b10 63 [.int .i64 c9.p, .int .i64 c9.i, .int .i64 c9.q, .int .i64 c9.j] :: row EConfig (sv u_8_0) l_8_0 :: mpr QConfig (Value.int .i64) b41 [] :: box b3 63 [.int .i64 a.start, .int .i64 0, .int .i64 b.start, .int .i64 0] :: []) w47 := M.perm (front_perm (i := 3) rfl).symm
   replace M : Mem w I J73 (row EConfig (sv uqn) (addQ m_35_6 l_39_6 x6) :: box b4 60 [.map (some b35)] :: mpr QConfig Value.bool b35 (addK m_35_6 x6) :: box b6 132 [.map (some b40)] :: gmap QConfig ELnk b40 usn usn (aput g_40_6 x6 ((aget g_40_6 x6).getD [] ++ [Lnk.mk c9 1])) :: box b5 64 [sv uqn] :: box b16 63 [.int .i64 x6.p, .int .i64 x6.i, .int .i64 x6.q, .int .i64 x6.j] :: itr r74 mb74 lm73 (dn_74_4 ++ [p74]) :: row EConfig (sv u60) (silL a b xs zs c9) :: box b10 63 [.int .i64 c9.p, .int .i64 c9.i, .int .i64 c9.q, .int .i64 c9.j] :: row EConfig (sv u_8_0) l_8_0 :: mpr QConfig (Value.int .i64) b41 [] :: box b3 63 [.int .i64 a.start, .int .i64 0, .int .i64 b.start, .int .i64 0] :: []) w47 := M.perm (front_perm (i := 5) rfl).symm
   replace M : Mem w I J73 (box b5 64 [sv uqn] :: row EConfig (sv uqn) (addQ m_35_6 l_39_6 x6) :: box b4 60 [.map (some b35)] :: mpr QConfig Value.bool b35 (addK m_35_6 x6) :: box b6 132 [.map (some b40)] :: gmap QConfig ELnk b40 usn usn (aput g_40_6 x6 ((aget g_40_6 x6).getD [] ++ [Lnk.mk c9 1])) :: box b16 63 [.int .i64 x6.p, .int .i64 x6.i, .int .i64 x6.q, .int .i64 x6.j] :: itr r74 mb74 lm73 (dn_74_4 ++ [p74]) :: row EConfig (sv u60) (silL a b xs zs c9) :: box b10 63 [.int .i64 c9.p, .int .i64 c9.i, .int .i64 c9.q, .int .i64 c9.j] :: row EConfig (sv u_8_0) l_8_0 :: mpr QConfig (Value.int .i64) b41 [] :: box b3 63 [.int .i64 a.start, .int .i64 0, .int .i64 b.start, .int .i64 0] :: []) w47 := M.perm (front_perm (i := 5) rfl).symm
   replace M : Mem w I J73 (gmap QConfig ELnk b40 usn usn (aput g_40_6 x6 ((aget g_40_6 x6).getD [] ++ [Lnk.mk c9 1])) :: box b5 64 [sv uqn] :: row EConfig (sv uqn) (addQ m_35_6 l_39_6 x6) :: box b4 60 [.map (some b35)] :: mpr QConfig Value.bool b35 (addK m_35_6 x6) :: box b6 132 [.map (some b40)] :: box b16 63 [.int .i64 x6.p, .int .i64 x6.i, .int .i64 x6.q, .int .i64 x6.j] :: itr r74 mb74 lm73 (dn_74_4 ++ [p74]) :: row EConfig (sv u60) (silL a b xs zs c9) :: box b10 63 [.int .i64 c9.p, .int .i64 c9.i, .int .i64 c9.q, .int .i64 c9.j] :: row EConfig (sv u_8_0) l_8_0 :: mpr QConfig (Value.int .i64) b41 [] :: box b3 63 [.int .i64 a.start, .int .i64 0, .int .i64 b.start, .int .i64 0] :: []) w47 := M.perm (front_perm (i := 5) rfl).symm
   replace M : Mem w I J73 (box b6 132 [.map (some b40)] :: gmap QConfig ELnk b40 usn usn (aput g_40_6 x6 ((aget g_40_6 x6).getD [] ++ [Lnk.mk c9 1])) :: box b5 64 [sv uqn] :: row EConfig (sv uqn) (addQ m_35_6 l_39_6 x6) :: box b4 60 [.map (some b35)] :: mpr QConfig Value.bool b35 (addK m_35_6 x6) :: box b16 63 [.int .i64 x6.p, .int .i64 x6.i, .int .i64 x6.q, .int .i64 x6.j] :: itr r74 mb74 lm73 (dn_74_4 ++ [p74]) :: row EConfig (sv u60) (silL a b xs zs c9) :: box b10 63 [.int .i64 c9.p, .int .i64 c9.i, .int .i64 c9.q, .int .i64 c9.j] :: row EConfig (sv u_8_0) l_8_0 :: mpr QConfig (Value.int .i64) b41 [] :: box b3 63 [.int .i64 a.start, .int .i64 0, .int .i64 b.start, .int .i64 0] :: []) w47 := M.perm (front_perm (i := 5) rfl).symm
   replace M : Mem w I J73 (mpr QConfig (Value.int .i64) b41 [] :: box b6 132 [.map (some b40)] :: gmap QConfig ELnk b40 usn usn (aput g_40_6 x6 ((aget g_40_6 x6).getD [] ++ [Lnk.mk c9 1])) :: box b5 64 [sv uqn] :: row EConfig (sv uqn) (addQ m_35_6 l_39_6 x6) :: box b4 60 [.map (some b35)] :: mpr QConfig Value.bool b35 (addK m_35_6 x6) :: box b16 63 [.int .i64 x6.p, .int .i64 x6.i, .int .i64 x6.q, .int .i64 x6.j] :: itr r74 mb74 lm73 (dn_74_4 ++ [p74]) :: row EConfig (sv u60) (silL a b xs zs c9) :: box b10 63 [.int .i64 c9.p, .int .i64 c9.i, .int .i64 c9.q, .int .i64 c9.j] :: row EConfig (sv u_8_0) l_8_0 :: box b3 63 [.int .i64 a.start, .int .i64 0, .int .i64 b.start, .int .i64 0] :: []) w47 := M.perm (front_perm (i := 11) rfl).symm
   replace M : Mem w I J73 (row EConfig (sv u_8_0) l_8_0 :: mpr QConfig (Value.int .i64) b41 [] :: box b6 132 [.map (some b40)] :: gmap QConfig ELnk b40 usn usn (aput g_40_6 x6 ((aget g_40_6 x6).getD [] ++ [Lnk.mk c9 1])) :: box b5 64 [sv uqn] :: row EConfig (sv uqn) (addQ m_35_6 l_39_6 x6) :: box b4 60 [.map (some b35)] :: mpr QConfig Value.bool b35 (addK m_35_6 x6) :: box b16 63 [.int .i64 x6.p, .int .i64 x6.i, .int .i64 x6.q, .int .i64 x6.j] :: itr r74 mb74 lm73 (dn_74_4 ++ [p74]) :: row EConfig (sv u60) (silL a b xs zs c9) :: box b10 63 [.int .i64 c9.p, .int .i64 c9.i, .int .i64 c9.q, .int .i64 c9.j] :: box b3 63 [.int .i64 a.start, .int .i64 0, .int .i64 b.start, .int .i64 0] :: []) w47 := M.perm (front_perm (i := 11) rfl).symm
   replace M : Mem w I J73 (box b10 63 [.int .i64 c9.p, .int .i64 c9.i, .int .i64 c9.q, .int .i64 c9.j] :: row EConfig (sv u_8_0) l_8_0 :: mpr QConfig (Value.int .i64) b41 [] :: box b6 132 [.map (some b40)] :: gmap QConfig ELnk b40 usn usn (aput g_40_6 x6 ((aget g_40_6 x6).getD [] ++ [Lnk.mk c9 1])) :: box b5 64 [sv uqn] :: row EConfig (sv uqn) (addQ m_35_6 l_39_6 x6) :: box b4 60 [.map (some b35)] :: mpr QConfig Value.bool b35 (addK m_35_6 x6) :: box b16 63 [.int .i64 x6.p, .int .i64 x6.i, .int .i64 x6.q, .int .i64 x6.j] :: itr r74 mb74 lm73 (dn_74_4 ++ [p74]) :: row EConfig (sv u60) (silL a b xs zs c9) :: box b3 63 [.int .i64 a.start, .int .i64 0, .int .i64 b.start, .int .i64 0] :: []) w47 := M.perm (front_perm (i := 11) rfl).symm
   replace M : Mem w I J73 (row EConfig (sv u60) (silL a b xs zs c9) :: box b10 63 [.int .i64 c9.p, .int .i64 c9.i, .int .i64 c9.q, .int .i64 c9.j] :: row EConfig (sv u_8_0) l_8_0 :: mpr QConfig (Value.int .i64) b41 [] :: box b6 132 [.map (some b40)] :: gmap QConfig ELnk b40 usn usn (aput g_40_6 x6 ((aget g_40_6 x6).getD [] ++ [Lnk.mk c9 1])) :: box b5 64 [sv uqn] :: row EConfig (sv uqn) (addQ m_35_6 l_39_6 x6) :: box b4 60 [.map (some b35)] :: mpr QConfig Value.bool b35 (addK m_35_6 x6) :: box b16 63 [.int .i64 x6.p, .int .i64 x6.i, .int .i64 x6.q, .int .i64 x6.j] :: itr r74 mb74 lm73 (dn_74_4 ++ [p74]) :: box b3 63 [.int .i64 a.start, .int .i64 0, .int .i64 b.start, .int .i64 0] :: []) w47 := M.perm (front_perm (i := 11) rfl).symm
   replace M : Mem w I J73 (itr r74 mb74 lm73 (dn_74_4 ++ [p74]) :: row EConfig (sv u60) (silL a b xs zs c9) :: box b10 63 [.int .i64 c9.p, .int .i64 c9.i, .int .i64 c9.q, .int .i64 c9.j] :: row EConfig (sv u_8_0) l_8_0 :: mpr QConfig (Value.int .i64) b41 [] :: box b6 132 [.map (some b40)] :: gmap QConfig ELnk b40 usn usn (aput g_40_6 x6 ((aget g_40_6 x6).getD [] ++ [Lnk.mk c9 1])) :: box b5 64 [sv uqn] :: row EConfig (sv uqn) (addQ m_35_6 l_39_6 x6) :: box b4 60 [.map (some b35)] :: mpr QConfig Value.bool b35 (addK m_35_6 x6) :: box b16 63 [.int .i64 x6.p, .int .i64 x6.i, .int .i64 x6.q, .int .i64 x6.j] :: box b3 63 [.int .i64 a.start, .int .i64 0, .int .i64 b.start, .int .i64 0] :: []) w47 := M.perm (front_perm (i := 11) rfl).symm
   replace M : Mem w I J73 (box b16 63 [.int .i64 x6.p, .int .i64 x6.i, .int .i64 x6.q, .int .i64 x6.j] :: itr r74 mb74 lm73 (dn_74_4 ++ [p74]) :: row EConfig (sv u60) (silL a b xs zs c9) :: box b10 63 [.int .i64 c9.p, .int .i64 c9.i, .int .i64 c9.q, .int .i64 c9.j] :: row EConfig (sv u_8_0) l_8_0 :: mpr QConfig (Value.int .i64) b41 [] :: box b6 132 [.map (some b40)] :: gmap QConfig ELnk b40 usn usn (aput g_40_6 x6 ((aget g_40_6 x6).getD [] ++ [Lnk.mk c9 1])) :: box b5 64 [sv uqn] :: row EConfig (sv uqn) (addQ m_35_6 l_39_6 x6) :: box b4 60 [.map (some b35)] :: mpr QConfig Value.bool b35 (addK m_35_6 x6) :: box b3 63 [.int .i64 a.start, .int .i64 0, .int .i64 b.start, .int .i64 0] :: []) w47 := M.perm (front_perm (i := 11) rfl).symm
   refine wl_nil ?_
   refine wc_region ?_
   refine wl_m M (q_add rfl rfl (IntWalk.i64_in _ (by omega))) rfl rfl ?_
   refine wl_mv M rfl rfl ?_
   refine wl_nil ?_
   replace M := M.drop 0
   refine ⟨(k6 + 1, uqn, addQ m_35_6 l_39_6 x6, addK m_35_6 x6, usn, aput g_40_6 x6 ((aget g_40_6 x6).getD [] ++ [Lnk.mk c9 1])), ?_, ⟨(by omega), (by rw [take_snoc hx6, ← List.append_assoc]; exact add_bfs hB6 hm6 hin6), (by have := addK_tr (d := x6) (K := vs ++ [c9]) (qs := l_39_6) (l := m_35_6) (by rw [hm6]; simp); rw [this]; simp), (by rw [take_snoc hx6, ← List.append_assoc, ev1_snoc, ← List.append_assoc, hg6]; exact (grp_snoc _ _ _ (x6, Lnk.mk c9 1)).symm), M⟩, ⟨rfl, trivial⟩, unw_look rfl unw_base⟩
   show ((aget (grp (fun e : Int × Config => e.1) (fun e : Int × Config => e.2) (spkL a b xs zs c9)) p74.1).getD []).length - (k6 + 1) < ((aget (grp (fun e : Int × Config => e.1) (fun e : Int × Config => e.2) (spkL a b xs zs c9)) p74.1).getD []).length - k6
   omega
  have hke6 : k6 = ((aget (grp (fun e : Int × Config => e.1) (fun e : Int × Config => e.2) (spkL a b xs zs c9)) p74.1).getD []).length := by omega
  rw [hke6, List.take_length] at hB6 hg6
  refine wc_exit rfl ?_
  refine ⟨(dn_74_4 ++ [p74], u_39_6, l_39_6, m_35_6, us_40_6, g_40_6), ?_, ⟨(by rw [List.flatMap_append, List.flatMap_singleton, ← List.append_assoc]; exact hB6), hm6, (by rw [List.flatMap_append, List.flatMap_singleton]; exact hg6), M⟩, trivial, unw_look rfl (unw_hav rfl (unw_look rfl unw_base))⟩
  show lm73.length - (dn_74_4 ++ [p74]).length < lm73.length - dn_74_4.length
  rw [List.length_append, List.length_singleton]; omega
 have h39 : l_39_0 = [] := by cases l_39_0 with | nil => rfl | cons x l => simp at ht45
 rw [h39] at hB
 have hvl := hB.len hcr
 have hK := hB.fin
 have hUm : ∀ c k, Far (preE ev) (vs.filter (doneB a b xs zs)) c k → c ∈ vs := fun c k h => farE_in h (fun d s k h => ((hE d s k).1 h).1) (fun e he => (List.mem_filter.1 he).1)
 have hevl : ev.length ≤ 73627800 := by omega
 have hbig : ∀ K : Nat, K ≤ vs.length → K * ev.length ≤ 3094208295000 := fun K hK => Nat.le_trans (Nat.mul_le_mul (show K ≤ 42025 by omega) hevl) (by decide)
 refine wc_exit rfl ?_
 refine wc_seq ?_
 refine wc_seq ?_
 obtain ⟨Ig, M, hIg, Rg⟩ := M.frzGm 3 rfl
 have hoIg := M.old
 rw [hg] at Rg
 refine wc_region ?_
 refine wl_as M rfl rfl ?_
 refine wl_nil ?_
 refine wc_block ?_
 refine wc_loop (α := Nat × SV × (List Config) × (List (Config × Int))) [8, 17, 18, 19, 20, 21, 23, 90, 91, 92, 93, 94, 95, 96, 97, 98, 99, 100, 101, 102, 103, 104, 105, 106, 107, 108, 109, 110, 111, 112, 113, 114, 115, 116, 117, 118, 119, 120, 121, 122, 123, 124, 125, 126, 127, 128, 129, 130, 131, 132, 133, 134, 135] (fun ((d, u_8_8, l_8_8, m_41_8) : Nat × SV × (List Config) × (List (Config × Int))) => [(17, .int .i64 (d : Int)), (8, sv u_8_8)])
   (fun ((d, u_8_8, l_8_8, m_41_8) : Nat × SV × (List Config) × (List (Config × Int))) w' => (Ds (preE ev) (vs.filter (doneB a b xs zs)) d m_41_8 l_8_8 [] gT) ∧ (l_8_8.length ≤ vs.length + m_41_8.length * ev.length) ∧ (d ≤ m_41_8.length + 1 ∧ (l_8_8 ≠ [] → d ≤ m_41_8.length)) ∧ Mem w I Ig (row EConfig (sv u_8_8) l_8_8 :: mpr QConfig (Value.int .i64) b41 m_41_8 :: box b6 132 [(.map (some b40))] :: box b5 64 [sv u_39_0] :: row EConfig (sv u_39_0) l_39_0 :: box b4 60 [.map (some b35)] :: mpr QConfig Value.bool b35 m_35_0 :: box b3 63 [.int .i64 a.start, .int .i64 0, .int .i64 b.start, .int .i64 0] :: []) w')
   (fun ((d, u_8_8, l_8_8, m_41_8) : Nat × SV × (List Config) × (List (Config × Int))) => 2 * (vs.length - m_41_8.length) + (if l_8_8 = [] then 0 else 1)) (0, u_8_0, l_8_0, []) ⟨rfl, rfl, trivial⟩ ?_ ?_
 ·refine ⟨(by rw [hn]; exact Ds.init), (by rw [hn]; have := List.length_filter_le (doneB a b xs zs) vs; simp; omega), (by simp), ?_⟩
  exact M
 rintro ⟨d, u_8_8, l_8_8, m_41_8⟩ jj8 w48 ⟨hD, hbd, hDn, M⟩
 have hoIg := M.old
 refine wc_seq ?_
 refine wc_seq ?_
 refine wc_region ?_
 refine wl_mv M rfl rfl ?_
 refine wl_m M (q_lenr 0 M rfl Tryz.underlying64 rfl) rfl rfl ?_
 refine wl_m M (q_gtr rfl rfl) rfl rfl ?_
 refine wl_nil ?_
 refine wc_dec rfl (fun ht92 => ?_) (fun ht92 => ?_)
 ·refine wc_skip ?_
  refine wc_seq ?_
  refine wc_block ?_
  refine wc_seq ?_
  refine wc_region ?_
  refine wl_as M rfl rfl ?_
  replace M := M.nilRow EConfig
  refine wl_nil ?_
  refine wc_seq ?_
  refine wc_block ?_
  refine wc_loop (α := SV × (List Config) × SV × (List Config) × (List (Config × Int))) [8, 18, 19, 20, 21, 23, 95, 96, 97, 98, 99, 100, 101, 102, 103, 104, 105, 106, 107, 108, 109, 110, 111, 112, 113, 114, 115, 116, 117, 118, 119, 120, 121, 122, 123, 124, 125, 126, 127, 128, 129, 130, 131, 132, 133, 134] (fun ((u_18_10, l_18_10, u_8_10, l_8_10, m_41_10) : SV × (List Config) × SV × (List Config) × (List (Config × Int))) => [(8, sv u_8_10), (18, sv u_18_10)])
    (fun ((u_18_10, l_18_10, u_8_10, l_8_10, m_41_10) : SV × (List Config) × SV × (List Config) × (List (Config × Int))) w' => (Ds (preE ev) (vs.filter (doneB a b xs zs)) d m_41_10 l_8_10 l_18_10 gT) ∧ (l_8_10.length + l_18_10.length ≤ vs.length + m_41_10.length * ev.length) ∧ (m_41_8.length ≤ m_41_10.length ∧ (l_18_10 = [] ∨ m_41_8.length < m_41_10.length)) ∧ Mem w I Ig (row EConfig (sv u_18_10) l_18_10 :: row EConfig (sv u_8_10) l_8_10 :: mpr QConfig (Value.int .i64) b41 m_41_10 :: box b6 132 [(.map (some b40))] :: box b5 64 [sv u_39_0] :: row EConfig (sv u_39_0) l_39_0 :: box b4 60 [.map (some b35)] :: mpr QConfig Value.bool b35 m_35_0 :: box b3 63 [.int .i64 a.start, .int .i64 0, .int .i64 b.start, .int .i64 0] :: []) w')
    (fun ((u_18_10, l_18_10, u_8_10, l_8_10, m_41_10) : SV × (List Config) × SV × (List Config) × (List (Config × Int))) => (vs.length - m_41_10.length) * (ev.length + 1) + l_8_10.length) (nilV, [], u_8_8, l_8_8, m_41_8) ⟨rfl, rfl, trivial⟩ ?_ ?_
  ·refine ⟨hD, (by simpa using hbd), ⟨Nat.le_refl _, .inl rfl⟩, ?_⟩
   exact M
  rintro ⟨u_18_10, l_18_10, u_8_10, l_8_10, m_41_10⟩ jj10 w49 ⟨hD4, hbd4, hgr4, M⟩
  have hoIg := M.old
  refine wc_seq ?_
  refine wc_seq ?_
  refine wc_region ?_
  refine wl_mv M rfl rfl ?_
  refine wl_m M (q_lenr 1 M rfl Tryz.underlying64 rfl) rfl rfl ?_
  refine wl_m M (q_gtr rfl rfl) rfl rfl ?_
  refine wl_nil ?_
  refine wc_dec rfl (fun ht97 => ?_) (fun ht97 => ?_)
  ·obtain ⟨x, qs, hq⟩ : ∃ (x : Config) (qs : List Config), l_8_10 = x :: qs := by
     cases l_8_10 with
     | nil => simp at ht97
     | cons x qs => exact ⟨x, qs, rfl⟩
   have hlq := congrArg List.length hq
   rw [List.length_cons] at hlq
   refine wc_skip ?_
   refine wc_block ?_
   refine wc_seq ?_
   refine wc_region ?_
   refine wl_mv M rfl rfl ?_
   refine wl_ixr (j := 0) 1 M rfl Tryz.underlying64 rfl rfl (by rw [hq]; rfl) rfl (fun b99 o99 p99 => ?_)
   refine wl_m M (q_ldp p99 rfl rfl) rfl rfl ?_
   refine wl_e (e_alloc M z63) rfl rfl ?_
   rintro _ w50 ⟨b19, rfl, M⟩
   refine wl_e0 (e_stW 0 M rfl rfl rfl sz63 rfl rfl) rfl ?_
   intro _ w51 M
   simp only [sC0, sCS] at M
   refine wl_nil ?_
   refine wc_seq ?_
   refine wc_region ?_
   refine wl_mv M rfl rfl ?_
   refine wl_e (e_cut (k := 1) 2 M rfl Tryz.underlying64 rfl rfl (by omega)) rfl rfl ?_
   rintro _ w52 ⟨u102, rfl, M⟩
   simp only [sC0, sCS] at M
   refine wl_as M rfl rfl ?_
   refine wl_nil ?_
   refine wc_seq ?_
   refine wc_seq ?_
   refine wc_region ?_
   refine wl_mv M rfl rfl ?_
   refine wl_m M (q_ldbA 0 Tryz.underlying63 rfl sz63 rfl rfl rfl rfl) rfl rfl ?_
   refine wl_m M (q_lk2 (k := x) (z := 0) 3 rfl Tryz.underlying58 zv3 rfl rfl) rfl rfl ?_
   refine wl_mv M rfl rfl ?_
   refine wl_m M (q_ext rfl rfl) rfl rfl ?_
   refine wl_m M (q_ext rfl rfl) rfl rfl ?_
   refine wl_as M rfl rfl ?_
   refine wl_as M rfl rfl ?_
   refine wl_nil ?_
   refine wc_seq ?_
   refine wc_region ?_
   refine wl_mv M rfl rfl ?_
   refine wl_nil ?_
   refine wc_cond rfl (fun ht109 => ?_) (fun ht109 => ?_)
   ·refine wc_exit rfl ?_
    replace M := M.drop 0
    refine ⟨(u_18_10, l_18_10, u102, l_8_10.drop 1, m_41_10), ?_, ⟨(by rw [hq, List.drop_one, List.tail_cons]; rw [hq] at hD4; exact hD4.known (aget_of ht109)), (by rw [List.length_drop]; omega), hgr4, M⟩, ⟨rfl, rfl, trivial⟩, unw_look rfl unw_base⟩
    show (vs.length - m_41_10.length) * (ev.length + 1) + (l_8_10.drop 1).length < (vs.length - m_41_10.length) * (ev.length + 1) + l_8_10.length
    rw [hq, List.drop_one, List.tail_cons, List.length_cons]; omega
   have hnew : aget m_41_10 x = none := by simpa using ht109
   have hroom := (by rw [hq] at hD4; exact hD4.room hnew hUm : m_41_10.length + 1 ≤ _)
   have hpl : (aput m_41_10 x (d : Int)).length = m_41_10.length + 1 := aput_nw hnew
   have hgx : aget (aput m_41_10 x (d : Int)) x = some (d : Int) := by rw [aget_aput, if_pos rfl]
   have hfl := lnkL_len ev x
   have hbg := hbig m_41_10.length (by omega)
   refine wc_skip ?_
   refine wc_seq ?_
   refine wc_region ?_
   refine wl_mv M rfl rfl ?_
   refine wl_m M (q_ldbA 0 Tryz.underlying63 rfl sz63 rfl rfl rfl rfl) rfl rfl ?_
   refine wl_mv M rfl rfl ?_
   refine wl_e0 (e_mpu (k := x) (v := (d : Int)) 3 M rfl Tryz.underlying58 rfl rfl rfl) rfl ?_
   intro _ w53 M
   simp only [sC0, sCS] at M
   refine wl_nil ?_
   refine wc_seq ?_
   refine wc_region ?_
   refine wl_m M (q_ldb 4 Tryz.underlying132 rfl rfl rfl rfl) rfl rfl ?_
   refine wl_m M (q_ldbA 0 Tryz.underlying63 rfl sz63 rfl rfl rfl rfl) rfl rfl ?_
   refine wl_lkg (k := x) M Rg Tryz.underlying132 zv133 rfl rfl rfl (fun u115 R115 => ?_)
   rw [grp_lnk] at R115
   replace R115 : rdSl ELnk Ig (sv u115) (lnkL ev x) := R115
   refine wl_m M (q_lenR R115 Tryz.underlying133 rfl) rfl rfl ?_
   refine wl_mv M rfl rfl ?_
   refine wl_nil ?_
   refine wc_block ?_
   refine wc_loop (α := Nat × SV × (List Config) × SV × (List Config)) [8, 18, 23, 117, 118, 119, 120, 121, 122, 123, 124, 125, 126, 127, 128, 129, 130, 131, 132, 133, 134] (fun ((k12, u_18_12, l_18_12, u_8_12, l_8_12) : Nat × SV × (List Config) × SV × (List Config)) => [(117, .int .i64 (k12 : Int)), (8, sv u_8_12), (18, sv u_18_12)])
     (fun ((k12, u_18_12, l_18_12, u_8_12, l_8_12) : Nat × SV × (List Config) × SV × (List Config)) w' => (k12 ≤ (lnkL ev x).length) ∧ (Ds (preE ev) (vs.filter (doneB a b xs zs)) d (aput m_41_10 x (d : Int)) l_8_12 l_18_12 (gX x (((lnkL ev x).take k12).map lnkB))) ∧ (l_8_12.length + l_18_12.length + 1 ≤ l_8_10.length + l_18_10.length + k12 ∧ l_8_12.length + 1 ≤ l_8_10.length + k12) ∧ Mem w I Ig (box b19 63 [.int .i64 x.p, .int .i64 x.i, .int .i64 x.q, .int .i64 x.j] :: row EConfig (sv u_18_12) l_18_12 :: row EConfig (sv u_8_12) l_8_12 :: mpr QConfig (Value.int .i64) b41 (aput m_41_10 x (d : Int)) :: box b6 132 [(.map (some b40))] :: box b5 64 [sv u_39_0] :: row EConfig (sv u_39_0) l_39_0 :: box b4 60 [.map (some b35)] :: mpr QConfig Value.bool b35 m_35_0 :: box b3 63 [.int .i64 a.start, .int .i64 0, .int .i64 b.start, .int .i64 0] :: []) w')
     (fun ((k12, u_18_12, l_18_12, u_8_12, l_8_12) : Nat × SV × (List Config) × SV × (List Config)) => (lnkL ev x).length - k12) (0, u_18_10, l_18_10, u102, l_8_10.drop 1) ⟨rfl, rfl, rfl, trivial⟩ ?_ ?_
   ·refine ⟨Nat.zero_le _, (by rw [hq, List.drop_one, List.tail_cons]; rw [hq] at hD4; exact hD4.opn hnew), (by rw [List.length_drop]; omega), ?_⟩
    exact M
   rintro ⟨k12, u_18_12, l_18_12, u_8_12, l_8_12⟩ jj12 w54 ⟨hk12, hD6, hl6, M⟩
   have hoIg := M.old
   refine wc_seq ?_
   refine wc_region ?_
   refine wl_m M (q_lss rfl rfl) rfl rfl ?_
   refine wl_nil ?_
   refine wc_seq ?_
   refine wc_dec rfl (fun ht118 => ?_) (fun ht118 => ?_)
   ·obtain ⟨x12, hx12⟩ : ∃ x_, (lnkL ev x)[k12]? = some x_ := ⟨_, List.getElem?_eq_getElem (by omega)⟩
    have hll12 := (R115).len_le
    refine wc_skip ?_
    refine wc_seq ?_
    refine wc_block ?_
    refine wc_seq ?_
    refine wc_region ?_
    refine wl_ix (j := k12) M R115 Tryz.underlying133 rfl rfl hx12 rfl (fun b119 o119 p119 => ?_)
    refine wl_m M (q_ldp p119 rfl rfl) rfl rfl ?_
    refine wl_e (e_alloc M z135) rfl rfl ?_
    rintro _ w55 ⟨b23, rfl, M⟩
    refine wl_e0 (e_stW 0 M rfl rfl rfl sz135 rfl rfl) rfl ?_
    intro _ w56 M
    simp only [sC0, sCS] at M
    refine wl_nil ?_
    refine wc_seq ?_
    refine wc_region ?_
    refine wl_m M (q_fa fo_135_1 rfl) rfl rfl ?_
    refine wl_m M (q_ldb 0 Tryz.underlying3 rfl rfl rfl rfl) rfl rfl ?_
    refine wl_m M (q_eql rfl rfl) rfl rfl ?_
    refine wl_nil ?_
    refine wc_dec rfl (fun ht123 => ?_) (fun ht123 => ?_)
    ·have he12 : lnkB x12 = (x12.src, false) := by simp [lnkB, ht123]
     have hx12m : lnkB x12 ∈ preE ev x := List.mem_map.2 ⟨x12, List.mem_of_getElem? hx12, rfl⟩
     refine wc_region ?_
     refine wl_mv M rfl rfl ?_
     refine wl_m M (q_fa fo_135_0 rfl) rfl rfl ?_
     refine wl_m M (q_ldbA 0 Tryz.underlying63 rfl sz63 rfl rfl rfl rfl) rfl rfl ?_
     refine wl_e (e_bsI (E := EConfig) (xs := [x12.src]) M (bs_64_1 _ _ _ _) ⟨⟨rfl, rfl⟩, trivial⟩ rfl rfl (by decide)) rfl rfl ?_
     rintro _ w57 ⟨u127, J127, rfl, hJ127, R127, M⟩
     have hoJ127 := M.old
     refine wl_e (e_app 3 M rfl R127 Tryz.underlying64 rfl rfl (by show (_ + 1) * 32 ≤ _; omega)) rfl rfl ?_
     rintro _ w58 ⟨u128, rfl, M⟩
     replace M := M.less hJ127 hoIg
     simp only [sC0, sCS] at M
     refine wl_as M rfl rfl ?_
     refine wl_nil ?_
     refine wc_region ?_
     refine wl_m M (q_add rfl rfl (IntWalk.i64_in _ (by omega))) rfl rfl ?_
     refine wl_mv M rfl rfl ?_
     refine wl_nil ?_
     replace M := M.drop 0
     refine ⟨(k12 + 1, u_18_12, l_18_12, u128, l_8_12 ++ [x12.src]), ?_, ⟨(by omega), (by rw [take_snoc hx12, List.map_append]; have h := hD6.push0 (b := x12.src) hgx (by rw [← he12]; exact hx12m); rw [← he12] at h; exact h), (by simp only [List.length_append, List.length_singleton]; omega), M⟩, ⟨rfl, rfl, rfl, trivial⟩, unw_look rfl unw_base⟩
     show (lnkL ev x).length - (k12 + 1) < (lnkL ev x).length - k12
     omega
    have he12 : lnkB x12 = (x12.src, true) := by simp [lnkB, ht123]
    have hx12m : lnkB x12 ∈ preE ev x := List.mem_map.2 ⟨x12, List.mem_of_getElem? hx12, rfl⟩
    refine wc_region ?_
    refine wl_mv M rfl rfl ?_
    refine wl_m M (q_fa fo_135_0 rfl) rfl rfl ?_
    refine wl_m M (q_ldbA 0 Tryz.underlying63 rfl sz63 rfl rfl rfl rfl) rfl rfl ?_
    refine wl_e (e_bsI (E := EConfig) (xs := [x12.src]) M (bs_64_1 _ _ _ _) ⟨⟨rfl, rfl⟩, trivial⟩ rfl rfl (by decide)) rfl rfl ?_
    rintro _ w59 ⟨u132, J132, rfl, hJ132, R132, M⟩
    have hoJ132 := M.old
    refine wl_e (e_app 2 M rfl R132 Tryz.underlying64 rfl rfl (by show (_ + 1) * 32 ≤ _; omega)) rfl rfl ?_
    rintro _ w60 ⟨u133, rfl, M⟩
    replace M := M.less hJ132 hoIg
    simp only [sC0, sCS] at M
    refine wl_as M rfl rfl ?_
    refine wl_nil ?_
    refine wc_region ?_
    refine wl_m M (q_add rfl rfl (IntWalk.i64_in _ (by omega))) rfl rfl ?_
    refine wl_mv M rfl rfl ?_
    refine wl_nil ?_
    replace M := M.drop 0
    refine ⟨(k12 + 1, u133, l_18_12 ++ [x12.src], u_8_12, l_8_12), ?_, ⟨(by omega), (by rw [take_snoc hx12, List.map_append]; have h := hD6.push1 (b := x12.src) hgx (by rw [← he12]; exact hx12m); rw [← he12] at h; exact h), (by simp only [List.length_append, List.length_singleton]; omega), M⟩, ⟨rfl, rfl, rfl, trivial⟩, unw_look rfl unw_base⟩
    show (lnkL ev x).length - (k12 + 1) < (lnkL ev x).length - k12
    omega
   have hke12 : k12 = (lnkL ev x).length := by omega
   rw [hke12, List.take_length] at hD6
   rw [hke12] at hl6
   refine wc_exit rfl ?_
   replace M := M.drop 0
   refine ⟨(u_18_12, l_18_12, u_8_12, l_8_12, aput m_41_10 x (d : Int)), ?_, ⟨(hD6.close (fun e_ he_ => he_)), (by rw [hpl, Nat.add_mul, Nat.one_mul]; omega), ⟨by rw [hpl]; omega, .inr (by rw [hpl]; omega)⟩, M⟩, ⟨rfl, rfl, trivial⟩, unw_look rfl (unw_hav rfl (unw_look rfl unw_base))⟩
   show (vs.length - (aput m_41_10 x (d : Int)).length) * (ev.length + 1) + l_8_12.length < (vs.length - m_41_10.length) * (ev.length + 1) + l_8_10.length
   exact far_mu2 hroom hpl (k := (lnkL ev x).length) (by omega) (lnkL_len _ _) (by omega)
  obtain rfl : l_8_10 = [] := by cases l_8_10 with | nil => rfl | cons x l => simp at ht97
  have hld4 := hD4.len hUm
  have hne2 : l_8_8 ≠ [] := by intro e; rw [e] at ht92; simp at ht92
  have hd2 := hDn.2 hne2
  have hdn2 : d + 1 ≤ m_41_10.length + 1 ∧ (l_18_10 ≠ [] → d + 1 ≤ m_41_10.length) := ⟨by omega, fun h => by rcases hgr4.2 with h1 | h1; exact absurd h1 h; omega⟩
  refine wc_exit rfl ?_
  refine wc_region ?_
  refine wl_mv M rfl rfl ?_
  refine wl_as M rfl rfl ?_
  refine wl_nil ?_
  refine wc_region ?_
  refine wl_mv M rfl rfl ?_
  refine wl_m M (q_add rfl rfl (IntWalk.i64_in _ (by have := hDn; omega))) rfl rfl ?_
  refine wl_as M rfl rfl ?_
  refine wl_nil ?_
  replace M := M.drop 1
  refine ⟨(d + 1, u_18_10, l_18_10, m_41_10), ?_, ⟨hD4.turn, (by simpa using hbd4), hdn2, M⟩, ⟨rfl, rfl, trivial⟩, unw_look rfl (unw_hav rfl (unw_look rfl unw_base))⟩
  show 2 * (vs.length - m_41_10.length) + (if l_18_10 = [] then 0 else 1) < 2 * (vs.length - m_41_8.length) + (if l_8_8 = [] then 0 else 1)
  rw [if_neg hne2]
  rcases hgr4.2 with h1 | h1
  · rw [if_pos h1]; omega
  · split <;> omega
 obtain rfl : l_8_8 = [] := by cases l_8_8 with | nil => rfl | cons x l => simp at ht92
 refine wc_exit rfl ?_
 refine wc_seq ?_
 refine wc_region ?_
 refine wl_mv M rfl rfl ?_
 refine wl_as M rfl rfl ?_
 refine wl_nil ?_
 refine wc_ret ?_
 obtain ⟨K1, M, hK1, Rk1⟩ := M.frzMp 1 rfl
 exact out1 rfl rfl ⟨_, K1, rfl, (M.grow : Grow w I _ K1), _, Rk1, dist_okE hE hK hD.fin, by have := hD.len hUm; omega, fun c k h => by
   obtain ⟨_, h1, _⟩ := (hD.fin c k).1 h
   exact hcr c ((hK.mem c).1 (hUm c _ h1))⟩
end Go.Proofs.YtmjieefhjmiagaaGreatDoor.G
