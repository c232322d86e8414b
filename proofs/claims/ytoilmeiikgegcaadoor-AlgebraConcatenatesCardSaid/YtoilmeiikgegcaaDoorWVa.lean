/- Walks of the program's functions. -/
import Derived.Test.YtoilmeiikgegcaaDoorWA
import Derived.Test.YtoilmeiikgegcaaDoorGVis
set_option linter.all false
namespace Go.Proofs.YtoilmeiikgegcaaDoor.G
open Go Go.RowKit
theorem visit1_c {w0 w : World} {I0 I : Heap} {Lt : List Res} {bt bs : Nat} {ut us : SV} {td : List Int} {sn : List Bool} (s : Int) (hs : 0 ≤ s ∧ s < sn.length) (htd : td.length ≤ 1073741824) (M : Mem w0 I0 I (box bt 26 [sv ut] :: row EInt (sv ut) td :: box bs 56 [sv us] :: row EBool (sv us) sn :: Lt) w) :
    Calls A 84 #[.int .i64 s, .pointer (some ⟨bs, 0, none⟩), .pointer (some ⟨bt, 0, none⟩)] w (fun e w' => ∃ v, e = .returned v ∧ ∃ ut' : SV, Mem w0 I0 I (box bt 26 [sv ut'] :: row EInt (sv ut') (addT sn td s) :: box bs 56 [sv us] :: row EBool (sv us) (sn.set s.toNat true) :: Lt) w') := by
 obtain ⟨ys, hys⟩ : ∃ y, sn[s.toNat]? = some y := ⟨_, List.getElem?_eq_getElem (by omega)⟩
 have hoI := M.old
 refine enter Tryd.func84 rfl 16 Tryd.ntmps84 [_, _, _] rfl ?_
 refine wc_seq ?_
 refine wc_region ?_
 refine wl_m M (q_ldb 2 Tryd.underlying56 rfl rfl rfl rfl) rfl rfl ?_
 refine wl_mv M rfl rfl ?_
 refine wl_ixr (j := s.toNat) 3 M rfl Tryd.underlying56 rfl (ixe (by omega)) hys rfl (fun b6 o6 p6 => ?_)
 refine wl_m M (q_ldp p6 rfl rfl) rfl rfl ?_
 refine wl_m M (q_not rfl) rfl rfl ?_
 refine wl_nil ?_
 refine wc_cond rfl (fun ht8 => ?_) (fun ht8 => ?_)
 ·obtain rfl : ys = false := by simpa using ht8
  refine wc_seq ?_
  refine wc_region ?_
  refine wl_m M (q_ldb 2 Tryd.underlying56 rfl rfl rfl rfl) rfl rfl ?_
  refine wl_mv M rfl rfl ?_
  refine wl_ixw (j := s.toNat) 3 M rfl Tryd.underlying56 rfl (ixe (by omega)) (by omega) rfl (fun b11 o11 p11 => ?_)
  refine wl_e0 (e_str (u := true) 3 M rfl rfl rfl p11 (by omega) rfl) rfl ?_
  intro _ w1 M
  simp only [sC0, sCS] at M
  refine wl_nil ?_
  refine wc_region ?_
  refine wl_m M (q_ldb 0 Tryd.underlying26 rfl rfl rfl rfl) rfl rfl ?_
  refine wl_mv M rfl rfl ?_
  refine wl_e (e_bsI (E := EInt) (xs := [s]) M (bs_26_1 _) ⟨⟨rfl, rfl⟩, trivial⟩ rfl rfl (by decide)) rfl rfl ?_
  rintro _ w2 ⟨u14, J14, rfl, hJ14, R14, M⟩
  have hoJ14 := M.old
  refine wl_e (e_app 1 M rfl R14 Tryd.underlying26 rfl rfl (by show (_ + 1) * 8 ≤ _; omega)) rfl rfl ?_
  rintro _ w3 ⟨u15, rfl, M⟩
  replace M := M.less hJ14 hoI
  simp only [sC0, sCS] at M
  refine wl_e0 (e_stW 0 M rfl rfl rfl sz26 rfl rfl) rfl ?_
  intro _ w4 M
  simp only [sC0, sCS] at M
  refine wl_nil ?_
  rw [addT_new hys]
  exact out0 rfl ⟨_, rfl, _, M⟩
 obtain rfl : ys = true := by simpa using ht8
 refine wc_skip ?_
 rw [addT_old hys, set_same hys]
 exact out0 rfl ⟨_, rfl, _, M⟩
theorem visit_c {t : Tra} {m : Nat} (hm : m ≤ 1073741824) (hxs : ∀ x ∈ t.arcs, (0 ≤ x.src ∧ x.src < m) ∧ 0 ≤ x.dst ∧ x.dst < m) {fr : List Int} (hfr : ∀ f ∈ fr, 0 ≤ f ∧ f < m) (fwd : Bool) {u1 uf : SV} {I : Heap} {w : World} (hI : hle I (hp w)) (R1 : rdMat EInt VInt I (sv u1) (nxM fwd m t.arcs)) (Rf0 : rdSl EInt I (sv uf) fr) :
    Calls A 69 #[sv u1, sv uf] w (Ret w I fun r I' => ∃ bs : List Bool, rdSl EBool I' r bs ∧ bs.length = m ∧ ∀ s, bt bs s ↔ Reach (stp t fwd) (· ∈ fr) s) := by
 have hml : (nxM fwd m t.arcs).length = m := by simp [nxM]
 have M := Mem.start hI
 refine enter Tryd.func69 rfl 56 Tryd.ntmps69 [_, _] rfl ?_
 refine wc_seq ?_
 refine wc_region ?_
 refine wl_as M rfl rfl ?_
 refine wl_nil ?_
 refine wc_seq ?_
 refine wc_region ?_
 refine wl_mv M rfl rfl ?_
 refine wl_m M (q_lenMat R1 Tryd.underlying84 rfl) rfl rfl ?_
 refine wl_e (e_make (E := EBool) (zv := false) (m := m) M Tryd.underlying56 z4 (by rw [hml]; rfl) (by rw [hml]; rfl) (by show _ * 1 ≤ _; omega)) rfl rfl ?_
 rintro _ w1 ⟨u15, rfl, M⟩
 refine wl_e (e_alloc M z56) rfl rfl ?_
 rintro _ w2 ⟨b5, rfl, M⟩
 refine wl_e0 (e_stW 0 M rfl rfl rfl sz56 rfl rfl) rfl ?_
 intro _ w3 M
 simp only [sC0, sCS] at M
 refine wl_nil ?_
 refine wc_seq ?_
 refine wc_region ?_
 refine wl_e (e_bsR (E := EInt) (xs := []) M (bs_26_0) trivial rfl rfl (by decide)) rfl rfl ?_
 rintro _ w4 ⟨u16, rfl, M⟩
 refine wl_e (e_alloc M z26) rfl rfl ?_
 rintro _ w5 ⟨b6, rfl, M⟩
 refine wl_e0 (e_stW 0 M rfl rfl rfl sz26 rfl rfl) rfl ?_
 intro _ w6 M
 simp only [sC0, sCS] at M
 refine wl_nil ?_
 refine wc_seq ?_
 refine wc_region ?_
 refine wl_m M (q_makeFunc (vs := [.pointer (some ⟨b5, 0, none⟩), .pointer (some ⟨b6, 0, none⟩)]) rfl) rfl rfl ?_
 refine wl_as M rfl rfl ?_
 refine wl_nil ?_
 refine wc_seq ?_
 refine wc_seq ?_
 refine wc_region ?_
 refine wl_mv M rfl rfl ?_
 refine wl_m M (q_lenR Rf0 Tryd.underlying26 rfl) rfl rfl ?_
 refine wl_mv M rfl rfl ?_
 refine wl_nil ?_
 refine wc_block ?_
 refine wc_loop (α := Nat × SV × (List Int) × (List Bool)) [9, 20, 21, 22, 23, 24, 25, 26, 27] (fun ((k0, u_16_0, l_16_0, l_15_0) : Nat × SV × (List Int) × (List Bool)) => [(20, .int .i64 (k0 : Int))])
   (fun ((k0, u_16_0, l_16_0, l_15_0) : Nat × SV × (List Int) × (List Bool)) w' => (k0 ≤ fr.length) ∧ (Vs (stp t fwd) fr m (fun _ => False) l_15_0 l_16_0) ∧ (∀ s ∈ fr.take k0, bt l_15_0 s) ∧ Mem w I I (box b6 26 [sv u_16_0] :: row EInt (sv u_16_0) l_16_0 :: box b5 56 [sv u15] :: row EBool (sv u15) l_15_0 :: []) w')
   (fun ((k0, u_16_0, l_16_0, l_15_0) : Nat × SV × (List Int) × (List Bool)) => fr.length - k0) (0, u16, [], List.replicate m false) ⟨rfl, trivial⟩ ?_ ?_
 ·refine ⟨Nat.zero_le _, Vs.init, (by simp), ?_⟩
  exact M
 rintro ⟨k0, u_16_0, l_16_0, l_15_0⟩ jj0 w7 ⟨hk0, hV, hF, M⟩
 refine wc_seq ?_
 refine wc_region ?_
 refine wl_m M (q_lss rfl rfl) rfl rfl ?_
 refine wl_nil ?_
 refine wc_seq ?_
 refine wc_dec rfl (fun ht21 => ?_) (fun ht21 => ?_)
 ·obtain ⟨x0, hx0⟩ : ∃ x_, fr[k0]? = some x_ := ⟨_, List.getElem?_eq_getElem (by omega)⟩
  have hll0 := (Rf0).len_le
  have hx0r := hfr x0 (List.mem_of_getElem? hx0)
  refine wc_skip ?_
  refine wc_seq ?_
  refine wc_block ?_
  refine wc_seq ?_
  refine wc_region ?_
  refine wl_ix (j := k0) M Rf0 Tryd.underlying26 rfl rfl hx0 rfl (fun b22 o22 p22 => ?_)
  refine wl_m M (q_ldp p22 rfl rfl) rfl rfl ?_
  refine wl_as M rfl rfl ?_
  refine wl_nil ?_
  refine wc_region ?_
  refine wl_mv M rfl rfl ?_
  refine wl_mv M rfl rfl ?_
  refine wl_e (e_callV (vs := [.int .i64 x0]) (caps := [.pointer (some ⟨b5, 0, none⟩), .pointer (some ⟨b6, 0, none⟩)]) Tryd.func84 rfl rfl rfl (visit1_c (x0) (by rw [hV.len]; exact hx0r) (by have := hV.bnd; omega) M)) rfl rfl ?_
  rintro _ w8 ⟨un, M⟩
  refine wl_nil ?_
  refine wc_region ?_
  refine wl_m M (q_add rfl rfl (IntWalk.i64_in _ (by omega))) rfl rfl ?_
  refine wl_mv M rfl rfl ?_
  refine wl_nil ?_
  refine ⟨(k0 + 1, un, addT (l_15_0) (l_16_0) (x0), (l_15_0).set (x0).toNat true), ?_, ⟨(by omega), (hV.add hx0r (.base (List.mem_of_getElem? hx0))), (fun s hs => by rw [take_snoc hx0] at hs; rcases List.mem_append.1 hs with h | h; exact hV.add_mono hx0r (hF s h); rw [List.mem_singleton.1 h]; exact hV.add_on hx0r), M⟩, ⟨rfl, trivial⟩, unw_look rfl unw_base⟩
  show fr.length - (k0 + 1) < fr.length - k0
  omega
 have hke0 : k0 = fr.length := by omega
 rw [hke0, List.take_length] at hF
 refine wc_exit rfl ?_
 refine wc_seq ?_
 refine wc_block ?_
 refine wc_loop (α := SV × (List Int) × (List Bool)) [10, 12, 28, 29, 30, 31, 32, 33, 34, 35, 36, 37, 38, 39, 40, 41, 42, 43, 44, 45, 46, 47, 48, 49, 50, 51, 52, 53, 54] (fun ((u_16_2, l_16_2, l_15_2) : SV × (List Int) × (List Bool)) => [])
   (fun ((u_16_2, l_16_2, l_15_2) : SV × (List Int) × (List Bool)) w' => (Vs (stp t fwd) fr m (fun _ => False) l_15_2 l_16_2) ∧ (∀ s ∈ fr, bt l_15_2 s) ∧ Mem w I I (box b6 26 [sv u_16_2] :: row EInt (sv u_16_2) l_16_2 :: box b5 56 [sv u15] :: row EBool (sv u15) l_15_2 :: []) w')
   (fun ((u_16_2, l_16_2, l_15_2) : SV × (List Int) × (List Bool)) => 2 * l_15_2.count false + l_16_2.length) (u_16_0, l_16_0, l_15_0) trivial ?_ ?_
 ·refine ⟨hV, hF, ?_⟩
  exact M
 rintro ⟨u_16_2, l_16_2, l_15_2⟩ jj2 w9 ⟨hV2, hF2, M⟩
 refine wc_seq ?_
 refine wc_seq ?_
 refine wc_region ?_
 refine wl_m M (q_ldb 0 Tryd.underlying26 rfl rfl rfl rfl) rfl rfl ?_
 refine wl_m M (q_lenr 1 M rfl Tryd.underlying26 rfl) rfl rfl ?_
 refine wl_m M (q_gtr rfl rfl) rfl rfl ?_
 refine wl_nil ?_
 refine wc_dec rfl (fun ht30 => ?_) (fun ht30 => ?_)
 ·obtain ⟨s, hlast⟩ : ∃ s, l_16_2[l_16_2.length - 1]? = some s := ⟨_, List.getElem?_eq_getElem (by omega)⟩
  have hsp : l_16_2 = l_16_2.take (l_16_2.length - 1) ++ [s] := by
    rw [← take_snoc hlast, List.take_of_length_le (by omega)]
  have hVp := hV2
  rw [hsp] at hVp
  replace hVp := hVp.pop
  have hsr := stp_rng (fwd := fwd) hxs hfr (hV2.sub s (hV2.tds s (List.mem_of_getElem? hlast)))
  have hsR := hV2.sub s (hV2.tds s (List.mem_of_getElem? hlast))
  have hbd := hV2.bnd
  have hsm : s.toNat < m := by omega
  have hns : nxS fwd t.arcs s.toNat = stp t fwd s := by rw [nxS_stp, Int.toNat_of_nonneg hsr.1]
  refine wc_skip ?_
  refine wc_block ?_
  refine wc_seq ?_
  refine wc_region ?_
  refine wl_m M (q_ldb 0 Tryd.underlying26 rfl rfl rfl rfl) rfl rfl ?_
  refine wl_m M (q_ldb 0 Tryd.underlying26 rfl rfl rfl rfl) rfl rfl ?_
  refine wl_m M (q_lenr 1 M rfl Tryd.underlying26 rfl) rfl rfl ?_
  refine wl_m M (q_sub rfl rfl (IntWalk.i64_in _ (by omega))) rfl rfl ?_
  refine wl_ixr (j := (l_16_2.length - 1)) 1 M rfl Tryd.underlying26 rfl (ixe (by omega)) hlast rfl (fun b35 o35 p35 => ?_)
  refine wl_m M (q_ldp p35 rfl rfl) rfl rfl ?_
  refine wl_as M rfl rfl ?_
  refine wl_nil ?_
  refine wc_seq ?_
  refine wc_region ?_
  refine wl_m M (q_ldb 0 Tryd.underlying26 rfl rfl rfl rfl) rfl rfl ?_
  refine wl_m M (q_ldb 0 Tryd.underlying26 rfl rfl rfl rfl) rfl rfl ?_
  refine wl_m M (q_lenr 1 M rfl Tryd.underlying26 rfl) rfl rfl ?_
  refine wl_m M (q_sub (z := ((l_16_2.length - 1 : Nat) : Int)) rfl rfl (by rw [IntWalk.i64_in _ (by omega)]; omega)) rfl rfl ?_
  refine wl_m M (q_takeV (E := EInt) (k := (l_16_2.length - 1)) Tryd.underlying26 rfl rfl (by have := M.rowLen (i := 1) rfl; have := M.rowCap (i := 1) rfl; omega)) rfl rfl ?_
  replace M := M.rowTake 1 rfl (k := (l_16_2.length - 1)) (by omega)
  simp only [sC0, sCS] at M
  refine wl_e0 (e_stW 0 M rfl rfl rfl sz26 rfl rfl) rfl ?_
  intro _ w10 M
  simp only [sC0, sCS] at M
  refine wl_nil ?_
  refine wc_seq ?_
  refine wc_region ?_
  refine wl_mv M rfl rfl ?_
  refine wl_mv M rfl rfl ?_
  obtain ⟨os44, u44, Ro44, ho44, R44⟩ := (R1).at_ (nxM_at hsm)
  replace R44 : rdSl EInt I (sv u44) ((nxS fwd t.arcs s.toNat)) := R44
  refine wl_ix (j := s.toNat) M Ro44 Tryd.underlying84 rfl (ixe (by omega)) ho44 rfl (fun b44 o44 p44 => ?_)
  refine wl_m M (q_ldp p44 rfl rfl) rfl rfl ?_
  refine wl_m M (q_lenR R44 Tryd.underlying26 rfl) rfl rfl ?_
  refine wl_mv M rfl rfl ?_
  refine wl_nil ?_
  refine wc_block ?_
  refine wc_loop (α := Nat × SV × (List Int) × (List Bool)) [12, 47, 48, 49, 50, 51, 52, 53, 54] (fun ((k4, u_16_4, l_16_4, l_15_4) : Nat × SV × (List Int) × (List Bool)) => [(47, .int .i64 (k4 : Int))])
    (fun ((k4, u_16_4, l_16_4, l_15_4) : Nat × SV × (List Int) × (List Bool)) w' => (k4 ≤ (nxS fwd t.arcs s.toNat).length) ∧ (Vs (stp t fwd) fr m (· = s) l_15_4 l_16_4) ∧ (∀ s ∈ fr, bt l_15_4 s) ∧ (∀ r ∈ (nxS fwd t.arcs s.toNat).take k4, bt l_15_4 r) ∧ (2 * l_15_4.count false + l_16_4.length + 1 ≤ 2 * l_15_2.count false + l_16_2.length) ∧ Mem w I I (box b6 26 [sv u_16_4] :: row EInt (sv u_16_4) l_16_4 :: box b5 56 [sv u15] :: row EBool (sv u15) l_15_4 :: []) w')
    (fun ((k4, u_16_4, l_16_4, l_15_4) : Nat × SV × (List Int) × (List Bool)) => (nxS fwd t.arcs s.toNat).length - k4) (0, (takeV u_16_2 (l_16_2.length - 1)), l_16_2.take (l_16_2.length - 1), l_15_2) ⟨rfl, trivial⟩ ?_ ?_
  ·refine ⟨Nat.zero_le _, hVp, hF2, (by simp), (by rw [List.length_take]; omega), ?_⟩
   exact M
  rintro ⟨k4, u_16_4, l_16_4, l_15_4⟩ jj4 w11 ⟨hk4, hV4, hF4, hD, hmu, M⟩
  refine wc_seq ?_
  refine wc_region ?_
  refine wl_m M (q_lss rfl rfl) rfl rfl ?_
  refine wl_nil ?_
  refine wc_seq ?_
  refine wc_dec rfl (fun ht48 => ?_) (fun ht48 => ?_)
  ·obtain ⟨x4, hx4⟩ : ∃ x_, (nxS fwd t.arcs s.toNat)[k4]? = some x_ := ⟨_, List.getElem?_eq_getElem (by omega)⟩
   have hll4 := (R44).len_le
   have hx4m : x4 ∈ stp t fwd s := by rw [← hns]; exact List.mem_of_getElem? hx4
   have hx4R : Reach (stp t fwd) (· ∈ fr) x4 := .tail hsR hx4m
   have hx4r := stp_rng (fwd := fwd) hxs hfr hx4R
   refine wc_skip ?_
   refine wc_seq ?_
   refine wc_block ?_
   refine wc_seq ?_
   refine wc_region ?_
   refine wl_ix (j := k4) M R44 Tryd.underlying26 rfl rfl hx4 rfl (fun b49 o49 p49 => ?_)
   refine wl_m M (q_ldp p49 rfl rfl) rfl rfl ?_
   refine wl_as M rfl rfl ?_
   refine wl_nil ?_
   refine wc_region ?_
   refine wl_mv M rfl rfl ?_
   refine wl_mv M rfl rfl ?_
   refine wl_e (e_callV (vs := [.int .i64 x4]) (caps := [.pointer (some ⟨b5, 0, none⟩), .pointer (some ⟨b6, 0, none⟩)]) Tryd.func84 rfl rfl rfl (visit1_c (x4) (by rw [hV4.len]; exact hx4r) (by have := hV4.bnd; omega) M)) rfl rfl ?_
   rintro _ w12 ⟨un, M⟩
   refine wl_nil ?_
   refine wc_region ?_
   refine wl_m M (q_add rfl rfl (IntWalk.i64_in _ (by omega))) rfl rfl ?_
   refine wl_mv M rfl rfl ?_
   refine wl_nil ?_
   refine ⟨(k4 + 1, un, addT (l_15_4) (l_16_4) (x4), (l_15_4).set (x4).toNat true), ?_, ⟨(by omega), (hV4.add hx4r hx4R), (fun s hs => hV4.add_mono hx4r (hF4 s hs)), (fun r hr => by rw [take_snoc hx4] at hr; rcases List.mem_append.1 hr with h | h; exact hV4.add_mono hx4r (hD r h); rw [List.mem_singleton.1 h]; exact hV4.add_on hx4r), (by have := hV4.add_mu hx4r; omega), M⟩, ⟨rfl, trivial⟩, unw_look rfl unw_base⟩
   show (nxS fwd t.arcs s.toNat).length - (k4 + 1) < (nxS fwd t.arcs s.toNat).length - k4
   omega
  have hke4 : k4 = (nxS fwd t.arcs s.toNat).length := by omega
  rw [hke4, List.take_length, hns] at hD
  refine wc_exit rfl ?_
  refine ⟨(u_16_4, l_16_4, l_15_4), ?_, ⟨(hV4.close hD), hF4, M⟩, trivial, unw_look rfl (unw_hav rfl (unw_look rfl unw_base))⟩
  show 2 * l_15_4.count false + l_16_4.length < 2 * l_15_2.count false + l_16_2.length
  omega
 obtain rfl : l_16_2 = [] := List.eq_nil_of_length_eq_zero (by omega)
 refine wc_exit rfl ?_
 refine wc_seq ?_
 refine wc_region ?_
 refine wl_m M (q_ldb 2 Tryd.underlying56 rfl rfl rfl rfl) rfl rfl ?_
 refine wl_as M rfl rfl ?_
 refine wl_nil ?_
 refine wc_ret ?_
 obtain ⟨K1, M, hK1, Rk1⟩ := M.frzRow 3 rfl
 exact out1 rfl rfl ⟨_, K1, rfl, (M.grow : Grow w I _ K1), _, Rk1, hV2.len, hV2.fin hF2⟩
theorem compactI_c {w0 w : World} {I0 I : Heap} {Lt : List Res} {u : SV} {xs : List Int} (hxs : xs.length ≤ 1099511627776) (M : Mem w0 I0 I (row EInt (sv u) xs :: Lt) w) :
    Calls A 71 #[sv u] w (fun e w' => ∃ u' : SV, e = .returned (sv u') ∧ Mem w0 I0 I (row EInt (sv u') (dedupC xs) :: Lt) w') := by
 have hoI := M.old
 refine enter Tryd.func71 rfl 61 Tryd.ntmps71 [_] rfl ?_
 refine wc_seq ?_
 refine wc_region ?_
 refine wl_as M rfl rfl ?_
 refine wl_nil ?_
 refine wc_seq ?_
 refine wc_seq ?_
 refine wc_region ?_
 refine wl_mv M rfl rfl ?_
 refine wl_m M (q_lenr 0 M rfl Tryd.underlying26 rfl) rfl rfl ?_
 refine wl_m M (q_lss rfl rfl) rfl rfl ?_
 refine wl_nil ?_
 refine wc_dec rfl (fun ht8 => ?_) (fun ht8 => ?_)
 ·refine wc_seq ?_
  refine wc_region ?_
  refine wl_mv M rfl rfl ?_
  refine wl_as M rfl rfl ?_
  refine wl_nil ?_
  refine wc_ret ?_
  exact out1 rfl rfl ⟨u, rfl, by rw [dedupC_short (by omega)]; exact M⟩
 refine wc_skip ?_
 refine wc_seq ?_
 refine wc_seq ?_
 refine wc_region ?_
 refine wl_as M rfl rfl ?_
 refine wl_nil ?_
 refine wc_block ?_
 refine wc_loop (α := Nat) [2, 3, 4, 5, 10, 11, 12, 13, 14, 15, 16, 17, 18, 19, 20, 21, 22, 23, 24, 25, 26, 27, 28, 29, 30, 31, 32, 33, 34, 35, 36, 37, 38, 39, 40, 41, 42, 43, 44, 45, 46, 47, 48, 49, 50, 51, 52, 53, 54, 55, 56, 57, 58, 59] (fun (k0 : Nat) => [(3, .int .i64 (k0 : Int))])
   (fun (k0 : Nat) w' => (k0 ≤ xs.length) ∧ (dedupC (xs.take k0) = xs.take k0 ∧ 1 ≤ k0) ∧ Mem w0 I0 I (row EInt (sv u) xs :: Lt) w')
   (fun (k0 : Nat) => xs.length - k0) (1) ⟨rfl, trivial⟩ ?_ ?_
 ·refine ⟨(by omega), ⟨dedupC_short (by simp; omega), Nat.le_refl 1⟩, ?_⟩
  exact M
 rintro k0 jj0 w1 ⟨hk0, hd, M⟩
 refine wc_seq ?_
 refine wc_seq ?_
 refine wc_region ?_
 refine wl_mv M rfl rfl ?_
 refine wl_mv M rfl rfl ?_
 refine wl_m M (q_lenr 0 M rfl Tryd.underlying26 rfl) rfl rfl ?_
 refine wl_m M (q_lss rfl rfl) rfl rfl ?_
 refine wl_nil ?_
 refine wc_dec rfl (fun ht13 => ?_) (fun ht13 => ?_)
 ·obtain ⟨x0, hx0⟩ : ∃ x_, xs[k0]? = some x_ := ⟨_, List.getElem?_eq_getElem (by omega)⟩
  obtain ⟨y0, hy0⟩ : ∃ y, xs[k0 - 1]? = some y := ⟨_, List.getElem?_eq_getElem (by omega)⟩
  refine wc_skip ?_
  refine wc_seq ?_
  refine wc_block ?_
  refine wc_seq ?_
  refine wc_draws (fun w' => Mem w0 I0 I (row EInt (sv u) xs :: Lt) w' ∧ True) [] fol ?_
  replace M := M.drew
  have hS := (⟨M, trivial⟩ : _ ∧ _)
  refine wa_q 0 rfl (by kernel_rfl) (q_move rfl) hS rfl rfl ?_
  refine wa_q 1 rfl (by kernel_rfl) (q_move rfl) hS rfl rfl ?_
  refine wa_ixS (j := k0) 2 hS (fun _ h => h.1.rd (i := 0) rfl) rfl (by kernel_rfl) Tryd.underlying26 rfl rfl hx0 rfl (fun b18 o18 p18 => ?_)
  refine wa_q 3 rfl (by kernel_rfl) (q_ldp p18 rfl rfl) hS rfl rfl ?_
  refine wa_q 4 rfl (by kernel_rfl) (q_move rfl) hS rfl rfl ?_
  refine wa_q 5 rfl (by kernel_rfl) (q_move rfl) hS rfl rfl ?_
  refine wa_q 6 rfl (by kernel_rfl) (q_sub rfl rfl (IntWalk.i64_in _ (by omega))) hS rfl rfl ?_
  refine wa_ixS (j := (k0 - 1)) 7 hS (fun _ h => h.1.rd (i := 0) rfl) rfl (by kernel_rfl) Tryd.underlying26 rfl (ixe (by omega)) hy0 rfl (fun b23 o23 p23 => ?_)
  refine wa_q 8 rfl (by kernel_rfl) (q_ldp p23 rfl rfl) hS rfl rfl ?_
  refine wa_q 9 rfl (by kernel_rfl) (q_eql rfl rfl) hS rfl rfl ?_
  refine wa_done (by kernel_rfl) ?_
  refine wc_dec rfl (fun ht25 => ?_) (fun ht25 => ?_)
  ·refine wc_seq ?_
   refine wc_region ?_
   refine wl_mv M rfl rfl ?_
   refine wl_mv M rfl rfl ?_
   refine wl_m M (q_cutV (E := EInt) (k := k0) Tryd.underlying26 rfl rfl (by rw [M.rowLen (i := 0) rfl]; omega)) rfl rfl ?_
   refine wl_as M rfl rfl ?_
   refine wl_nil ?_
   refine wc_seq ?_
   refine wc_seq ?_
   refine wc_region ?_
   refine wl_as M rfl rfl ?_
   refine wl_nil ?_
   refine wc_block ?_
   refine wc_loop (α := Nat × Nat × (List Int)) [3, 5, 29, 30, 31, 32, 33, 34, 35, 36, 37, 38, 39, 40, 41, 42, 43, 44, 45, 46, 47, 48, 49, 50, 51, 52, 53] (fun ((k2, kk, l_0_2) : Nat × Nat × (List Int)) => [(3, .int .i64 (kk : Int)), (5, .int .i64 (k2 : Int))])
     (fun ((k2, kk, l_0_2) : Nat × Nat × (List Int)) w' => (k2 ≤ xs.length - k0) ∧ (l_0_2.length = xs.length ∧ kk + 1 ≤ k0 + k2 ∧ 1 ≤ k2 ∧ k0 ≤ kk) ∧ (l_0_2.take kk = dedupC (xs.take (k0 + k2))) ∧ (l_0_2.drop kk = xs.drop kk) ∧ Mem w0 I0 I (row EInt (sv u) l_0_2 :: Lt) w')
     (fun ((k2, kk, l_0_2) : Nat × Nat × (List Int)) => xs.length - k0 - k2) (1, k0, xs) ⟨rfl, rfl, trivial⟩ ?_ ?_
   ·refine ⟨(by omega), ⟨rfl, by omega, Nat.le_refl 1, Nat.le_refl _⟩, (by rw [dedupC_step hd.2 hy0 hx0, if_pos ht25.symm, hd.1]), rfl, ?_⟩
    exact M
   rintro ⟨k2, kk, l_0_2⟩ jj2 w2 ⟨hk2, hin, hpre, hsuf, M⟩
   have hdl : (l_0_2.drop k0).length = xs.length - k0 := by rw [List.length_drop, hin.1]
   refine wc_seq ?_
   refine wc_seq ?_
   refine wc_region ?_
   refine wl_mv M rfl rfl ?_
   refine wl_mv M rfl rfl ?_
   refine wl_m M (q_lenR (rdCut (M.rd (i := 0) rfl) (k := k0) (by (simp only [List.length_drop] at *; omega))) Tryd.underlying26 rfl) rfl rfl ?_
   refine wl_m M (q_lss rfl rfl) rfl rfl ?_
   refine wl_nil ?_
   refine wc_dec rfl (fun ht32 => ?_) (fun ht32 => ?_)
   ·obtain ⟨z, hz⟩ : ∃ z, (l_0_2.drop k0)[k2]? = some z := ⟨_, List.getElem?_eq_getElem (by omega)⟩
    obtain ⟨z1, hz1⟩ : ∃ z, (l_0_2.drop k0)[k2 - 1]? = some z := ⟨_, List.getElem?_eq_getElem (by omega)⟩
    have hxz : xs[k0 + k2]? = some z := by rw [← drop_get hsuf (by omega), ← hz, List.getElem?_drop]
    have hxz1 : xs[k0 + k2 - 1]? = some z1 := by rw [← drop_get hsuf (by omega), ← hz1, List.getElem?_drop]; congr 1; omega
    refine wc_skip ?_
    refine wc_seq ?_
    refine wc_block ?_
    refine wc_seq ?_
    refine wc_draws (fun w' => Mem w0 I0 I (row EInt (sv u) l_0_2 :: Lt) w' ∧ True) [] fol ?_
    replace M := M.drew
    have hS := (⟨M, trivial⟩ : _ ∧ _)
    refine wa_q 0 rfl (by kernel_rfl) (q_move rfl) hS rfl rfl ?_
    refine wa_q 1 rfl (by kernel_rfl) (q_move rfl) hS rfl rfl ?_
    refine wa_ixS (j := k2) 2 hS (fun _ h => rdCut (h.1.rd (i := 0) rfl) (k := k0) (by (simp only [List.length_drop] at *; omega))) rfl (by kernel_rfl) Tryd.underlying26 rfl rfl hz rfl (fun b37 o37 p37 => ?_)
    refine wa_q 3 rfl (by kernel_rfl) (q_ldp p37 rfl rfl) hS rfl rfl ?_
    refine wa_q 4 rfl (by kernel_rfl) (q_move rfl) hS rfl rfl ?_
    refine wa_q 5 rfl (by kernel_rfl) (q_move rfl) hS rfl rfl ?_
    refine wa_q 6 rfl (by kernel_rfl) (q_sub rfl rfl (IntWalk.i64_in _ (by omega))) hS rfl rfl ?_
    refine wa_ixS (j := (k2 - 1)) 7 hS (fun _ h => rdCut (h.1.rd (i := 0) rfl) (k := k0) (by (simp only [List.length_drop] at *; omega))) rfl (by kernel_rfl) Tryd.underlying26 rfl (ixe (by omega)) hz1 rfl (fun b42 o42 p42 => ?_)
    refine wa_q 8 rfl (by kernel_rfl) (q_ldp p42 rfl rfl) hS rfl rfl ?_
    refine wa_q 9 rfl (by kernel_rfl) (q_neq rfl rfl) hS rfl rfl ?_
    refine wa_done (by kernel_rfl) ?_
    refine wc_cond rfl (fun ht44 => ?_) (fun ht44 => ?_)
    ·refine wc_seq ?_
     refine wc_region ?_
     refine wl_mv M rfl rfl ?_
     refine wl_mv M rfl rfl ?_
     refine wl_mv M rfl rfl ?_
     refine wl_mv M rfl rfl ?_
     refine wl_ixS (j := k2) M (fun w M => rdCut (M.rd (i := 0) rfl) (k := k0) (by (simp only [List.length_drop] at *; omega))) Tryd.underlying26 rfl rfl hz rfl (fun b49 o49 p49 => ?_)
     refine wl_m M (q_ldp p49 rfl rfl) rfl rfl ?_
     refine wl_ixw (j := kk) 0 M rfl Tryd.underlying26 rfl rfl (by omega) rfl (fun b51 o51 p51 => ?_)
     refine wl_e0 (e_str (u := z) 0 M rfl rfl rfl p51 (by omega) rfl) rfl ?_
     intro _ w3 M
     simp only [sC0, sCS] at M
     refine wl_nil ?_
     refine wc_region ?_
     refine wl_mv M rfl rfl ?_
     refine wl_m M (q_add rfl rfl (IntWalk.i64_in _ (by omega))) rfl rfl ?_
     refine wl_as M rfl rfl ?_
     refine wl_nil ?_
     refine wc_region ?_
     refine wl_mv M rfl rfl ?_
     refine wl_m M (q_add rfl rfl (IntWalk.i64_in _ (by omega))) rfl rfl ?_
     refine wl_as M rfl rfl ?_
     refine wl_nil ?_
     refine ⟨(k2 + 1, kk + 1, l_0_2.set kk z), ?_, ⟨(by omega), ⟨by simp [hin.1], by omega, by omega, by omega⟩, (by rw [show k0 + (k2 + 1) = (k0 + k2) + 1 by omega, dedupC_step (by omega) hxz1 hxz, if_neg (fun e => nd_t ht44 e.symm), ← hpre, take_set_snoc (by omega)]), (by rw [List.drop_set_of_lt (by omega)]; exact drop_more hsuf (by omega)), M⟩, ⟨rfl, rfl, trivial⟩, unw_look rfl unw_base⟩
     show xs.length - k0 - (k2 + 1) < xs.length - k0 - k2
     omega
    refine wc_skip ?_
    refine wc_region ?_
    refine wl_mv M rfl rfl ?_
    refine wl_m M (q_add rfl rfl (IntWalk.i64_in _ (by omega))) rfl rfl ?_
    refine wl_as M rfl rfl ?_
    refine wl_nil ?_
    refine ⟨(k2 + 1, kk, l_0_2), ?_, ⟨(by omega), ⟨hin.1, by omega, by omega, by omega⟩, (by rw [show k0 + (k2 + 1) = (k0 + k2) + 1 by omega, dedupC_step (by omega) hxz1 hxz, if_pos (nd_f ht44).symm, ← hpre]), hsuf, M⟩, ⟨rfl, rfl, trivial⟩, unw_look rfl unw_base⟩
    show xs.length - k0 - (k2 + 1) < xs.length - k0 - k2
    omega
   have hke2 : k2 = xs.length - k0 := by omega
   rw [show k0 + k2 = xs.length by omega, List.take_length] at hpre
   refine wc_exit rfl ?_
   refine wc_seq ?_
   refine wc_region ?_
   refine wl_mv M rfl rfl ?_
   refine wl_mv M rfl rfl ?_
   refine wl_m M (q_cutV (E := EInt) (k := kk) Tryd.underlying26 rfl rfl (by rw [M.rowLen (i := 0) rfl]; omega)) rfl rfl ?_
   refine wl_e0 (e_clear (E := EInt) (k := kk) (zv := (0 : Int)) 0 M rfl Tryd.underlying26 z3 rfl (by omega)) rfl ?_
   rintro _ w4 M
   simp only [sC0, sCS] at M
   refine wl_nil ?_
   refine wc_seq ?_
   refine wc_region ?_
   refine wl_mv M rfl rfl ?_
   refine wl_mv M rfl rfl ?_
   refine wl_m M (q_takeV (E := EInt) (k := kk) Tryd.underlying26 rfl rfl (by have := M.rowLen (i := 0) rfl; have := M.rowCap (i := 0) rfl; simp only [List.length_append, List.length_take, List.length_replicate] at *; omega)) rfl rfl ?_
   replace M := M.rowTake 0 rfl (k := kk) (by simp; omega)
   simp only [sC0, sCS] at M
   refine wl_as M rfl rfl ?_
   refine wl_nil ?_
   refine wc_ret ?_
   exact out1 rfl rfl ⟨_, rfl, by rw [List.take_append_of_le_length (by simp; omega), List.take_take, Nat.min_self, hpre] at M; exact M⟩
  refine wc_skip ?_
  refine wc_region ?_
  refine wl_mv M rfl rfl ?_
  refine wl_m M (q_add rfl rfl (IntWalk.i64_in _ (by omega))) rfl rfl ?_
  refine wl_as M rfl rfl ?_
  refine wl_nil ?_
  refine ⟨(k0 + 1), ?_, ⟨(by omega), ⟨by rw [dedupC_step hd.2 hy0 hx0, if_neg (fun e => ht25 e.symm), hd.1, take_snoc hx0], by omega⟩, M⟩, ⟨rfl, trivial⟩, unw_look rfl unw_base⟩
  show xs.length - (k0 + 1) < xs.length - k0
  omega
 have hke0 : k0 = xs.length := by omega
 rw [hke0, List.take_length] at hd
 refine wc_exit rfl ?_
 refine wc_seq ?_
 refine wc_region ?_
 refine wl_mv M rfl rfl ?_
 refine wl_as M rfl rfl ?_
 refine wl_nil ?_
 refine wc_ret ?_
 exact out1 rfl rfl ⟨u, rfl, by rw [hd.1]; exact M⟩
theorem orderU_c (x y : Arc) {I : Heap} {w : World} (hI : hle I (hp w)) : Calls A 72 #[EArc.val x, EArc.val y] w (Ret w I fun r _ => r = .int .i64 (ordA x y)) := by
 have M := Mem.start hI
 refine enter Tryd.func72 rfl 27 Tryd.ntmps72 [_, _] rfl ?_
 refine wc_seq ?_
 refine wc_region ?_
 refine wl_e (e_box M rfl) rfl rfl ?_
 rintro _ w1 ⟨b2, rfl, M⟩
 refine wl_e (e_box M rfl) rfl rfl ?_
 rintro _ w2 ⟨b3, rfl, M⟩
 refine wl_as M rfl rfl ?_
 refine wl_nil ?_
 refine wc_seq ?_
 refine wc_draws (fun w' => Mem w I I (box b3 52 [.int .i64 y.src, .int .i64 y.dst, .int .i32 y.inp, .int .i32 y.out] :: box b2 52 [.int .i64 x.src, .int .i64 x.dst, .int .i32 x.inp, .int .i32 x.out] :: []) w' ∧ True) [] fol ?_
 replace M := M.drew
 have hS := (⟨M, trivial⟩ : _ ∧ _)
 refine wa_q 0 rfl (by kernel_rfl) (q_fa fo_52_0 rfl) hS rfl rfl ?_
 refine wa_q 1 rfl (by kernel_rfl) ((q_ldb 1 Tryd.underlying3 rfl rfl rfl rfl).mono fun _ h => h.1) hS rfl rfl ?_
 refine wa_q 2 rfl (by kernel_rfl) (q_fa fo_52_0 rfl) hS rfl rfl ?_
 refine wa_q 3 rfl (by kernel_rfl) ((q_ldb 0 Tryd.underlying3 rfl rfl rfl rfl).mono fun _ h => h.1) hS rfl rfl ?_
 refine wa_q 5 rfl (by kernel_rfl) (q_fa fo_52_1 rfl) hS rfl rfl ?_
 refine wa_q 6 rfl (by kernel_rfl) ((q_ldb 1 Tryd.underlying3 rfl rfl rfl rfl).mono fun _ h => h.1) hS rfl rfl ?_
 refine wa_q 7 rfl (by kernel_rfl) (q_fa fo_52_1 rfl) hS rfl rfl ?_
 refine wa_q 8 rfl (by kernel_rfl) ((q_ldb 0 Tryd.underlying3 rfl rfl rfl rfl).mono fun _ h => h.1) hS rfl rfl ?_
 refine wa_q 10 rfl (by kernel_rfl) (q_fa fo_52_2 rfl) hS rfl rfl ?_
 refine wa_q 11 rfl (by kernel_rfl) ((q_ldb 1 Tryd.underlying21 rfl rfl rfl rfl).mono fun _ h => h.1) hS rfl rfl ?_
 refine wa_q 12 rfl (by kernel_rfl) (q_fa fo_52_2 rfl) hS rfl rfl ?_
 refine wa_q 13 rfl (by kernel_rfl) ((q_ldb 0 Tryd.underlying21 rfl rfl rfl rfl).mono fun _ h => h.1) hS rfl rfl ?_
 refine wa_q 15 rfl (by kernel_rfl) (q_fa fo_52_3 rfl) hS rfl rfl ?_
 refine wa_q 16 rfl (by kernel_rfl) ((q_ldb 1 Tryd.underlying21 rfl rfl rfl rfl).mono fun _ h => h.1) hS rfl rfl ?_
 refine wa_q 17 rfl (by kernel_rfl) (q_fa fo_52_3 rfl) hS rfl rfl ?_
 refine wa_q 18 rfl (by kernel_rfl) ((q_ldb 0 Tryd.underlying21 rfl rfl rfl rfl).mono fun _ h => h.1) hS rfl rfl ?_
 refine wa_e 4 rfl (by kernel_rfl) (e_callC M (compare_int _ _ M.imm) Tryd.func65 rfl rfl) rfl rfl ?_
 rintro _ w3 ⟨J9, hJ9, rfl, M⟩
 have hS := (⟨(M.less hJ9 (fun _ _ => rfl)), trivial⟩ : _ ∧ _)
 refine ⟨fun _ => hS, ?_⟩
 replace M := M.less hJ9 (fun _ _ => rfl)
 refine wa_e 9 rfl (by kernel_rfl) (e_callC M (compare_int _ _ M.imm) Tryd.func65 rfl rfl) rfl rfl ?_
 rintro _ w4 ⟨J14, hJ14, rfl, M⟩
 have hS := (⟨(M.less hJ14 (fun _ _ => rfl)), trivial⟩ : _ ∧ _)
 refine ⟨fun _ => hS, ?_⟩
 replace M := M.less hJ14 (fun _ _ => rfl)
 refine wa_e 14 rfl (by kernel_rfl) (e_callC M (compare_rune _ _ M.imm) Tryd.func66 rfl rfl) rfl rfl ?_
 rintro _ w5 ⟨J19, hJ19, rfl, M⟩
 have hS := (⟨(M.less hJ19 (fun _ _ => rfl)), trivial⟩ : _ ∧ _)
 refine ⟨fun _ => hS, ?_⟩
 replace M := M.less hJ19 (fun _ _ => rfl)
 refine wa_e 19 rfl (by kernel_rfl) (e_callC M (compare_rune _ _ M.imm) Tryd.func66 rfl rfl) rfl rfl ?_
 rintro _ w6 ⟨J24, hJ24, rfl, M⟩
 have hS := (⟨(M.less hJ24 (fun _ _ => rfl)), trivial⟩ : _ ∧ _)
 refine ⟨fun _ => hS, ?_⟩
 replace M := M.less hJ24 (fun _ _ => rfl)
 refine wa_e 20 rfl (by kernel_rfl) (e_bsI (E := EInt) (xs := [cmpI x.src y.src, cmpI x.dst y.dst, cmpI x.inp y.inp, cmpI x.out y.out]) M (bs_26_4 _ _ _ _) ⟨⟨rfl, rfl⟩, ⟨rfl, rfl⟩, ⟨rfl, rfl⟩, ⟨rfl, rfl⟩, trivial⟩ rfl rfl (by decide)) rfl rfl ?_
 rintro _ w7 ⟨u25, J25, rfl, hJ25, R25, M⟩
 have hoJ25 := M.old
 have hS := (⟨(M.less hJ25 (fun _ _ => rfl)), trivial⟩ : _ ∧ _)
 refine ⟨fun _ => hS, ?_⟩
 refine wa_e 21 rfl (by kernel_rfl) (e_callC M (or_c M.imm R25) Tryd.func64 rfl rfl) rfl rfl ?_
 rintro _ w8 ⟨J26, hJ26, rfl, M⟩
 have hS := (⟨(M.less (hle.trans hJ25 hJ26) (fun _ _ => rfl)), trivial⟩ : _ ∧ _)
 refine ⟨fun _ => hS, ?_⟩
 replace M := M.less hJ26 hoJ25
 refine wa_q 22 rfl (by kernel_rfl) (q_assign rfl) hS rfl rfl ?_
 refine wa_done (by kernel_rfl) ?_
 refine wc_ret ?_
 exact out1 rfl rfl ⟨_, _, rfl, M.grow, rfl⟩
end Go.Proofs.YtoilmeiikgegcaaDoor.G
