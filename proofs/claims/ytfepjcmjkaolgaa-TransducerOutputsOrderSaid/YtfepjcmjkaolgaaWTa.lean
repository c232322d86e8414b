/- Walks of the program's functions. -/
import Derived.Test.YtfepjcmjkaolgaaWA
import Derived.Test.YtfepjcmjkaolgaaGTrm
set_option linter.all false
namespace Go.Proofs.Ytfepjcmjkaolgaa.G
open Go Go.RowKit
theorem clone_c {w0 w : World} {I0 I : Heap} {Lt : List Res} {u : SV} {xs : List Int} (hxs : xs.length ≤ 1099511627776) (M : Mem w0 I0 I Lt w) (R0 : rdSl EInt I (sv u) xs) :
    Calls A 62 #[sv u] w (fun e w' => ∃ u' : SV, e = .returned (sv u') ∧ Mem w0 I0 I (row EInt (sv u') xs :: Lt) w') := by
 have hoI := M.old
 refine enter Try.func62 rfl 8 Try.ntmps62 [_] rfl ?_
 refine wc_seq <| wc_region <| wl_as M rfl rfl <| wl_nil ?_
 refine wc_seq ?_
 refine wc_seq <| wc_region <| wl_mv M rfl rfl <| wl_m M (q_eqlN Try.underlying22 rfl rfl) rfl rfl <| wl_nil ?_
 refine wc_cond rfl (fun ht4 => ?_) (fun ht4 => ?_)
 ·refine wc_seq <| wc_region <| wl_as M rfl rfl <| wl_nil <| wc_ret ?_
  obtain rfl := rd_none R0 ht4
  exact out1 rfl rfl ⟨nilV, rfl, M.nilRow EInt⟩
 refine wc_skip ?_
 refine wc_seq <| wc_region <| wl_e (e_bsR (E := EInt) (xs := []) M (bs_22_0) trivial rfl rfl (by decide)) rfl rfl ?_
 rintro _ w1 ⟨u5, rfl, M⟩
 refine wl_mv M rfl rfl <| wl_e (e_app 0 M rfl R0 Try.underlying22 rfl rfl (by show (_ + _) * 8 ≤ _; simp only [List.length_nil]; omega)) rfl rfl ?_
 rintro _ w2 ⟨u7, rfl, M⟩
 simp only [sC0, sCS] at M
 refine wl_as M rfl rfl <| wl_nil <| wc_ret ?_
 exact out1 rfl rfl ⟨_, rfl, M⟩
theorem reachedT_c {t : Tra} {m : Nat} (hst : t.states = m) (hm : m ≤ 512) (hxs : ∀ x ∈ t.arcs, (0 ≤ x.src ∧ x.src < m) ∧ 0 ≤ x.dst ∧ x.dst < m) (hal : t.arcs.length ≤ 4096) {fr : List Int} (hfr : ∀ f ∈ fr, 0 ≤ f ∧ f < m) (hfl : fr.length ≤ 4096) (back : Bool) {v : Value} {uf : SV} {I : Heap} {w : World} (hI : hle I (hp w)) (R : t.rd I v) (Rf0 : rdSl EInt I (sv uf) fr) :
    Calls A 48 #[v, sv uf, .bool back] w (Ret w I fun r I' => ∃ bs : List Bool, rdSl EBool I' r bs ∧ bs.length = m ∧ ∀ s, bt bs s ↔ Reach (stp t (!back)) (· ∈ fr) s) := by
 obtain ⟨fu, au, rfl, Rf, Ra⟩ := R
 have hmA : m * (t.arcs.length + 1) ≤ 512 * 4097 := Nat.mul_le_mul hm (by omega)
 have M := Mem.start hI
 refine enter Try.func48 rfl 71 Try.ntmps48 [_, _, _] rfl ?_
 refine wc_seq <| wc_region <| wl_e (e_box M rfl) rfl rfl ?_
 rintro _ w1 ⟨b3, rfl, M⟩
 refine wl_as M rfl rfl <| wl_nil ?_
 refine wc_seq <| wc_region <| wl_m M (q_fa fo_25_0 rfl) rfl rfl <| wl_m M (q_ldb 0 Try.underlying3 rfl rfl rfl rfl) rfl rfl <| wl_e (e_make (E := VInt) (zv := nilV) (m := m) M Try.underlying115 z22 (by rw [hst]; rfl) (by rw [hst]; rfl) (by show _ * 24 ≤ _; omega)) rfl rfl ?_
 rintro _ w2 ⟨u17, rfl, M⟩
 replace M := M.toMat 0 EInt rfl
 simp only [sC0, sCS] at M
 refine wl_as M rfl rfl <| wl_nil ?_
 refine wc_seq ?_
 refine wc_seq <| wc_region <| wl_m M (q_fa fo_25_3 rfl) rfl rfl <| wl_m M (q_ldb 1 Try.underlying23 rfl rfl rfl rfl) rfl rfl <| wl_m M (q_lenR Ra Try.underlying23 rfl) rfl rfl <| wl_mv M rfl rfl <| wl_nil <| wc_block ?_
 refine wc_loop (α := Nat × (List SV) × (List (List Int))) [9, 10, 11, 21, 22, 23, 24, 25, 26, 27, 28, 29, 30, 31, 32, 33, 34, 35, 36, 37, 38, 39, 40, 41, 42] (fun ((k0, vs_17_0, xss_17_0) : Nat × (List SV) × (List (List Int))) => [(21, .int .i64 (k0 : Int))])
   (fun ((k0, vs_17_0, xss_17_0) : Nat × (List SV) × (List (List Int))) w' => (k0 ≤ t.arcs.length) ∧ (vs_17_0.length = m) ∧ (xss_17_0 = nxM (!back) m (t.arcs.take k0)) ∧ Mem w I I (mat EInt VInt (sv u17) vs_17_0 vs_17_0 xss_17_0 :: box b3 25 [.int .i64 t.states, .int .i64 t.start, sv fu, sv au] :: []) w')
   (fun ((k0, vs_17_0, xss_17_0) : Nat × (List SV) × (List (List Int))) => t.arcs.length - k0) (0, List.replicate m nilV, List.replicate m []) ⟨rfl, trivial⟩ ?_ ?_
 ·refine ⟨Nat.zero_le _, (by simp), (by simp [nxM_nil]), ?_⟩
  exact M
 rintro ⟨k0, vs_17_0, xss_17_0⟩ jj0 w3 ⟨hk0, hl, hx, M⟩
 refine wc_seq <| wc_region <| wl_m M (q_lss rfl rfl) rfl rfl <| wl_nil ?_
 refine wc_seq ?_
 refine wc_dec rfl (fun ht22 => ?_) (fun ht22 => ?_)
 ·obtain ⟨x0, hx0⟩ : ∃ x_, t.arcs[k0]? = some x_ := ⟨_, List.getElem?_eq_getElem (by omega)⟩
  have hll0 := (Ra).len_le
  refine wc_skip ?_
  refine wc_seq <| wc_block ?_
  refine wc_seq <| wc_region ?_
  refine wl_ix (j := k0) M Ra Try.underlying23 rfl rfl hx0 rfl (fun b23 o23 p23 => ?_)
  refine wl_m M (q_ldp p23 rfl rfl) rfl rfl <| wl_e (e_alloc M z50) rfl rfl ?_
  rintro _ w4 ⟨b9, rfl, M⟩
  refine wl_e0 (e_stW 0 M rfl rfl rfl sz50 rfl rfl) rfl ?_
  intro _ w5 M
  simp only [sC0, sCS] at M
  refine wl_nil ?_
  refine wc_seq ?_
  refine wc_draws (fun w' => Mem w I I (box b9 50 [.int .i64 x0.src, .int .i64 x0.dst, .int .i32 x0.inp, .int .i32 x0.out] :: mat EInt VInt (sv u17) vs_17_0 vs_17_0 xss_17_0 :: box b3 25 [.int .i64 t.states, .int .i64 t.start, sv fu, sv au] :: []) w' ∧ True) [] fol ?_
  replace M := M.drew
  have hS := (⟨M, trivial⟩ : _ ∧ _)
  refine wa_q 0 rfl (by kernel_rfl) (q_fa fo_50_0 rfl) hS rfl rfl ?_
  refine wa_q 1 rfl (by kernel_rfl) ((q_ldb 0 Try.underlying3 rfl rfl rfl rfl).mono fun _ h => h.1) hS rfl rfl ?_
  refine wa_q 2 rfl (by kernel_rfl) (q_fa fo_50_1 rfl) hS rfl rfl ?_
  refine wa_q 3 rfl (by kernel_rfl) ((q_ldb 0 Try.underlying3 rfl rfl rfl rfl).mono fun _ h => h.1) hS rfl rfl ?_
  refine wa_q 4 rfl (by kernel_rfl) (q_assign rfl) hS rfl rfl ?_
  refine wa_q 5 rfl (by kernel_rfl) (q_assign rfl) hS rfl rfl ?_
  refine wa_done (by kernel_rfl) ?_
  refine wc_seq ?_
  refine wc_seq <| wc_region <| wl_mv M rfl rfl <| wl_nil ?_
  refine wc_cond rfl (fun ht29 => ?_) (fun ht29 => ?_)
  ·have hx0r := hxs x0 (List.mem_of_getElem? hx0)
   obtain ⟨s, hs⟩ : ∃ s : Nat, x0.dst = (s : Int) := ⟨x0.dst.toNat, by omega⟩
   have hsm : s < m := by omega
   have hvl : vs_17_0[s]? = some vs_17_0[s] := List.getElem?_eq_getElem (by omega)
   have e1 : nxM (!back) m (t.arcs.take (k0 + 1)) = (nxM (!back) m (t.arcs.take k0)).set s (nxS (!back) (t.arcs.take k0) s ++ [x0.src]) := by rw [take_snoc hx0, nxM_snoc (by simp [eA, ht29, hs]) hsm]; simp [eB, ht29]
   refine wc_region <| wl_mv M rfl rfl <| wl_mv M rfl rfl <| wl_as M rfl rfl <| wl_as M rfl rfl <| wl_nil <| wc_region <| wl_mv M rfl rfl <| wl_mv M rfl rfl <| wl_mv M rfl rfl <| wl_mv M rfl rfl ?_
   refine wl_ixm (j := s) 1 M rfl Try.underlying115 rfl (by rw [hs]; rfl) hvl rfl (fun b36 o36 p36 => ?_)
   refine wl_m M (q_ldp p36 rfl rfl) rfl rfl <| wl_mv M rfl rfl <| wl_e (e_bsI (E := EInt) (xs := [x0.src]) M (bs_22_1 _) ⟨⟨rfl, rfl⟩, trivial⟩ rfl rfl (by decide)) rfl rfl ?_
   rintro _ w6 ⟨u39, J39, rfl, hJ39, R39, M⟩
   have hoJ39 := M.old
   refine wl_e (e_appm 1 s M rfl Try.underlying22 hvl (by rw [hx]; exact nxM_at hsm) rfl rfl R39 (by have := nxS_len (!back) (t.arcs.take k0) s; simp only [List.length_take] at this; show (_ + 1) * 8 ≤ _; omega)) rfl rfl ?_
   rintro _ w7 ⟨u40, rfl, M⟩
   replace M := M.less hJ39 (fun _ _ => rfl)
   simp only [sC0, sCS] at M
   refine wl_ixmw (j := s) 1 M rfl Try.underlying115 rfl (by rw [hs]; rfl) (by omega) rfl (fun b41 o41 p41 => ?_)
   refine wl_e0 (e_stm 1 M rfl rfl rfl p41 (by omega) rfl) rfl ?_
   intro _ w8 M
   simp only [sC0, sCS] at M
   refine wl_nil <| wc_region <| wl_m M (q_add rfl rfl (IntWalk.i64_in _ (by omega))) rfl rfl ?_
   refine wl_mv M rfl rfl <| wl_nil ?_
   replace M := M.drop 0
   refine ⟨(k0 + 1, vs_17_0.set s u40, xss_17_0.set s ((nxS (!back) (t.arcs.take k0) s) ++ [x0.src])), ?_, ⟨(by omega), (by simp [hl]), (by rw [hx, e1]), M⟩, ⟨rfl, trivial⟩, unw_look rfl unw_base⟩
   show t.arcs.length - (k0 + 1) < t.arcs.length - k0
   omega
  have hx0r := hxs x0 (List.mem_of_getElem? hx0)
  obtain ⟨s, hs⟩ : ∃ s : Nat, x0.src = (s : Int) := ⟨x0.src.toNat, by omega⟩
  have hsm : s < m := by omega
  have hvl : vs_17_0[s]? = some vs_17_0[s] := List.getElem?_eq_getElem (by omega)
  have e1 : nxM (!back) m (t.arcs.take (k0 + 1)) = (nxM (!back) m (t.arcs.take k0)).set s (nxS (!back) (t.arcs.take k0) s ++ [x0.dst]) := by rw [take_snoc hx0, nxM_snoc (by simp [eA, ht29, hs]) hsm]; simp [eB, ht29]
  refine wc_skip <| wc_region <| wl_mv M rfl rfl <| wl_mv M rfl rfl <| wl_mv M rfl rfl <| wl_mv M rfl rfl ?_
  refine wl_ixm (j := s) 1 M rfl Try.underlying115 rfl (by rw [hs]; rfl) hvl rfl (fun b36 o36 p36 => ?_)
  refine wl_m M (q_ldp p36 rfl rfl) rfl rfl <| wl_mv M rfl rfl <| wl_e (e_bsI (E := EInt) (xs := [x0.dst]) M (bs_22_1 _) ⟨⟨rfl, rfl⟩, trivial⟩ rfl rfl (by decide)) rfl rfl ?_
  rintro _ w9 ⟨u39, J39, rfl, hJ39, R39, M⟩
  have hoJ39 := M.old
  refine wl_e (e_appm 1 s M rfl Try.underlying22 hvl (by rw [hx]; exact nxM_at hsm) rfl rfl R39 (by have := nxS_len (!back) (t.arcs.take k0) s; simp only [List.length_take] at this; show (_ + 1) * 8 ≤ _; omega)) rfl rfl ?_
  rintro _ w10 ⟨u40, rfl, M⟩
  replace M := M.less hJ39 (fun _ _ => rfl)
  simp only [sC0, sCS] at M
  refine wl_ixmw (j := s) 1 M rfl Try.underlying115 rfl (by rw [hs]; rfl) (by omega) rfl (fun b41 o41 p41 => ?_)
  refine wl_e0 (e_stm 1 M rfl rfl rfl p41 (by omega) rfl) rfl ?_
  intro _ w11 M
  simp only [sC0, sCS] at M
  refine wl_nil <| wc_region <| wl_m M (q_add rfl rfl (IntWalk.i64_in _ (by omega))) rfl rfl ?_
  refine wl_mv M rfl rfl <| wl_nil ?_
  replace M := M.drop 0
  refine ⟨(k0 + 1, vs_17_0.set s u40, xss_17_0.set s ((nxS (!back) (t.arcs.take k0) s) ++ [x0.dst])), ?_, ⟨(by omega), (by simp [hl]), (by rw [hx, e1]), M⟩, ⟨rfl, trivial⟩, unw_look rfl unw_base⟩
  show t.arcs.length - (k0 + 1) < t.arcs.length - k0
  omega
 have hke0 : k0 = t.arcs.length := by omega
 refine wc_exit rfl ?_
 refine wc_seq ?_
 rw [hke0, List.take_length] at hx
 obtain ⟨I9, M, hI9, Rn⟩ := M.frzMat 0 rfl
 have hoI9 := M.old
 rw [hx] at Rn
 refine wc_region <| wl_m M (q_fa fo_25_0 rfl) rfl rfl <| wl_m M (q_ldb 0 Try.underlying3 rfl rfl rfl rfl) rfl rfl <| wl_e (e_make (E := EBool) (zv := false) (m := m) M Try.underlying89 z4 (by rw [hst]; rfl) (by rw [hst]; rfl) (by show _ * 1 ≤ _; omega)) rfl rfl ?_
 rintro _ w12 ⟨u45, rfl, M⟩
 refine wl_as M rfl rfl <| wl_nil ?_
 refine wc_seq ?_
 refine wc_seq <| wc_region <| wl_mv M rfl rfl <| wl_e (e_callO (val := sv) Try.func62 rfl (vs := [sv uf]) rfl (clone_c (by omega) M (Rf0.mono hI9))) rfl rfl ?_
 rintro _ w13 ⟨u47, rfl, M⟩
 refine wl_as M rfl rfl <| wl_nil <| wc_block ?_
 refine wc_loop (α := SV × (List Int) × (List Bool)) [13, 14, 48, 49, 50, 51, 52, 53, 54, 55, 56, 57, 58, 59, 60, 61, 62, 63, 64, 65, 66, 67, 68, 69] (fun ((u_47_2, l_47_2, l_45_2) : SV × (List Int) × (List Bool)) => [(13, sv u_47_2)])
   (fun ((u_47_2, l_47_2, l_45_2) : SV × (List Int) × (List Bool)) w' => (Rq (stp t (!back)) fr m t.arcs.length l_45_2 l_47_2) ∧ Mem w I I9 (row EInt (sv u_47_2) l_47_2 :: row EBool (sv u45) l_45_2 :: box b3 25 [.int .i64 t.states, .int .i64 t.start, sv fu, sv au] :: []) w')
   (fun ((u_47_2, l_47_2, l_45_2) : SV × (List Int) × (List Bool)) => l_45_2.count false * (t.arcs.length + 1) + l_47_2.length) (u47, fr, List.replicate m false) ⟨rfl, trivial⟩ ?_ ?_
 ·refine ⟨Rq.init, ?_⟩
  exact M
 rintro ⟨u_47_2, l_47_2, l_45_2⟩ jj2 w14 ⟨hR, M⟩
 have hoI9 := M.old
 refine wc_seq ?_
 refine wc_seq <| wc_region <| wl_mv M rfl rfl <| wl_m M (q_lenr 0 M rfl Try.underlying22 rfl) rfl rfl <| wl_m M (q_gtr rfl rfl) rfl rfl <| wl_nil ?_
 refine wc_dec rfl (fun ht50 => ?_) (fun ht50 => ?_)
 ·obtain ⟨s, qs, hq⟩ : ∃ (s : Int) (qs : List Int), l_47_2 = s :: qs := by
    cases l_47_2 with
    | nil => simp at ht50
    | cons x qs => exact ⟨x, qs, rfl⟩
  have hR' := hR
  rw [hq] at hR'
  have hsr := stp_rng hxs hfr (hR'.rch s (by simp))
  have hsm : s.toNat < m := by omega
  have hll := hR'.len
  obtain ⟨ys, hys⟩ : ∃ y, l_45_2[s.toNat]? = some y := ⟨_, List.getElem?_eq_getElem (by omega)⟩
  refine wc_skip ?_
  refine wc_seq <| wc_block ?_
  refine wc_seq <| wc_region <| wl_mv M rfl rfl ?_
  refine wl_ixr (j := 0) 0 M rfl Try.underlying22 rfl rfl (by rw [hq]; rfl) rfl (fun b54 o54 p54 => ?_)
  refine wl_m M (q_ldp p54 rfl rfl) rfl rfl <| wl_as M rfl rfl <| wl_nil ?_
  refine wc_seq <| wc_region <| wl_mv M rfl rfl <| wl_mv M rfl rfl ?_
  refine wl_ixr (j := s.toNat) 1 M rfl Try.underlying89 rfl (ixe (by omega)) hys rfl (fun b58 o58 p58 => ?_)
  refine wl_m M (q_ldp p58 rfl rfl) rfl rfl <| wl_m M (q_not rfl) rfl rfl <| wl_nil ?_
  refine wc_cond rfl (fun ht60 => ?_) (fun ht60 => ?_)
  ·obtain rfl : ys = false := by simpa using ht60
   have hns : nxS (!back) t.arcs s.toNat = stp t (!back) s := by rw [nxS_stp, Int.toNat_of_nonneg hsr.1]
   have hAs : (stp t (!back) s).length ≤ t.arcs.length := by rw [← hns]; exact nxS_len _ _ _
   have hRp := hR'.push hsr hys hAs
   have hmu := hR'.push_mu hys hAs
   have hpl := hR'.push_len hys hAs
   refine wc_seq <| wc_region <| wl_mv M rfl rfl <| wl_mv M rfl rfl ?_
   refine wl_ixw (j := s.toNat) 1 M rfl Try.underlying89 rfl (ixe (by omega)) (by rw [hR.len]; omega) rfl (fun b63 o63 p63 => ?_)
   refine wl_e0 (e_str (u := true) 1 M rfl rfl rfl p63 (by rw [hR.len]; omega) rfl) rfl ?_
   intro _ w15 M
   simp only [sC0, sCS] at M
   refine wl_nil <| wc_region <| wl_mv M rfl rfl <| wl_mv M rfl rfl <| wl_mv M rfl rfl ?_
   obtain ⟨os67, u67, Ro67, ho67, R67⟩ := (Rn).at_ (nxM_at hsm)
   replace R67 : rdSl EInt I9 (sv u67) ((nxS (!back) t.arcs s.toNat)) := R67
   refine wl_ix (j := s.toNat) M Ro67 Try.underlying115 rfl (ixe (by omega)) ho67 rfl (fun b67 o67 p67 => ?_)
   refine wl_m M (q_ldp p67 rfl rfl) rfl rfl <| wl_e (e_app 0 M rfl R67 Try.underlying22 rfl rfl (by rw [← hq, ← hns] at hpl; show (_ + _) * 8 ≤ _; omega)) rfl rfl ?_
   rintro _ w16 ⟨u69, rfl, M⟩
   simp only [sC0, sCS] at M
   refine wl_as M rfl rfl <| wl_nil <| wc_region <| wl_mv M rfl rfl <| wl_e (e_cut (k := 1) 0 M rfl Try.underlying22 rfl rfl (by rw [hq]; simp)) rfl rfl ?_
   rintro _ w17 ⟨u52, rfl, M⟩
   simp only [sC0, sCS] at M
   refine wl_as M rfl rfl <| wl_nil ?_
   refine ⟨(u52, (l_47_2 ++ (nxS (!back) t.arcs s.toNat)).drop 1, l_45_2.set s.toNat true), ?_, ⟨(by rw [hq, hns]; exact hRp), M⟩, ⟨rfl, trivial⟩, unw_look rfl unw_base⟩
   show (l_45_2.set s.toNat true).count false * (t.arcs.length + 1) + ((l_47_2 ++ (nxS (!back) t.arcs s.toNat)).drop 1).length < l_45_2.count false * (t.arcs.length + 1) + l_47_2.length
   rw [hq, hns]; exact hmu
  have hRk := hR'.known ((bt_of hsr.1 hys).2 (by simpa using ht60))
  refine wc_skip <| wc_region <| wl_mv M rfl rfl <| wl_e (e_cut (k := 1) 0 M rfl Try.underlying22 rfl rfl (by rw [hq]; simp)) rfl rfl ?_
  rintro _ w18 ⟨u52, rfl, M⟩
  simp only [sC0, sCS] at M
  refine wl_as M rfl rfl <| wl_nil ?_
  refine ⟨(u52, l_47_2.drop 1, l_45_2), ?_, ⟨(by rw [hq]; exact hRk), M⟩, ⟨rfl, trivial⟩, unw_look rfl unw_base⟩
  show l_45_2.count false * (t.arcs.length + 1) + (l_47_2.drop 1).length < l_45_2.count false * (t.arcs.length + 1) + l_47_2.length
  rw [hq]; simp
 obtain rfl : l_47_2 = [] := by cases l_47_2 with | nil => rfl | cons x l => simp at ht50
 refine wc_exit rfl ?_
 refine wc_seq <| wc_region <| wl_mv M rfl rfl <| wl_as M rfl rfl <| wl_nil <| wc_ret ?_
 obtain ⟨K1, M, hK1, Rk1⟩ := M.frzRow 1 rfl
 exact out1 rfl rfl ⟨_, K1, rfl, (M.grow : Grow w I _ K1), _, Rk1, hR.len, hR.fin⟩
theorem emptyT_c (t : Tra) {v : Value} {I : Heap} {w : World} (hI : hle I (hp w)) (R : t.rd I v) : Calls A 17 #[v] w (Ret w I fun r _ => r = .bool (emptyS t)) := by
 obtain ⟨fu1, au1, rfl, Rf1, Ra1⟩ := R
 have M := Mem.start hI
 refine enter Try.func17 rfl 17 Try.ntmps17 [_] rfl ?_
 refine wc_seq <| wc_region <| wl_e (e_box M rfl) rfl rfl ?_
 rintro _ w1 ⟨b1, rfl, M⟩
 refine wl_as M rfl rfl <| wl_nil ?_
 refine wc_seq ?_
 refine wc_join (α := Unit) [2, 3, 4, 5, 6, 7, 8, 9, 10, 11, 12, 13, 14, 15, 16] (fun _ => [(2, .bool ((!(validT t)) || (!(dnB t))))]) (fun _ w' => Mem w I I (box b1 25 [.int .i64 t.states, .int .i64 t.start, sv fu1, sv au1] :: []) w') ?_ ?_
 ·refine wc_draws (fun w' => Mem w I I (box b1 25 [.int .i64 t.states, .int .i64 t.start, sv fu1, sv au1] :: []) w' ∧ True) [] fol ?_
  replace M := M.drew
  have hS := (⟨M, trivial⟩ : _ ∧ _)
  refine wa_q 0 rfl (by kernel_rfl) ((q_ldbA 0 Try.underlying25 rfl sz25 rfl rfl rfl rfl).mono fun _ h => h.1) hS rfl rfl ?_
  refine wa_e 1 rfl (by kernel_rfl) (e_callC M (valid_c t M.imm ⟨_, _, rfl, Rf1, Ra1⟩) Try.func11 rfl rfl) rfl rfl ?_
  rintro _ w2 ⟨J4, hJ4, rfl, M⟩
  have hS := (⟨(M.less hJ4 (fun _ _ => rfl)), trivial⟩ : _ ∧ _)
  refine ⟨fun _ => hS, ?_⟩
  replace M := M.less hJ4 (fun _ _ => rfl)
  refine wa_q 2 rfl (by kernel_rfl) (q_not rfl) hS rfl rfl ?_
  refine wa_q 3 rfl (by kernel_rfl) (q_move rfl) hS rfl rfl ?_
  rcases Bool.eq_false_or_eq_true (!(validT t)) with hg6 | hg6
  ·refine wa_q 4 rfl (by kernel_rfl) (q_off 3 rfl rfl rfl hg6) hS rfl rfl ?_
   refine wa_q 5 rfl (by kernel_rfl) (q_off 3 rfl rfl rfl hg6) hS rfl rfl ?_
   refine wa_q 6 rfl (by kernel_rfl) (q_off 3 rfl rfl rfl hg6) hS rfl rfl ?_
   refine wa_q 8 rfl (by kernel_rfl) (q_off 3 rfl rfl rfl hg6) hS rfl rfl ?_
   refine wa_q 9 rfl (by kernel_rfl) (q_off 3 rfl rfl rfl hg6) hS rfl rfl ?_
   refine wa_q 7 rfl (by kernel_rfl) (q_off 3 rfl rfl rfl hg6) hS rfl rfl ?_
   refine wa_q 10 rfl (by kernel_rfl) (q_off 3 rfl rfl rfl hg6) hS rfl rfl ?_
   refine wa_q 11 rfl (by kernel_rfl) (q_off 3 rfl rfl rfl hg6) hS rfl rfl ?_
   refine wa_q 12 rfl (by kernel_rfl) (q_off 3 rfl rfl rfl hg6) hS rfl rfl ?_
   refine wa_q 13 rfl (by kernel_rfl) (q_pickT rfl hg6 rfl) hS rfl rfl ?_
   refine wa_q 14 rfl (by kernel_rfl) (q_assign rfl) hS rfl rfl ?_
   refine wa_done (by kernel_rfl) ?_
   exact ⟨(), M, ⟨(show some (Value.bool true) = some (Value.bool ((!(validT t)) || (!(dnB t)))) from by first | (simp only [hg6, bL8]; done) | (simp_all; done) | (simp_all; omega)), trivial⟩, unw_take 15 rfl rfl⟩
  refine wa_q 4 rfl (by kernel_rfl) ((q_guard 3 rfl rfl rfl hg6 (q_ldbA 0 Try.underlying25 rfl sz25 rfl rfl rfl rfl)).mono fun _ h => h.1) hS rfl rfl ?_
  refine wa_q 5 rfl (by kernel_rfl) (q_guard 3 rfl rfl rfl hg6 (q_fa fo_25_2 rfl)) hS rfl rfl ?_
  refine wa_q 6 rfl (by kernel_rfl) ((q_guard 3 rfl rfl rfl hg6 (q_ldb 0 Try.underlying22 rfl rfl rfl rfl)).mono fun _ h => h.1) hS rfl rfl ?_
  refine wa_q 8 rfl (by kernel_rfl) (q_guard 3 rfl rfl rfl hg6 (q_fa fo_25_1 rfl)) hS rfl rfl ?_
  refine wa_q 9 rfl (by kernel_rfl) ((q_guard 3 rfl rfl rfl hg6 (q_ldb 0 Try.underlying3 rfl rfl rfl rfl)).mono fun _ h => h.1) hS rfl rfl ?_
  obtain ⟨m, ha, hrf⟩ := valid_rng (t := t) (by simpa using hg6)
  have hfl := valid_fl (t := t) (by simpa using hg6)
  refine wa_e 7 rfl (by kernel_rfl) (e_guard 3 rfl rfl rfl hg6 (e_callC M (reachedT_c ha.st ha.le ha.arcs ha.alen hrf hfl true M.imm ⟨_, _, rfl, Rf1, Ra1⟩ Rf1) Try.func48 rfl rfl)) rfl rfl ?_
  rintro v10 w3 ⟨J10, hJ10, ⟨bs, R10, hbl, hbs⟩, M⟩
  obtain ⟨u10, rfl⟩ := rdSl_slice R10
  have hoJ10 := M.old
  have hS := (⟨(M.less hJ10 (fun _ _ => rfl)), trivial⟩ : _ ∧ _)
  refine ⟨fun _ => hS, ?_⟩
  refine wa_ix1G (j := t.start.toNat) 3 rfl rfl rfl hg6 10 M hS R10 rfl (by kernel_rfl) Try.underlying89 rfl (ixe (by have := ha.start; omega)) (dn_at ha.start hbl hbs) rfl (fun b13 o13 p13 => ?_)
  refine wa_q1 11 rfl (by kernel_rfl) (q_guard 3 rfl rfl rfl hg6 (q_ldp p13 rfl rfl)) M rfl rfl (fun _ => hS) ?_
  refine wa_q 12 rfl (by kernel_rfl) (q_guard 3 rfl rfl rfl hg6 (q_not rfl)) hS rfl rfl ?_
  refine wa_q 13 rfl (by kernel_rfl) (q_pickF rfl hg6 rfl) hS rfl rfl ?_
  refine wa_q 14 rfl (by kernel_rfl) (q_assign rfl) hS rfl rfl ?_
  refine wa_done (by kernel_rfl) ?_
  replace M := M.less hJ10 (fun _ _ => rfl)
  exact ⟨(), M, ⟨(show some (Value.bool (!(dnB t))) = some (Value.bool ((!(validT t)) || (!(dnB t)))) from by first | (simp only [hg6, bL8]; done) | (simp_all; done) | (simp_all; omega)), trivial⟩, unw_take 15 rfl rfl⟩
 rintro _ jr1 w4 M
 refine wc_ret ?_
 exact out1 rfl rfl ⟨_, _, rfl, M.grow, rfl⟩
theorem orderT_c (x y : Arc) {I : Heap} {w : World} (hI : hle I (hp w)) : Calls A 50 #[EArc.val x, EArc.val y] w (Ret w I fun r _ => r = .int .i64 (ordA x y)) := by
 have M := Mem.start hI
 refine enter Try.func50 rfl 27 Try.ntmps50 [_, _] rfl ?_
 refine wc_seq <| wc_region <| wl_e (e_box M rfl) rfl rfl ?_
 rintro _ w1 ⟨b2, rfl, M⟩
 refine wl_e (e_box M rfl) rfl rfl ?_
 rintro _ w2 ⟨b3, rfl, M⟩
 refine wl_as M rfl rfl <| wl_nil ?_
 refine wc_seq ?_
 refine wc_draws (fun w' => Mem w I I (box b3 50 [.int .i64 y.src, .int .i64 y.dst, .int .i32 y.inp, .int .i32 y.out] :: box b2 50 [.int .i64 x.src, .int .i64 x.dst, .int .i32 x.inp, .int .i32 x.out] :: []) w' ∧ True) [] fol ?_
 replace M := M.drew
 have hS := (⟨M, trivial⟩ : _ ∧ _)
 refine wa_q 0 rfl (by kernel_rfl) (q_fa fo_50_0 rfl) hS rfl rfl ?_
 refine wa_q 1 rfl (by kernel_rfl) ((q_ldb 1 Try.underlying3 rfl rfl rfl rfl).mono fun _ h => h.1) hS rfl rfl ?_
 refine wa_q 2 rfl (by kernel_rfl) (q_fa fo_50_0 rfl) hS rfl rfl ?_
 refine wa_q 3 rfl (by kernel_rfl) ((q_ldb 0 Try.underlying3 rfl rfl rfl rfl).mono fun _ h => h.1) hS rfl rfl ?_
 refine wa_q 5 rfl (by kernel_rfl) (q_fa fo_50_1 rfl) hS rfl rfl ?_
 refine wa_q 6 rfl (by kernel_rfl) ((q_ldb 1 Try.underlying3 rfl rfl rfl rfl).mono fun _ h => h.1) hS rfl rfl ?_
 refine wa_q 7 rfl (by kernel_rfl) (q_fa fo_50_1 rfl) hS rfl rfl ?_
 refine wa_q 8 rfl (by kernel_rfl) ((q_ldb 0 Try.underlying3 rfl rfl rfl rfl).mono fun _ h => h.1) hS rfl rfl ?_
 refine wa_q 10 rfl (by kernel_rfl) (q_fa fo_50_2 rfl) hS rfl rfl ?_
 refine wa_q 11 rfl (by kernel_rfl) ((q_ldb 1 Try.underlying21 rfl rfl rfl rfl).mono fun _ h => h.1) hS rfl rfl ?_
 refine wa_q 12 rfl (by kernel_rfl) (q_fa fo_50_2 rfl) hS rfl rfl ?_
 refine wa_q 13 rfl (by kernel_rfl) ((q_ldb 0 Try.underlying21 rfl rfl rfl rfl).mono fun _ h => h.1) hS rfl rfl ?_
 refine wa_q 15 rfl (by kernel_rfl) (q_fa fo_50_3 rfl) hS rfl rfl ?_
 refine wa_q 16 rfl (by kernel_rfl) ((q_ldb 1 Try.underlying21 rfl rfl rfl rfl).mono fun _ h => h.1) hS rfl rfl ?_
 refine wa_q 17 rfl (by kernel_rfl) (q_fa fo_50_3 rfl) hS rfl rfl ?_
 refine wa_q 18 rfl (by kernel_rfl) ((q_ldb 0 Try.underlying21 rfl rfl rfl rfl).mono fun _ h => h.1) hS rfl rfl ?_
 refine wa_e 4 rfl (by kernel_rfl) (e_callC M (compare_int _ _ M.imm) Try.func52 rfl rfl) rfl rfl ?_
 rintro _ w3 ⟨J9, hJ9, rfl, M⟩
 have hS := (⟨(M.less hJ9 (fun _ _ => rfl)), trivial⟩ : _ ∧ _)
 refine ⟨fun _ => hS, ?_⟩
 replace M := M.less hJ9 (fun _ _ => rfl)
 refine wa_e 9 rfl (by kernel_rfl) (e_callC M (compare_int _ _ M.imm) Try.func52 rfl rfl) rfl rfl ?_
 rintro _ w4 ⟨J14, hJ14, rfl, M⟩
 have hS := (⟨(M.less hJ14 (fun _ _ => rfl)), trivial⟩ : _ ∧ _)
 refine ⟨fun _ => hS, ?_⟩
 replace M := M.less hJ14 (fun _ _ => rfl)
 refine wa_e 14 rfl (by kernel_rfl) (e_callC M (compare_rune _ _ M.imm) Try.func53 rfl rfl) rfl rfl ?_
 rintro _ w5 ⟨J19, hJ19, rfl, M⟩
 have hS := (⟨(M.less hJ19 (fun _ _ => rfl)), trivial⟩ : _ ∧ _)
 refine ⟨fun _ => hS, ?_⟩
 replace M := M.less hJ19 (fun _ _ => rfl)
 refine wa_e 19 rfl (by kernel_rfl) (e_callC M (compare_rune _ _ M.imm) Try.func53 rfl rfl) rfl rfl ?_
 rintro _ w6 ⟨J24, hJ24, rfl, M⟩
 have hS := (⟨(M.less hJ24 (fun _ _ => rfl)), trivial⟩ : _ ∧ _)
 refine ⟨fun _ => hS, ?_⟩
 replace M := M.less hJ24 (fun _ _ => rfl)
 refine wa_e 20 rfl (by kernel_rfl) (e_bsI (E := EInt) (xs := [cmpI x.src y.src, cmpI x.dst y.dst, cmpI x.inp y.inp, cmpI x.out y.out]) M (bs_22_4 _ _ _ _) ⟨⟨rfl, rfl⟩, ⟨rfl, rfl⟩, ⟨rfl, rfl⟩, ⟨rfl, rfl⟩, trivial⟩ rfl rfl (by decide)) rfl rfl ?_
 rintro _ w7 ⟨u25, J25, rfl, hJ25, R25, M⟩
 have hoJ25 := M.old
 have hS := (⟨(M.less hJ25 (fun _ _ => rfl)), trivial⟩ : _ ∧ _)
 refine ⟨fun _ => hS, ?_⟩
 refine wa_e 21 rfl (by kernel_rfl) (e_callC M (or_c M.imm R25) Try.func51 rfl rfl) rfl rfl ?_
 rintro _ w8 ⟨J26, hJ26, rfl, M⟩
 have hS := (⟨(M.less (hle.trans hJ25 hJ26) (fun _ _ => rfl)), trivial⟩ : _ ∧ _)
 refine ⟨fun _ => hS, ?_⟩
 replace M := M.less hJ26 hoJ25
 refine wa_q 22 rfl (by kernel_rfl) (q_assign rfl) hS rfl rfl ?_
 refine wa_done (by kernel_rfl) ?_
 refine wc_ret ?_
 exact out1 rfl rfl ⟨_, _, rfl, M.grow, rfl⟩
end Go.Proofs.Ytfepjcmjkaolgaa.G
