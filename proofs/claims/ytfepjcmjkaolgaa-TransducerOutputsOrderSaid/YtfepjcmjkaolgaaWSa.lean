/- Walks of the program's functions. -/
import Derived.Test.YtfepjcmjkaolgaaWSc
import Derived.Test.YtfepjcmjkaolgaaWTa
set_option linter.all false
namespace Go.Proofs.Ytfepjcmjkaolgaa.G
open Go Go.RowKit
theorem silentT_c {t : Tra} {m : Nat} (hm : m ≤ 512) (hxs : ∀ x ∈ t.arcs, (0 ≤ x.src ∧ x.src < m) ∧ 0 ≤ x.dst ∧ x.dst < m) (hal : t.arcs.length ≤ 4096) {fr : List Int} (hfr : ∀ f ∈ fr, 0 ≤ f ∧ f < m) (hfl : fr.length ≤ 2097152) {uv uf : SV} {I : Heap} {w : World} (hI : hle I (hp w)) (R1 : rdMat EArc VArc I (sv uv) (lv m t.arcs)) (Rf0 : rdSl EInt I (sv uf) fr) :
    Calls A 54 #[sv uv, sv uf] w (Ret w I fun r I' => ∃ bs : List Bool, rdSl EBool I' r bs ∧ bs.length = m ∧ ∀ s, bt bs s ↔ Reach (epsN t) (· ∈ fr) s) := by
 have hmA : m * (t.arcs.length + 1) ≤ 512 * 4097 := Nat.mul_le_mul hm (by omega)
 have hml : (lv m t.arcs).length = m := by simp [lv]
 have M := Mem.start hI
 refine enter Try.func54 rfl 49 Try.ntmps54 [_, _] rfl ?_
 refine wc_seq <| wc_region <| wl_as M rfl rfl <| wl_nil ?_
 refine wc_seq <| wc_region <| wl_mv M rfl rfl <| wl_m M (q_lenMat R1 Try.underlying79 rfl) rfl rfl <| wl_e (e_make (E := EBool) (zv := false) (m := m) M Try.underlying89 z4 (by rw [hml]; rfl) (by rw [hml]; rfl) (by show _ * 1 ≤ _; omega)) rfl rfl ?_
 rintro _ w1 ⟨u12, rfl, M⟩
 refine wl_as M rfl rfl <| wl_nil ?_
 refine wc_seq ?_
 refine wc_seq <| wc_region <| wl_mv M rfl rfl <| wl_e (e_callO (val := sv) Try.func62 rfl (vs := [sv uf]) rfl (clone_c (by omega) M Rf0)) rfl rfl ?_
 rintro _ w2 ⟨u14, rfl, M⟩
 refine wl_as M rfl rfl <| wl_nil <| wc_block ?_
 refine wc_loop (α := SV × (List Int) × (List Bool)) [6, 7, 9, 15, 16, 17, 18, 19, 20, 21, 22, 23, 24, 25, 26, 27, 28, 29, 30, 31, 32, 33, 34, 35, 36, 37, 38, 39, 40, 41, 42, 43, 44, 45, 46, 47] (fun ((u_14_0, l_14_0, l_12_0) : SV × (List Int) × (List Bool)) => [(6, sv u_14_0)])
   (fun ((u_14_0, l_14_0, l_12_0) : SV × (List Int) × (List Bool)) w' => (Rq (epsN t) fr m t.arcs.length l_12_0 l_14_0) ∧ Mem w I I (row EInt (sv u_14_0) l_14_0 :: row EBool (sv u12) l_12_0 :: []) w')
   (fun ((u_14_0, l_14_0, l_12_0) : SV × (List Int) × (List Bool)) => l_12_0.count false * (t.arcs.length + 1) + l_14_0.length) (u14, fr, List.replicate m false) ⟨rfl, trivial⟩ ?_ ?_
 ·refine ⟨Rq.init, ?_⟩
  exact M
 rintro ⟨u_14_0, l_14_0, l_12_0⟩ jj0 w3 ⟨hR, M⟩
 refine wc_seq ?_
 refine wc_seq <| wc_region <| wl_mv M rfl rfl <| wl_m M (q_lenr 0 M rfl Try.underlying22 rfl) rfl rfl <| wl_m M (q_gtr rfl rfl) rfl rfl <| wl_nil ?_
 refine wc_dec rfl (fun ht17 => ?_) (fun ht17 => ?_)
 ·obtain ⟨s, qs, hq⟩ : ∃ (s : Int) (qs : List Int), l_14_0 = s :: qs := by
    cases l_14_0 with
    | nil => simp at ht17
    | cons x qs => exact ⟨x, qs, rfl⟩
  have hlq2 : 1 ≤ l_14_0.length := by rw [hq]; simp
  have hqb := hR.bnd
  have hR' := hR
  rw [hq] at hR'
  have hsr := eps_rng hxs hfr (hR'.rch s (by simp))
  have hsm : s.toNat < m := by omega
  have hll := hR'.len
  obtain ⟨ys, hys⟩ : ∃ y, l_12_0[s.toNat]? = some y := ⟨_, List.getElem?_eq_getElem (by omega)⟩
  refine wc_skip ?_
  refine wc_seq <| wc_block ?_
  refine wc_seq <| wc_region <| wl_mv M rfl rfl ?_
  refine wl_ixr (j := 0) 0 M rfl Try.underlying22 rfl rfl (by rw [hq]; rfl) rfl (fun b21 o21 p21 => ?_)
  refine wl_m M (q_ldp p21 rfl rfl) rfl rfl <| wl_as M rfl rfl <| wl_nil ?_
  refine wc_seq ?_
  refine wc_seq <| wc_region <| wl_mv M rfl rfl <| wl_mv M rfl rfl ?_
  refine wl_ixr (j := s.toNat) 1 M rfl Try.underlying89 rfl (ixe (by omega)) hys rfl (fun b25 o25 p25 => ?_)
  refine wl_m M (q_ldp p25 rfl rfl) rfl rfl <| wl_nil ?_
  refine wc_cond rfl (fun ht26 => ?_) (fun ht26 => ?_)
  ·have hRk := hR'.known ((bt_of hsr.1 hys).2 (by simpa using ht26))
   refine wc_exit rfl <| wc_region <| wl_mv M rfl rfl <| wl_e (e_cut (k := 1) 0 M rfl Try.underlying22 rfl rfl (by omega)) rfl rfl ?_
   rintro _ w4 ⟨u19, rfl, M⟩
   simp only [sC0, sCS] at M
   refine wl_as M rfl rfl <| wl_nil ?_
   refine ⟨(u19, l_14_0.drop 1, l_12_0), ?_, ⟨(by rw [hq]; exact hRk), M⟩, ⟨rfl, trivial⟩, unw_look rfl unw_base⟩
   show l_12_0.count false * (t.arcs.length + 1) + (l_14_0.drop 1).length < l_12_0.count false * (t.arcs.length + 1) + l_14_0.length
   rw [hq]; simp
  obtain rfl : ys = false := by simpa using ht26
  have hst : ((s.toNat : Nat) : Int) = s := Int.toNat_of_nonneg hsr.1
  have hAs : (epsN t s).length ≤ t.arcs.length := eps_len t s
  have hRp := hR'.push hsr hys hAs
  have hmu := hR'.push_mu hys hAs
  refine wc_skip ?_
  refine wc_seq <| wc_region <| wl_mv M rfl rfl <| wl_mv M rfl rfl ?_
  refine wl_ixw (j := s.toNat) 1 M rfl Try.underlying89 rfl (ixe (by omega)) (by rw [hR.len]; omega) rfl (fun b29 o29 p29 => ?_)
  refine wl_e0 (e_str (u := true) 1 M rfl rfl rfl p29 (by rw [hR.len]; omega) rfl) rfl ?_
  intro _ w5 M
  simp only [sC0, sCS] at M
  refine wl_nil ?_
  refine wc_seq <| wc_region <| wl_mv M rfl rfl <| wl_mv M rfl rfl ?_
  obtain ⟨os32, u32, Ro32, ho32, R32⟩ := (R1).at_ (lv_at hsm)
  replace R32 : rdSl EArc I (sv u32) ((t.outs (s.toNat : Int))) := R32
  refine wl_ix (j := s.toNat) M Ro32 Try.underlying79 rfl (ixe (by omega)) ho32 rfl (fun b32 o32 p32 => ?_)
  refine wl_m M (q_ldp p32 rfl rfl) rfl rfl <| wl_m M (q_lenR R32 Try.underlying23 rfl) rfl rfl <| wl_mv M rfl rfl <| wl_nil <| wc_block ?_
  refine wc_loop (α := Nat × SV × (List Int)) [6, 9, 35, 36, 37, 38, 39, 40, 41, 42, 43, 44, 45, 46, 47] (fun ((k2, u_14_2, l_14_2) : Nat × SV × (List Int)) => [(35, .int .i64 (k2 : Int)), (6, sv u_14_2)])
    (fun ((k2, u_14_2, l_14_2) : Nat × SV × (List Int)) w' => (k2 ≤ (t.outs (s.toNat : Int)).length) ∧ (l_14_2 = l_14_0 ++ (((t.outs (s.toNat : Int)).take k2).filter fun z_ : Arc => decide (z_.inp = 0)).map (·.dst)) ∧ Mem w I I (row EInt (sv u_14_2) l_14_2 :: row EBool (sv u12) (l_12_0.set s.toNat true) :: []) w')
    (fun ((k2, u_14_2, l_14_2) : Nat × SV × (List Int)) => (t.outs (s.toNat : Int)).length - k2) (0, u_14_0, l_14_0) ⟨rfl, rfl, trivial⟩ ?_ ?_
  ·refine ⟨Nat.zero_le _, (by simp), ?_⟩
   exact M
  rintro ⟨k2, u_14_2, l_14_2⟩ jj2 w6 ⟨hk2, hl2, M⟩
  refine wc_seq <| wc_region <| wl_m M (q_lss rfl rfl) rfl rfl <| wl_nil ?_
  refine wc_seq ?_
  refine wc_dec rfl (fun ht36 => ?_) (fun ht36 => ?_)
  ·obtain ⟨x2, hx2⟩ : ∃ x_, (t.outs (s.toNat : Int))[k2]? = some x_ := ⟨_, List.getElem?_eq_getElem (by omega)⟩
   have hll2 := (R32).len_le
   refine wc_skip ?_
   refine wc_seq <| wc_block ?_
   refine wc_seq <| wc_region ?_
   refine wl_ix (j := k2) M R32 Try.underlying23 rfl rfl hx2 rfl (fun b37 o37 p37 => ?_)
   refine wl_m M (q_ldp p37 rfl rfl) rfl rfl <| wl_e (e_alloc M z50) rfl rfl ?_
   rintro _ w7 ⟨b9, rfl, M⟩
   refine wl_e0 (e_stW 0 M rfl rfl rfl sz50 rfl rfl) rfl ?_
   intro _ w8 M
   simp only [sC0, sCS] at M
   refine wl_nil ?_
   refine wc_seq <| wc_region <| wl_m M (q_fa fo_50_2 rfl) rfl rfl <| wl_m M (q_ldb 0 Try.underlying21 rfl rfl rfl rfl) rfl rfl <| wl_m M (q_eql rfl rfl) rfl rfl <| wl_nil ?_
   refine wc_dec rfl (fun ht41 => ?_) (fun ht41 => ?_)
   ·refine wc_region <| wl_mv M rfl rfl <| wl_m M (q_fa fo_50_1 rfl) rfl rfl <| wl_m M (q_ldb 0 Try.underlying3 rfl rfl rfl rfl) rfl rfl <| wl_e (e_bsI (E := EInt) (xs := [x2.dst]) M (bs_22_1 _) ⟨⟨rfl, rfl⟩, trivial⟩ rfl rfl (by decide)) rfl rfl ?_
    rintro _ w9 ⟨u45, J45, rfl, hJ45, R45, M⟩
    have hoJ45 := M.old
    refine wl_e (e_app 1 M rfl R45 Try.underlying22 rfl rfl (by have h1 : ((((t.outs (s.toNat : Int)).take k2).filter fun z_ : Arc => decide (z_.inp = 0)).map (·.dst)).length ≤ t.arcs.length := (by rw [List.length_map]; exact Nat.le_trans (List.length_filter_le _ _) (Nat.le_trans (List.length_take_le' _ _) (List.length_filter_le _ _))); rw [hl2, List.length_append]; show (_ + 1) * 8 ≤ _; omega)) rfl rfl ?_
    rintro _ w10 ⟨u46, rfl, M⟩
    replace M := M.less hJ45 (fun _ _ => rfl)
    simp only [sC0, sCS] at M
    refine wl_as M rfl rfl <| wl_nil <| wc_region <| wl_m M (q_add rfl rfl (IntWalk.i64_in _ (by omega))) rfl rfl ?_
    refine wl_mv M rfl rfl <| wl_nil ?_
    replace M := M.drop 0
    refine ⟨(k2 + 1, u46, l_14_2 ++ [x2.dst]), ?_, ⟨(by omega), (by rw [take_snoc hx2, List.filter_append, List.map_append, ← List.append_assoc, ← hl2]; simp [ht41]), M⟩, ⟨rfl, rfl, trivial⟩, unw_look rfl unw_base⟩
    show (t.outs (s.toNat : Int)).length - (k2 + 1) < (t.outs (s.toNat : Int)).length - k2
    omega
   refine wc_skip <| wc_region <| wl_m M (q_add rfl rfl (IntWalk.i64_in _ (by omega))) rfl rfl ?_
   refine wl_mv M rfl rfl <| wl_nil ?_
   replace M := M.drop 0
   refine ⟨(k2 + 1, u_14_2, l_14_2), ?_, ⟨(by omega), (by rw [take_snoc hx2, List.filter_append, hl2]; simp [ht41]), M⟩, ⟨rfl, rfl, trivial⟩, unw_look rfl unw_base⟩
   show (t.outs (s.toNat : Int)).length - (k2 + 1) < (t.outs (s.toNat : Int)).length - k2
   omega
  have hke2 : k2 = (t.outs (s.toNat : Int)).length := by omega
  rw [hke2, List.take_length] at hl2
  have hns : ((t.outs (s.toNat : Int)).filter fun z_ : Arc => decide (z_.inp = 0)).map (·.dst) = epsN t s := by rw [hst]; rfl
  have hlq2 : 1 ≤ l_14_2.length := by rw [hl2, hq]; simp
  refine wc_exit rfl <| wc_region <| wl_mv M rfl rfl <| wl_e (e_cut (k := 1) 0 M rfl Try.underlying22 rfl rfl (by omega)) rfl rfl ?_
  rintro _ w11 ⟨u19, rfl, M⟩
  simp only [sC0, sCS] at M
  refine wl_as M rfl rfl <| wl_nil ?_
  refine ⟨(u19, l_14_2.drop 1, l_12_0.set s.toNat true), ?_, ⟨(by rw [hl2, hq, hns]; exact hRp), M⟩, ⟨rfl, trivial⟩, unw_look rfl (unw_hav rfl (unw_look rfl unw_base))⟩
  show (l_12_0.set s.toNat true).count false * (t.arcs.length + 1) + (l_14_2.drop 1).length < l_12_0.count false * (t.arcs.length + 1) + l_14_0.length
  rw [hl2, hq, hns]; exact hmu
 obtain rfl : l_14_0 = [] := by cases l_14_0 with | nil => rfl | cons x l => simp at ht17
 refine wc_exit rfl ?_
 refine wc_seq <| wc_region <| wl_mv M rfl rfl <| wl_as M rfl rfl <| wl_nil <| wc_ret ?_
 obtain ⟨K1, M, hK1, Rk1⟩ := M.frzRow 1 rfl
 exact out1 rfl rfl ⟨_, K1, rfl, (M.grow : Grow w I _ K1), _, Rk1, hR.len, hR.fin⟩
theorem cost_c (x : Arc) {I : Heap} {w : World} (hI : hle I (hp w)) : Calls A 35 #[EArc.val x] w (Ret w I fun r _ => r = .int .i64 (costA x)) := by
 have M := Mem.start hI
 refine enter Try.func35 rfl 15 Try.ntmps35 [_] rfl ?_
 refine wc_seq <| wc_region <| wl_e (e_box M rfl) rfl rfl ?_
 rintro _ w1 ⟨b1, rfl, M⟩
 refine wl_as M rfl rfl <| wl_nil ?_
 refine wc_seq <| wc_region <| wl_as M rfl rfl <| wl_nil ?_
 refine wc_seq ?_
 refine wc_seq <| wc_region <| wl_m M (q_fa fo_50_2 rfl) rfl rfl <| wl_m M (q_ldb 0 Try.underlying21 rfl rfl rfl rfl) rfl rfl <| wl_m M (q_neq rfl rfl) rfl rfl <| wl_nil ?_
 refine wc_cond rfl (fun ht6 => ?_) (fun ht6 => ?_)
 ·refine wc_region <| wl_mv M rfl rfl <| wl_m M (q_add rfl rfl (IntWalk.i64_in _ (by omega))) rfl rfl ?_
  refine wl_as M rfl rfl <| wl_nil ?_
  refine wc_seq ?_
  refine wc_seq <| wc_region <| wl_m M (q_fa fo_50_3 rfl) rfl rfl <| wl_m M (q_ldb 0 Try.underlying21 rfl rfl rfl rfl) rfl rfl <| wl_m M (q_neq rfl rfl) rfl rfl <| wl_nil ?_
  refine wc_cond rfl (fun ht11 => ?_) (fun ht11 => ?_)
  ·refine wc_region <| wl_mv M rfl rfl <| wl_m M (q_add rfl rfl (IntWalk.i64_in _ (by omega))) rfl rfl ?_
   refine wl_as M rfl rfl <| wl_nil ?_
   refine wc_seq <| wc_region <| wl_mv M rfl rfl <| wl_as M rfl rfl <| wl_nil <| wc_ret ?_
   exact out1 rfl rfl ⟨_, _, rfl, M.grow, by rw [costA, if_neg (nd_t ht6), if_neg (nd_t ht11)]; rfl⟩
  refine wc_skip ?_
  refine wc_seq <| wc_region <| wl_mv M rfl rfl <| wl_as M rfl rfl <| wl_nil <| wc_ret ?_
  exact out1 rfl rfl ⟨_, _, rfl, M.grow, by rw [costA, if_neg (nd_t ht6), if_pos (nd_f ht11)]; rfl⟩
 refine wc_skip ?_
 refine wc_seq ?_
 refine wc_seq <| wc_region <| wl_m M (q_fa fo_50_3 rfl) rfl rfl <| wl_m M (q_ldb 0 Try.underlying21 rfl rfl rfl rfl) rfl rfl <| wl_m M (q_neq rfl rfl) rfl rfl <| wl_nil ?_
 refine wc_cond rfl (fun ht11 => ?_) (fun ht11 => ?_)
 ·refine wc_region <| wl_mv M rfl rfl <| wl_m M (q_add rfl rfl (IntWalk.i64_in _ (by omega))) rfl rfl ?_
  refine wl_as M rfl rfl <| wl_nil ?_
  refine wc_seq <| wc_region <| wl_mv M rfl rfl <| wl_as M rfl rfl <| wl_nil <| wc_ret ?_
  exact out1 rfl rfl ⟨_, _, rfl, M.grow, by rw [costA, if_pos (nd_f ht6), if_neg (nd_t ht11)]⟩
 refine wc_skip ?_
 refine wc_seq <| wc_region <| wl_mv M rfl rfl <| wl_as M rfl rfl <| wl_nil <| wc_ret ?_
 exact out1 rfl rfl ⟨_, _, rfl, M.grow, by rw [costA, if_pos (nd_f ht6), if_pos (nd_f ht11)]; rfl⟩
theorem reads_c (x : Arc) {I : Heap} {w : World} (hI : hle I (hp w)) : Calls A 36 #[EArc.val x] w (Ret w I fun r _ => r = .int .i64 (readA x)) := by
 have M := Mem.start hI
 refine enter Try.func36 rfl 6 Try.ntmps36 [_] rfl ?_
 refine wc_seq <| wc_region <| wl_e (e_box M rfl) rfl rfl ?_
 rintro _ w1 ⟨b1, rfl, M⟩
 refine wl_as M rfl rfl <| wl_nil ?_
 refine wc_seq ?_
 refine wc_seq <| wc_region <| wl_m M (q_fa fo_50_2 rfl) rfl rfl <| wl_m M (q_ldb 0 Try.underlying21 rfl rfl rfl rfl) rfl rfl <| wl_m M (q_neq rfl rfl) rfl rfl <| wl_nil ?_
 refine wc_cond rfl (fun ht5 => ?_) (fun ht5 => ?_)
 ·refine wc_seq <| wc_region <| wl_as M rfl rfl <| wl_nil <| wc_ret ?_
  exact out1 rfl rfl ⟨_, _, rfl, M.grow, by rw [readA, if_neg (nd_t ht5)]⟩
 refine wc_skip ?_
 refine wc_seq <| wc_region <| wl_as M rfl rfl <| wl_nil <| wc_ret ?_
 exact out1 rfl rfl ⟨_, _, rfl, M.grow, by rw [readA, if_pos (nd_f ht5)]⟩
theorem usefulT_c (t : Tra) {m : Nat} (ha : t.Ok m) {v1 : Value} {I : Heap} {w : World} (hI : hle I (hp w)) (R1 : t.rd I v1) : Calls A 34 #[v1] w (Ret w I fun r I' => ∃ bs : List Bool, bs.length = m ∧ (∀ s, bt bs s ↔ Reach (stp t true) (· ∈ [t.start]) s) ∧ (Tra.mk t.states t.start t.finals (t.arcs.filter fun x => bs.getD x.src.toNat false)).rd I' r) := by
 obtain ⟨fu1, au1, rfl, Rf1, Ra1⟩ := R1
 have hll := Ra1.len_le
 have hal := ha.alen
 have M := Mem.start hI
 refine enter Try.func34 rfl 34 Try.ntmps34 [_] rfl ?_
 refine wc_seq <| wc_region <| wl_e (e_box M rfl) rfl rfl ?_
 rintro _ w1 ⟨b1, rfl, M⟩
 refine wl_e (e_alloc M z25) rfl rfl ?_
 rintro _ w2 ⟨b2, rfl, M⟩
 refine wl_nil ?_
 refine wc_seq <| wc_region <| wl_m M (q_ldbA 1 Try.underlying25 rfl sz25 rfl rfl rfl rfl) rfl rfl <| wl_m M (q_fa fo_25_1 rfl) rfl rfl <| wl_m M (q_ldb 1 Try.underlying3 rfl rfl rfl rfl) rfl rfl <| wl_e (e_bsI (E := EInt) (xs := [t.start]) M (bs_22_1 _) ⟨⟨rfl, rfl⟩, trivial⟩ rfl rfl (by decide)) rfl rfl ?_
 rintro _ w3 ⟨u10, J10, rfl, hJ10, R10, M⟩
 have hoJ10 := M.old
 refine wl_e (e_callC M (reachedT_c ha.st ha.le ha.arcs ha.alen (fr := [t.start]) (fun f hf => by rw [List.mem_singleton.1 hf]; exact ha.start) (by simp) false M.imm ⟨_, _, rfl, (Rf1.mono hJ10), (Ra1.mono hJ10)⟩ R10) Try.func48 rfl rfl) rfl rfl ?_
 rintro v11 w4 ⟨J11, hJ11, ⟨bs11, R11, hbl11, hb11⟩, M⟩
 obtain ⟨u11, rfl⟩ := rdSl_slice R11
 have hoJ11 := M.old
 refine wl_as M rfl rfl <| wl_nil ?_
 refine wc_seq <| wc_region <| wl_m M (q_ldbA 1 Try.underlying25 rfl sz25 rfl rfl rfl rfl) rfl rfl <| wl_e (e_alloc M z25) rfl rfl ?_
 rintro _ w5 ⟨b4, rfl, M⟩
 refine wl_e0 (e_stW 0 M rfl rfl rfl sz25 rfl rfl) rfl ?_
 intro _ w6 M
 simp only [sC0, sCS] at M
 refine wl_nil ?_
 refine wc_seq <| wc_region <| wl_m M (q_fa fo_25_3 rfl) rfl rfl ?_
 refine wl_e0 (e_stb 0 M rfl rfl rfl sz23 rfl rfl) rfl ?_
 intro _ w7 M
 simp only [sC0, sCS] at M
 refine wl_nil ?_
 refine wc_seq ?_
 refine wc_seq ?_
 replace M := M.nilRow EArc
 refine wc_region <| wl_m M (q_fa fo_25_3 rfl) rfl rfl <| wl_m M (q_ldb 3 Try.underlying23 rfl rfl rfl rfl) rfl rfl <| wl_m M (q_lenR ((Ra1.mono hJ10).mono hJ11) Try.underlying23 rfl) rfl rfl <| wl_mv M rfl rfl <| wl_nil <| wc_block ?_
 refine wc_loop (α := Nat × SV × (List Arc)) [6, 17, 18, 19, 20, 21, 22, 23, 24, 25, 26, 27, 28, 29, 30, 31, 32] (fun ((k0, u_a_0, l_a_0) : Nat × SV × (List Arc)) => [(17, .int .i64 (k0 : Int))])
   (fun ((k0, u_a_0, l_a_0) : Nat × SV × (List Arc)) w' => (k0 ≤ t.arcs.length) ∧ (l_a_0 = (t.arcs.take k0).filter fun x => bs11.getD x.src.toNat false) ∧ Mem w I J11 (row EArc (sv u_a_0) l_a_0 :: box b4 25 [.int .i64 t.states, .int .i64 t.start, sv fu1, sv u_a_0] :: box b2 25 [.int .i64 0, .int .i64 0, .slice none 0 0, .slice none 0 0] :: box b1 25 [.int .i64 t.states, .int .i64 t.start, sv fu1, sv au1] :: []) w')
   (fun ((k0, u_a_0, l_a_0) : Nat × SV × (List Arc)) => t.arcs.length - k0) (0, nilV, []) ⟨rfl, trivial⟩ ?_ ?_
 ·refine ⟨Nat.zero_le _, rfl, ?_⟩
  exact M
 rintro ⟨k0, u_a_0, l_a_0⟩ jj0 w8 ⟨hk0, haa, M⟩
 have hoJ11 := M.old
 refine wc_seq <| wc_region <| wl_m M (q_lss rfl rfl) rfl rfl <| wl_nil ?_
 refine wc_seq ?_
 refine wc_dec rfl (fun ht18 => ?_) (fun ht18 => ?_)
 ·obtain ⟨x0, hx0⟩ : ∃ x_, t.arcs[k0]? = some x_ := ⟨_, List.getElem?_eq_getElem (by omega)⟩
  have hll0 := (((Ra1.mono hJ10).mono hJ11)).len_le
  have hxr := (ha.arcs x0 (List.mem_of_getElem? hx0)).1
  refine wc_skip ?_
  refine wc_seq <| wc_block ?_
  refine wc_seq <| wc_region ?_
  refine wl_ix (j := k0) M ((Ra1.mono hJ10).mono hJ11) Try.underlying23 rfl rfl hx0 rfl (fun b19 o19 p19 => ?_)
  refine wl_m M (q_ldp p19 rfl rfl) rfl rfl <| wl_e (e_alloc M z50) rfl rfl ?_
  rintro _ w9 ⟨b6, rfl, M⟩
  refine wl_e0 (e_stW 0 M rfl rfl rfl sz50 rfl rfl) rfl ?_
  intro _ w10 M
  simp only [sC0, sCS] at M
  refine wl_nil ?_
  refine wc_seq <| wc_region <| wl_mv M rfl rfl <| wl_m M (q_fa fo_50_0 rfl) rfl rfl <| wl_m M (q_ldb 0 Try.underlying3 rfl rfl rfl rfl) rfl rfl ?_
  refine wl_ix (j := x0.src.toNat) M R11 Try.underlying89 rfl (ixe (by omega)) (getD_at (d := false) (by omega)) rfl (fun b24 o24 p24 => ?_)
  refine wl_m M (q_ldp p24 rfl rfl) rfl rfl <| wl_nil ?_
  refine wc_cond rfl (fun ht25 => ?_) (fun ht25 => ?_)
  ·refine wc_region <| wl_m M (q_fa fo_25_3 rfl) rfl rfl <| wl_m M (q_ldb 2 Try.underlying23 rfl rfl rfl rfl) rfl rfl <| wl_m M (q_ldbA 0 Try.underlying50 rfl sz50 rfl rfl rfl rfl) rfl rfl <| wl_e (e_bsI (E := EArc) (xs := [x0]) M (bs_23_1 _ _ _ _) ⟨⟨rfl, rfl⟩, trivial⟩ rfl rfl (by decide)) rfl rfl ?_
   rintro _ w11 ⟨u29, J29, rfl, hJ29, R29, M⟩
   have hoJ29 := M.old
   refine wl_e (e_app 1 M rfl R29 Try.underlying23 rfl rfl (by rw [haa]; have := List.length_filter_le (fun x : Arc => bs11.getD x.src.toNat false) (t.arcs.take k0); rw [List.length_take] at this; show (_ + 1) * 24 ≤ _; omega)) rfl rfl ?_
   rintro _ w12 ⟨u30, rfl, M⟩
   replace M := M.less hJ29 hoJ11
   simp only [sC0, sCS] at M
   refine wl_m M (q_fa fo_25_3 rfl) rfl rfl ?_
   refine wl_e0 (e_stb 2 M rfl rfl rfl sz23 rfl rfl) rfl ?_
   intro _ w13 M
   simp only [sC0, sCS] at M
   refine wl_nil <| wc_region <| wl_m M (q_add rfl rfl (IntWalk.i64_in _ (by omega))) rfl rfl ?_
   refine wl_mv M rfl rfl <| wl_nil ?_
   replace M := M.drop 0
   refine ⟨(k0 + 1, u30, l_a_0 ++ [x0]), ?_, ⟨(by omega), (by rw [take_snoc hx0, List.filter_append, haa, List.filter_cons, ht25]; rfl), M⟩, ⟨rfl, trivial⟩, unw_look rfl unw_base⟩
   show t.arcs.length - (k0 + 1) < t.arcs.length - k0
   omega
  refine wc_skip <| wc_region <| wl_m M (q_add rfl rfl (IntWalk.i64_in _ (by omega))) rfl rfl ?_
  refine wl_mv M rfl rfl <| wl_nil ?_
  replace M := M.drop 0
  refine ⟨(k0 + 1, u_a_0, l_a_0), ?_, ⟨(by omega), (by rw [take_snoc hx0, List.filter_append, haa, List.filter_cons, ht25]; simp), M⟩, ⟨rfl, trivial⟩, unw_look rfl unw_base⟩
  show t.arcs.length - (k0 + 1) < t.arcs.length - k0
  omega
 have hke0 : k0 = t.arcs.length := by omega
 rw [hke0, List.take_length] at haa
 refine wc_exit rfl ?_
 refine wc_seq <| wc_region <| wl_m M (q_ldbA 1 Try.underlying25 rfl sz25 rfl rfl rfl rfl) rfl rfl ?_
 refine wl_e0 (e_stW 2 M rfl rfl rfl sz25 rfl rfl) rfl ?_
 intro _ w14 M
 simp only [sC0, sCS] at M
 refine wl_nil <| wc_ret ?_
 obtain ⟨K1, M, hK1, Rk1⟩ := M.frzRow 0 rfl
 rw [haa] at Rk1
 exact outc rfl rfl (load_boxA M 1 Try.underlying25 rfl sz25 rfl rfl rfl) ⟨_, K1, rfl, (M.grow : Grow w I _ K1), bs11, hbl11, hb11, ⟨_, _, rfl, (((Rf1.mono hJ10).mono hJ11).mono hK1), Rk1⟩⟩
end Go.Proofs.Ytfepjcmjkaolgaa.G
