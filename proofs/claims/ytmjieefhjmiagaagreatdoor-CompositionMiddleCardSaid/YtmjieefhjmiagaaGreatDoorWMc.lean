/- Walks of the program's functions. -/
import Derived.Test.YtmjieefhjmiagaaGreatDoorGMie
set_option linter.all false
namespace Go.Proofs.YtmjieefhjmiagaaGreatDoor.G
open Go Go.RowKit
set_option maxRecDepth 4000 in
set_option maxHeartbeats 1000000 in
theorem closureC_c {a b : Tra} {fu1 au1 fu2 au2 ux uz uf ut : SV} {xs zs : List Int} {m n sb : Nat} {w0 w : World} {I0 I : Heap} {Lt : List Res} {dist : List (Config × Int)} {vd : Value} {lim : Int} (hdl : dist.length ≤ 42025) (hdk : ∀ c k, okD dist c k = true → c ∈ rect4 m xs.length n zs.length) {uq : SV} {fr : List Config} (hfr : fr.length ≤ 1099511627776) (hF : FewB a b xs zs m n) (hB0 : BtwH I sb m n a b xs zs fu1 au1 fu2 au2 ux uz uf ut) (Rd : rdMp QConfig (Value.int .i64) I vd dist) (M : Mem w0 I0 I (row EConfig (sv uq) fr :: Lt) w) :
    Calls A 27 #[.pointer (some ⟨sb, 0, none⟩), sv uq, vd, .int .i64 lim] w (fun e w' => ∃ v, e = .returned v ∧ ∃ (b9 : Nat) (K : List Config), v = .map (some b9) ∧ (K.Nodup ∧ K.length ≤ 42025 ∧ ∀ c, c ∈ K ↔ Clo (bnet a b xs zs) dist lim fr c) ∧ Mem w0 I0 I (mpr QConfig Value.bool b9 (tr K) :: Lt) w') := by
 have hB1 := hB0
 obtain ⟨Hs, Rf1, Rf2, Rx, Rz, Rm1, Rm2⟩ := hB1
 have hUm : ∀ c, (fun c => okD dist c lim) c = true → c ∈ dist.map (·.1) := fun c h => okD_key h
 have hUl : (dist.map (·.1)).length = dist.length := List.length_map _
 have hoI := M.old
 refine enter Tryz.func27 rfl 48 Tryz.ntmps27 [_, _, _, _] rfl ?_
 refine wc_seq ?_
 refine wc_region ?_
 refine wl_as M rfl rfl ?_
 refine wl_nil ?_
 refine wc_seq ?_
 refine wc_region ?_
 refine wl_e (e_mkm QConfig Value.bool M) rfl rfl ?_
 rintro _ w1 ⟨b13, rfl, M⟩
 refine wl_as M rfl rfl ?_
 refine wl_nil ?_
 refine wc_seq ?_
 refine wc_block ?_
 refine wc_loop (α := (List Config) × SV × (List Config) × (List (Config × Bool))) [1, 10, 11, 12, 14, 15, 16, 17, 18, 19, 20, 21, 22, 23, 24, 25, 26, 27, 28, 29, 30, 31, 32, 33, 34, 35, 36, 37, 38, 39, 40, 41, 42, 43, 44, 45, 46] (fun ((K, u_f_0, l_f_0, m_13_0) : (List Config) × SV × (List Config) × (List (Config × Bool))) => [(1, sv u_f_0)])
   (fun ((K, u_f_0, l_f_0, m_13_0) : (List Config) × SV × (List Config) × (List (Config × Bool))) w' => (Cq (silL a b xs zs) (fun c => okD dist c lim) fr K l_f_0) ∧ (m_13_0 = tr K) ∧ (l_f_0.length ≤ fr.length + K.length * 24) ∧ Mem w0 I0 I (mpr QConfig Value.bool b13 m_13_0 :: row EConfig (sv u_f_0) l_f_0 :: Lt) w')
   (fun ((K, u_f_0, l_f_0, m_13_0) : (List Config) × SV × (List Config) × (List (Config × Bool))) => (dist.length - K.length) * (24 + 1) + l_f_0.length) ([], uq, fr, []) ⟨rfl, trivial⟩ ?_ ?_
 ·refine ⟨Cq.init, rfl, (by simp), ?_⟩
  exact M
 rintro ⟨K, u_f_0, l_f_0, m_13_0⟩ jj0 w2 ⟨hQ, hm, hbd, M⟩
 refine wc_seq ?_
 refine wc_seq ?_
 refine wc_region ?_
 refine wl_mv M rfl rfl ?_
 refine wl_m M (q_lenr 1 M rfl Tryz.underlying64 rfl) rfl rfl ?_
 refine wl_m M (q_gtr rfl rfl) rfl rfl ?_
 refine wl_nil ?_
 refine wc_dec rfl (fun ht16 => ?_) (fun ht16 => ?_)
 ·obtain ⟨x, qs, hq⟩ : ∃ (x : Config) (qs : List Config), l_f_0 = x :: qs := by
    cases l_f_0 with
    | nil => simp at ht16
    | cons x qs => exact ⟨x, qs, rfl⟩
  have hlq := congrArg List.length hq
  rw [List.length_cons] at hlq
  refine wc_skip ?_
  refine wc_block ?_
  refine wc_seq ?_
  refine wc_region ?_
  refine wl_mv M rfl rfl ?_
  refine wl_ixr (j := 0) 1 M rfl Tryz.underlying64 rfl rfl (by rw [hq]; rfl) rfl (fun b18 o18 p18 => ?_)
  refine wl_m M (q_ldp p18 rfl rfl) rfl rfl ?_
  refine wl_e (e_alloc M z63) rfl rfl ?_
  rintro _ w3 ⟨b10, rfl, M⟩
  refine wl_e0 (e_stW 0 M rfl rfl rfl sz63 rfl rfl) rfl ?_
  intro _ w4 M
  simp only [sC0, sCS] at M
  refine wl_nil ?_
  refine wc_seq ?_
  refine wc_region ?_
  refine wl_mv M rfl rfl ?_
  refine wl_e (e_cut (k := 1) 2 M rfl Tryz.underlying64 rfl rfl (by omega)) rfl rfl ?_
  rintro _ w5 ⟨u21, rfl, M⟩
  simp only [sC0, sCS] at M
  refine wl_as M rfl rfl ?_
  refine wl_nil ?_
  refine wc_seq ?_
  refine wc_seq ?_
  refine wc_region ?_
  refine wl_mv M rfl rfl ?_
  refine wl_m M (q_ldbA 0 Tryz.underlying63 rfl sz63 rfl rfl rfl rfl) rfl rfl ?_
  refine wl_m M (q_lkI2 (k := x) (z := 0) Rd Tryz.underlying58 zv3 rfl rfl) rfl rfl ?_
  refine wl_mv M rfl rfl ?_
  refine wl_m M (q_ext rfl rfl) rfl rfl ?_
  refine wl_m M (q_ext rfl rfl) rfl rfl ?_
  refine wl_as M rfl rfl ?_
  refine wl_as M rfl rfl ?_
  refine wl_nil ?_
  refine wc_seq ?_
  refine wc_join (α := Unit) [28, 29, 30, 31, 32, 33, 34, 35, 36, 37, 38, 39] (fun _ => [(39, .bool (((!((aget dist x).isSome)) || (decide (lim < ((aget dist x).getD 0)))) || ((aget m_13_0 x).getD false)))]) (fun _ w' => Mem w0 I0 I (box b10 63 [.int .i64 x.p, .int .i64 x.i, .int .i64 x.q, .int .i64 x.j] :: mpr QConfig Value.bool b13 m_13_0 :: row EConfig (sv u21) (l_f_0.drop 1) :: Lt) w') ?_ ?_
  ·refine wc_region ?_
   refine wl_mv M rfl rfl ?_
   refine wl_m M (q_not rfl) rfl rfl ?_
   refine wl_mv M rfl rfl ?_
   rcases Bool.eq_false_or_eq_true (!((aget dist x).isSome)) with hg30 | hg30
   ·refine wl_m M (q_off 2 rfl rfl rfl hg30) rfl rfl ?_
    refine wl_m M (q_off 2 rfl rfl rfl hg30) rfl rfl ?_
    refine wl_m M (q_off 2 rfl rfl rfl hg30) rfl rfl ?_
    refine wl_m M (q_pickT rfl hg30 rfl) rfl rfl ?_
    refine wl_mv M rfl rfl ?_
    refine wl_m M (q_off 7 rfl rfl rfl rfl) rfl rfl ?_
    refine wl_m M (q_off 7 rfl rfl rfl rfl) rfl rfl ?_
    refine wl_m M (q_off 7 rfl rfl rfl rfl) rfl rfl ?_
    refine wl_m M (q_pickT rfl rfl rfl) rfl rfl ?_
    refine wl_nil ?_
    exact ⟨(), M, ⟨(show some (Value.bool true) = some (Value.bool (((!((aget dist x).isSome)) || (decide (lim < ((aget dist x).getD 0)))) || ((aget m_13_0 x).getD false))) from by first | (simp only [hg30, Bool.true_or, Bool.false_or, Bool.true_and, Bool.false_and, Bool.or_true, Bool.or_false, Bool.and_true, Bool.and_false]; done) | (simp_all; done) | (simp_all; omega)), trivial⟩, unw_take 12 rfl rfl⟩
   refine wl_m M (q_guard 2 rfl rfl rfl hg30 (q_move rfl)) rfl rfl ?_
   refine wl_m M (q_guard 2 rfl rfl rfl hg30 (q_move rfl)) rfl rfl ?_
   refine wl_m M (q_guard 2 rfl rfl rfl hg30 (q_gtr rfl rfl)) rfl rfl ?_
   refine wl_m M (q_pickF rfl hg30 rfl) rfl rfl ?_
   refine wl_mv M rfl rfl ?_
   rcases Bool.eq_false_or_eq_true (decide (lim < ((aget dist x).getD 0))) with hg35 | hg35
   ·refine wl_m M (q_off 7 rfl rfl rfl hg35) rfl rfl ?_
    refine wl_m M (q_off 7 rfl rfl rfl hg35) rfl rfl ?_
    refine wl_m M (q_off 7 rfl rfl rfl hg35) rfl rfl ?_
    refine wl_m M (q_pickT rfl hg35 rfl) rfl rfl ?_
    refine wl_nil ?_
    exact ⟨(), M, ⟨(show some (Value.bool true) = some (Value.bool (((!((aget dist x).isSome)) || (decide (lim < ((aget dist x).getD 0)))) || ((aget m_13_0 x).getD false))) from by first | (simp only [hg30, hg35, Bool.true_or, Bool.false_or, Bool.true_and, Bool.false_and, Bool.or_true, Bool.or_false, Bool.and_true, Bool.and_false]; done) | (simp_all; done) | (simp_all; omega)), trivial⟩, unw_take 12 rfl rfl⟩
   refine wl_m M (q_guard 7 rfl rfl rfl hg35 (q_move rfl)) rfl rfl ?_
   refine wl_m M (q_guard 7 rfl rfl rfl hg35 (q_ldbA 0 Tryz.underlying63 rfl sz63 rfl rfl rfl rfl)) rfl rfl ?_
   refine wl_m M (q_guard 7 rfl rfl rfl hg35 (q_lk (k := x) (z := false) 1 rfl Tryz.underlying60 zv4 rfl rfl)) rfl rfl ?_
   refine wl_m M (q_pickF rfl hg35 rfl) rfl rfl ?_
   refine wl_nil ?_
   exact ⟨(), M, ⟨(show some (Value.bool ((aget m_13_0 x).getD false)) = some (Value.bool (((!((aget dist x).isSome)) || (decide (lim < ((aget dist x).getD 0)))) || ((aget m_13_0 x).getD false))) from by first | (simp only [hg30, hg35, Bool.true_or, Bool.false_or, Bool.true_and, Bool.false_and, Bool.or_true, Bool.or_false, Bool.and_true, Bool.and_false]; done) | (simp_all; done) | (simp_all; omega)), trivial⟩, unw_take 12 rfl rfl⟩
  rintro _ jr6 w6 M
  refine wc_cond rfl (fun ht39 => ?_) (fun ht39 => ?_)
  ·rw [hm, okD_neg, aget_tr] at ht39
   have hsk := clo_skip ht39
   refine wc_exit rfl ?_
   replace M := M.drop 0
   refine ⟨(K, u21, l_f_0.drop 1, m_13_0), ?_, ⟨(by rw [hq, List.drop_one, List.tail_cons]; rw [hq] at hQ; exact hQ.skip hsk), hm, (by rw [List.length_drop]; omega), M⟩, ⟨rfl, trivial⟩, unw_look rfl (unw_hav rfl (unw_look rfl unw_base))⟩
   show (dist.length - K.length) * (24 + 1) + (l_f_0.drop 1).length < (dist.length - K.length) * (24 + 1) + l_f_0.length
   rw [hq, List.drop_one, List.tail_cons, List.length_cons]; omega
  rw [hm, okD_neg, aget_tr] at ht39
  obtain ⟨hok, hnk⟩ := clo_push ht39
  have hroom := (by rw [hq] at hQ; exact hQ.room hok hnk hUm : K.length + 1 ≤ _)
  rw [hUl] at hroom
  have hcx := hdk x lim hok
  have hsx := hF.sil x
  refine wc_skip ?_
  refine wc_seq ?_
  refine wc_region ?_
  refine wl_mv M rfl rfl ?_
  refine wl_m M (q_ldbA 0 Tryz.underlying63 rfl sz63 rfl rfl rfl rfl) rfl rfl ?_
  refine wl_e0 (e_mpu (k := x) (v := true) 1 M rfl Tryz.underlying60 rfl rfl rfl) rfl ?_
  intro _ w7 M
  simp only [sC0, sCS] at M
  refine wl_nil ?_
  refine wc_region ?_
  refine wl_mv M rfl rfl ?_
  refine wl_mv M rfl rfl ?_
  refine wl_m M (q_ldbA 0 Tryz.underlying63 rfl sz63 rfl rfl rfl rfl) rfl rfl ?_
  refine wl_e (e_callO (val := sv) Tryz.func37 rfl (vs := [.pointer (some ⟨sb, 0, none⟩), .agg #[.int .i64 x.p, .int .i64 x.i, .int .i64 x.q, .int .i64 x.j]]) rfl (silentX_c hF hcx M hB0)) rfl rfl ?_
  rintro _ w8 ⟨u45, rfl, M⟩
  refine wl_e (e_app2 3 0 M rfl rfl Tryz.underlying64 rfl rfl (by have := hQ.len hUm; rw [List.length_drop]; show (_ + _) * 32 ≤ _; omega)) rfl rfl ?_
  rintro _ w9 ⟨u46, rfl, M⟩
  simp only [sC0, sCS] at M
  refine wl_as M rfl rfl ?_
  refine wl_nil ?_
  replace M := M.drop 0
  replace M := M.drop 0
  refine ⟨(K ++ [x], u46, (l_f_0.drop 1) ++ (silL a b xs zs x), aput m_13_0 x true), ?_, ⟨(by rw [hq, List.drop_one, List.tail_cons]; rw [hq] at hQ; exact hQ.push hok hnk), (by rw [hm, aput_tr hnk]), (by rw [List.length_append, List.length_drop, List.length_append, List.length_singleton]; omega), M⟩, ⟨rfl, trivial⟩, unw_look rfl (unw_hav rfl (unw_look rfl unw_base))⟩
  show (dist.length - (K ++ [x]).length) * (24 + 1) + ((l_f_0.drop 1) ++ (silL a b xs zs x)).length < (dist.length - K.length) * (24 + 1) + l_f_0.length
  simp only [List.length_append, List.length_drop, List.length_singleton]; exact far_mu2 (k := (silL a b xs zs x).length) hroom rfl (by omega) hsx (by omega)
 obtain rfl : l_f_0 = [] := by cases l_f_0 with | nil => rfl | cons x l => simp at ht16
 refine wc_exit rfl ?_
 refine wc_seq ?_
 refine wc_region ?_
 refine wl_mv M rfl rfl ?_
 refine wl_as M rfl rfl ?_
 refine wl_nil ?_
 refine wc_ret ?_
 replace M := M.drop 1
 rw [hm] at M
 exact out1 rfl rfl ⟨_, rfl, _, K, rfl, ⟨hQ.nd, by have := hQ.len hUm; omega, hQ.fin⟩, M⟩
end Go.Proofs.YtmjieefhjmiagaaGreatDoor.G
