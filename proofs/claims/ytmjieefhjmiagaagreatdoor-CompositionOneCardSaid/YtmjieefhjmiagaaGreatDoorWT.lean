/- Walks of the program's functions. -/
import Derived.Test.YtmjieefhjmiagaaGreatDoorWU
import Derived.Test.YtmjieefhjmiagaaGreatDoorWX
set_option linter.all false
namespace Go.Proofs.YtmjieefhjmiagaaGreatDoor.G
open Go Go.RowKit
theorem through_c (a b : Tra) (x z : ByteArray) (hx : x.size ≤ 70368744177664) (hz : z.size ≤ 70368744177664) {v1 v2 : Value} {I : Heap} {w : World} (hI : hle I (hp w)) (hT : Tabs I) (R1 : a.rd I v1) (R2 : b.rd I v2) :
    Calls A 16 #[v1, v2, .string x, .string z] w (Ret w I fun r _ => r = .tuple #[.bool (thrS a b x z).1, .int .i64 (thrS a b x z).2]) := by
 obtain ⟨fu1, au1, rfl, Rf1, Ra1⟩ := R1
 obtain ⟨fu2, au2, rfl, Rf2, Ra2⟩ := R2
 have M := Mem.start hI
 refine enter Tryz.func16 rfl 84 Tryz.ntmps16 [_, _, _, _] rfl ?_
 refine wc_seq ?_
 refine wc_region ?_
 refine wl_e (e_box M rfl) rfl rfl ?_
 rintro _ w1 ⟨b4, rfl, M⟩
 refine wl_e (e_box M rfl) rfl rfl ?_
 rintro _ w2 ⟨b5, rfl, M⟩
 refine wl_as M rfl rfl ?_
 refine wl_as M rfl rfl ?_
 refine wl_nil ?_
 refine wc_seq ?_
 refine wc_region ?_
 refine wl_m M (q_ldbA 1 Tryz.underlying25 rfl sz25 rfl rfl rfl rfl) rfl rfl ?_
 refine wl_m M (q_ldbA 0 Tryz.underlying25 rfl sz25 rfl rfl rfl rfl) rfl rfl ?_
 refine wl_mv M rfl rfl ?_
 refine wl_mv M rfl rfl ?_
 refine wl_e (e_callC M (newBetween_c a b x z hx hz M.imm hT ⟨fu1, au1, rfl, Rf1, Ra1⟩ ⟨fu2, au2, rfl, Rf2, Ra2⟩) Tryz.func25 rfl rfl) rfl rfl ?_
 rintro _ w3 ⟨J26, hJ26, ⟨pv, rfl, hnb⟩, M⟩
 have hoJ26 := M.old
 refine wl_mv M rfl rfl ?_
 refine wl_m M (q_ext rfl rfl) rfl rfl ?_
 refine wl_m M (q_ext rfl rfl) rfl rfl ?_
 refine wl_as M rfl rfl ?_
 refine wl_as M rfl rfl ?_
 refine wl_nil ?_
 refine wc_seq ?_
 refine wc_seq ?_
 refine wc_region ?_
 refine wl_mv M rfl rfl ?_
 refine wl_m M (q_neq rfl rfl) rfl rfl ?_
 refine wl_nil ?_
 refine wc_cond rfl (fun ht30 => ?_) (fun ht30 => ?_)
 ·refine wc_seq ?_
  refine wc_region ?_
  refine wl_mv M rfl rfl ?_
  refine wl_as M rfl rfl ?_
  refine wl_as M rfl rfl ?_
  refine wl_nil ?_
  refine wc_ret ?_
  exact out2 rfl rfl rfl ⟨_, _, rfl, M.grow, by rw [thr_err (nd_t ht30)]⟩
 have h0 : btwE a b x z = 0 := nd_f ht30
 obtain ⟨m, n, sb, ha, hb, rfl, fb1, ab1, fb2, ab2, ux, uz, uf, ut, Hs, Rb1, Rb2, Rx, Rz, Rm1, Rm2⟩ := hnb h0
 obtain ⟨hlx, hlz⟩ := chk_short (btw_ok h0).2
 have hU : (rect4 m (runesL x).length n (runesL z).length).length ≤ 440664064 := by rw [rect4_len]; exact Nat.mul_le_mul ha.le (Nat.mul_le_mul (show (runesL x).length + 1 ≤ 41 by omega) (Nat.mul_le_mul hb.le (show (runesL z).length + 1 ≤ 41 by omega)))
 refine wc_skip ?_
 refine wc_seq ?_
 refine wc_region ?_
 refine wl_m M (q_fa fo_25_1 rfl) rfl rfl ?_
 refine wl_m M (q_ldb 1 Tryz.underlying3 rfl rfl rfl rfl) rfl rfl ?_
 refine wl_m M (q_fa fo_25_1 rfl) rfl rfl ?_
 refine wl_m M (q_ldb 0 Tryz.underlying3 rfl rfl rfl rfl) rfl rfl ?_
 refine wl_m M (q_build (bd_63_0_2 _ _) ⟨⟨rfl, rfl⟩, ⟨rfl, rfl⟩, trivial⟩) rfl rfl ?_
 refine wl_e (e_alloc M z63) rfl rfl ?_
 rintro _ w4 ⟨b12, rfl, M⟩
 refine wl_e0 (e_stW 0 M rfl rfl rfl sz63 rfl rfl) rfl ?_
 intro _ w5 M
 simp only [sC0, sCS] at M
 refine wl_nil ?_
 refine wc_seq ?_
 refine wc_region ?_
 refine wl_e (e_mkm QConfig Value.bool M) rfl rfl ?_
 rintro _ w6 ⟨b37, rfl, M⟩
 refine wl_m M (q_ldbA 1 Tryz.underlying63 rfl sz63 rfl rfl rfl rfl) rfl rfl ?_
 refine wl_e0 (e_mpi (k := (Config.mk a.start 0 b.start 0)) (v := true) 0 M rfl Tryz.underlying60 rfl rfl rfl) rfl ?_
 intro _ w7 M
 simp only [sC0, sCS] at M
 refine wl_mv M rfl rfl ?_
 refine wl_as M rfl rfl ?_
 refine wl_nil ?_
 refine wc_seq ?_
 refine wc_region ?_
 refine wl_m M (q_ldbA 1 Tryz.underlying63 rfl sz63 rfl rfl rfl rfl) rfl rfl ?_
 refine wl_e (e_bsR (E := EConfig) (xs := [(Config.mk a.start 0 b.start 0)]) M (bs_64_1 _ _ _ _) ⟨⟨rfl, rfl⟩, trivial⟩ rfl rfl (by decide)) rfl rfl ?_
 rintro _ w8 ⟨u41, rfl, M⟩
 refine wl_as M rfl rfl ?_
 refine wl_nil ?_
 refine wc_seq ?_
 refine wc_block ?_
 refine wc_loop (α := (List Config) × SV × (List Config) × (List (Config × Bool))) [8, 9, 14, 15, 16, 18, 20, 42, 43, 44, 45, 46, 47, 48, 49, 50, 51, 52, 53, 54, 55, 56, 57, 58, 59, 60, 61, 62, 63, 64, 65, 66, 67, 68, 69, 70, 71, 72, 73, 74, 75, 76, 77, 78, 79, 80, 81, 82, 83] (fun ((vs, u_41_0, l_41_0, m_37_0) : (List Config) × SV × (List Config) × (List (Config × Bool))) => [(14, sv u_41_0)])
   (fun ((vs, u_41_0, l_41_0, m_37_0) : (List Config) × SV × (List Config) × (List (Config × Bool))) w' => (Bfs (cfgN a b (runesL x) (runesL z)) (· = Config.mk a.start 0 b.start 0) vs l_41_0) ∧ (m_37_0 = tr (vs ++ l_41_0)) ∧ (∀ c ∈ vs, doneB a b (runesL x) (runesL z) c = false) ∧ Mem w I J26 (row EConfig (sv u_41_0) l_41_0 :: mpr QConfig Value.bool b37 m_37_0 :: box b12 63 [.int .i64 a.start, .int .i64 0, .int .i64 b.start, .int .i64 0] :: box b5 25 [.int .i64 b.states, .int .i64 b.start, sv fu2, sv au2] :: box b4 25 [.int .i64 a.states, .int .i64 a.start, sv fu1, sv au1] :: []) w')
   (fun ((vs, u_41_0, l_41_0, m_37_0) : (List Config) × SV × (List Config) × (List (Config × Bool))) => (rect4 m (runesL x).length n (runesL z).length).length - vs.length) ([], u41, [(Config.mk a.start 0 b.start 0)], aput [] (Config.mk a.start 0 b.start 0) true) ⟨rfl, trivial⟩ ?_ ?_
 ·refine ⟨Bfs.init _ _, rfl, by simp, ?_⟩
  exact M
 rintro ⟨vs, u_41_0, l_41_0, m_37_0⟩ jj0 w9 ⟨hB, hm, hnd, M⟩
 have hoJ26 := M.old
 refine wc_seq ?_
 refine wc_seq ?_
 refine wc_region ?_
 refine wl_mv M rfl rfl ?_
 refine wl_m M (q_lenr 0 M rfl Tryz.underlying64 rfl) rfl rfl ?_
 refine wl_m M (q_gtr rfl rfl) rfl rfl ?_
 refine wl_nil ?_
 refine wc_dec rfl (fun ht44 => ?_) (fun ht44 => ?_)
 ·obtain ⟨p, i, q, j, qs, hq⟩ : ∃ (p i q j : Nat) (qs : List Config), l_41_0 = Config.mk p i q j :: qs := by
    cases l_41_0 with
    | nil => simp at ht44
    | cons x qs =>
      obtain ⟨p, i, q, j, e, _⟩ := mem_rect4.1 (cfg_rect ha hb x (hB.reach x (by simp)))
      exact ⟨p, i, q, j, qs, by rw [e]⟩
  obtain ⟨hp1, hi1, hq1, hj1⟩ : p < m ∧ i ≤ (runesL x).length ∧ q < n ∧ j ≤ (runesL z).length := by
    obtain ⟨p', i', q', j', e, h1, h2, h3, h4⟩ := mem_rect4.1 (cfg_rect ha hb _ (hB.reach (Config.mk p i q j) (by rw [hq]; simp)))
    simp only [Config.mk.injEq] at e
    omega
  have hij : i ≤ 1073741824 ∧ j ≤ 1073741824 := by omega
  have hsp : (spkL a b (runesL x) (runesL z) (Config.mk p i q j)).length ≤ 16777216 := Nat.le_trans (spkL_len a b _ _ _) (Nat.mul_le_mul ha.alen hb.alen)
  refine wc_skip ?_
  refine wc_block ?_
  refine wc_seq ?_
  refine wc_region ?_
  refine wl_mv M rfl rfl ?_
  refine wl_ixr (j := 0) 0 M rfl Tryz.underlying64 rfl rfl (by rw [hq]; rfl) rfl (fun b46 o46 p46 => ?_)
  refine wl_m M (q_ldp p46 rfl rfl) rfl rfl ?_
  refine wl_e (e_alloc M z63) rfl rfl ?_
  rintro _ w10 ⟨b15, rfl, M⟩
  refine wl_e0 (e_stW 0 M rfl rfl rfl sz63 rfl rfl) rfl ?_
  intro _ w11 M
  simp only [sC0, sCS] at M
  refine wl_nil ?_
  refine wc_seq ?_
  refine wc_region ?_
  refine wl_mv M rfl rfl ?_
  refine wl_e (e_cut (k := 1) 1 M rfl Tryz.underlying64 rfl rfl (by omega)) rfl rfl ?_
  rintro _ w12 ⟨u49, rfl, M⟩
  simp only [sC0, sCS] at M
  refine wl_as M rfl rfl ?_
  refine wl_nil ?_
  refine wc_seq ?_
  refine wc_seq ?_
  refine wc_region ?_
  refine wl_mv M rfl rfl ?_
  refine wl_m M (q_ldbA 0 Tryz.underlying63 rfl sz63 rfl rfl rfl rfl) rfl rfl ?_
  refine wl_e (e_callC M (done_c (m := m) (n := n) (Config.mk p i q j) M.imm Hs Rb1 Rb2 Rx Rz Rm1 Rm2) Tryz.func28 rfl rfl) rfl rfl ?_
  rintro _ w13 ⟨J52, hJ52, rfl, M⟩
  replace M := M.less hJ52 hoJ26
  refine wl_nil ?_
  refine wc_cond rfl (fun ht52 => ?_) (fun ht52 => ?_)
  ·refine wc_seq ?_
   refine wc_region ?_
   refine wl_as M rfl rfl ?_
   refine wl_as M rfl rfl ?_
   refine wl_nil ?_
   refine wc_ret ?_
   exact out2 rfl rfl rfl ⟨_, _, rfl, M.grow, by rw [thr_yes h0 (hB.reach _ (by rw [hq]; simp)) ht52]⟩
  refine wc_skip ?_
  refine wc_seq ?_
  refine wc_region ?_
  refine wl_mv M rfl rfl ?_
  refine wl_m M (q_ldbA 0 Tryz.underlying63 rfl sz63 rfl rfl rfl rfl) rfl rfl ?_
  refine wl_e (e_callO (val := sv) Tryz.func37 rfl (vs := [.pointer (some ⟨sb, 0, none⟩), .agg #[.int .i64 ((Config.mk p i q j).p), .int .i64 ((Config.mk p i q j).i), .int .i64 ((Config.mk p i q j).q), .int .i64 ((Config.mk p i q j).j)]]) rfl (silent_c (p := p) (i := i) (q := q) (j := j) hp1 hq1 hij ⟨ha.alen, hb.alen⟩ M Hs Rb1 Rb2 Rx Rz Rm1 Rm2)) rfl rfl ?_
  rintro _ w14 ⟨u55, rfl, M⟩
  refine wl_as M rfl rfl ?_
  refine wl_nil ?_
  refine wc_seq ?_
  refine wc_seq ?_
  refine wc_region ?_
  refine wl_mv M rfl rfl ?_
  refine wl_m M (q_ldbA 1 Tryz.underlying63 rfl sz63 rfl rfl rfl rfl) rfl rfl ?_
  refine wl_e (e_callC M (spoken_c (p := p) (i := i) (q := q) (j := j) hp1 hq1 hij ⟨ha.alen, hb.alen⟩ M.imm Hs Rb1 Rb2 Rx Rz Rm1 Rm2) Tryz.func38 rfl rfl) rfl rfl ?_
  rintro v58 w15 ⟨J58, hJ58, Rg58, M⟩
  obtain ⟨lm58, Rl58, hlk58, hlr58⟩ := Rg58.opn (grp_nodup _ _ _)
  have hlm58 : lm58.length ≤ 4096 := by have := spk_keys a b (runesL x) (runesL z) (Config.mk p i q j); rw [← hlk58, List.length_map] at this; exact Nat.le_trans this ha.alen
  have hoJ58 := M.old
  refine wl_e (e_rngI M Rl58 Tryz.underlying83 rfl) rfl rfl ?_
  rintro _ w16 ⟨r59, mb59, rfl, rfl, M⟩
  refine wl_nil ?_
  refine wc_block ?_
  refine wc_loop (α := (List (Int × SV)) × SV × (List Config)) [16, 18, 60, 61, 62, 63, 64, 65, 66] (fun ((dn_59_2, u_55_2, l_55_2) : (List (Int × SV)) × SV × (List Config)) => [(16, sv u_55_2)])
    (fun ((dn_59_2, u_55_2, l_55_2) : (List (Int × SV)) × SV × (List Config)) w' => (l_55_2 = silL a b (runesL x) (runesL z) (Config.mk p i q j) ++ dn_59_2.flatMap (fun p_ => (aget (grp (fun e : Int × Config => e.1) (fun e : Int × Config => e.2) (spkL a b (runesL x) (runesL z) (Config.mk p i q j))) p_.1).getD [])) ∧ Mem w I J58 (itr r59 mb59 lm58 dn_59_2 :: row EConfig (sv u_55_2) l_55_2 :: box b15 63 [.int .i64 ((Config.mk p i q j).p), .int .i64 ((Config.mk p i q j).i), .int .i64 ((Config.mk p i q j).q), .int .i64 ((Config.mk p i q j).j)] :: row EConfig (sv u49) (l_41_0.drop 1) :: mpr QConfig Value.bool b37 m_37_0 :: box b12 63 [.int .i64 a.start, .int .i64 0, .int .i64 b.start, .int .i64 0] :: box b5 25 [.int .i64 b.states, .int .i64 b.start, sv fu2, sv au2] :: box b4 25 [.int .i64 a.states, .int .i64 a.start, sv fu1, sv au1] :: []) w')
    (fun ((dn_59_2, u_55_2, l_55_2) : (List (Int × SV)) × SV × (List Config)) => lm58.length - dn_59_2.length) ([], u55, silL a b (runesL x) (runesL z) (Config.mk p i q j)) ⟨rfl, trivial⟩ ?_ ?_
  ·refine ⟨(by simp), ?_⟩
   exact M
  rintro ⟨dn_59_2, u_55_2, l_55_2⟩ jj2 w17 ⟨hfo, M⟩
  have hoJ58 := M.old
  refine wc_seq ?_
  refine wc_region ?_
  refine wl_e (e_nx (Q := QRune) (V := sv) 0 M (M.imm _ _ (Rl58).at_) rfl rfl) rfl rfl ?_
  rintro _ w18 (⟨rfl, hpm14, M⟩ | ⟨p59, hpi14, hpl14, rfl, M⟩)
  ·refine wl_m M (q_ext rfl rfl) rfl rfl ?_
   refine wl_nil ?_
   refine wc_seq ?_
   refine wc_false rfl ?_
   have hfm : ∀ y, y ∈ l_55_2 ↔ y ∈ cfgN a b (runesL x) (runesL z) (Config.mk p i q j) := fun y => by
     rw [hfo, cfgN, List.mem_append, List.mem_append, grp_all (fun e : Int × Config => e.1) (fun e : Int × Config => e.2) _ hlk58 hpm14]
   have hfl : l_55_2.length ≤ 1099511627776 := by
     have h1 := grp_rows_len (fun e : Int × Config => e.1) (fun e : Int × Config => e.2) (spkL a b (runesL x) (runesL z) (Config.mk p i q j)) dn_59_2
     have h2 := silL_len a b (runesL x) (runesL z) (Config.mk p i q j)
     have h4 := hpm14.length_eq
     have h5 := Nat.mul_le_mul (show dn_59_2.length ≤ 4096 by omega) hsp
     have ha1 := ha.alen
     have hb1 := hb.alen
     rw [hfo, List.length_append]
     omega
   refine wc_exit rfl ?_
   refine wc_seq ?_
   refine wc_region ?_
   refine wl_mv M rfl rfl ?_
   refine wl_m M (q_lenr 1 M rfl Tryz.underlying64 rfl) rfl rfl ?_
   refine wl_mv M rfl rfl ?_
   refine wl_nil ?_
   refine wc_block ?_
   refine wc_loop (α := Nat × SV × (List Config) × (List (Config × Bool))) [14, 20, 69, 70, 71, 72, 73, 74, 75, 76, 77, 78, 79, 80, 81, 82, 83] (fun ((k4, u_41_4, l_41_4, m_37_4) : Nat × SV × (List Config) × (List (Config × Bool))) => [(69, .int .i64 (k4 : Int)), (14, sv u_41_4)])
     (fun ((k4, u_41_4, l_41_4, m_37_4) : Nat × SV × (List Config) × (List (Config × Bool))) w' => (k4 ≤ l_55_2.length) ∧ (BfsIn (cfgN a b (runesL x) (runesL z)) (· = Config.mk a.start 0 b.start 0) vs (Config.mk p i q j) (l_55_2.take k4) l_41_4) ∧ (m_37_4 = tr (vs ++ Config.mk p i q j :: l_41_4)) ∧ Mem w I J58 (itr r59 mb59 lm58 dn_59_2 :: row EConfig (sv u_55_2) l_55_2 :: box b15 63 [.int .i64 ((Config.mk p i q j).p), .int .i64 ((Config.mk p i q j).i), .int .i64 ((Config.mk p i q j).q), .int .i64 ((Config.mk p i q j).j)] :: row EConfig (sv u_41_4) l_41_4 :: mpr QConfig Value.bool b37 m_37_4 :: box b12 63 [.int .i64 a.start, .int .i64 0, .int .i64 b.start, .int .i64 0] :: box b5 25 [.int .i64 b.states, .int .i64 b.start, sv fu2, sv au2] :: box b4 25 [.int .i64 a.states, .int .i64 a.start, sv fu1, sv au1] :: []) w')
     (fun ((k4, u_41_4, l_41_4, m_37_4) : Nat × SV × (List Config) × (List (Config × Bool))) => l_55_2.length - k4) (0, u49, l_41_0.drop 1, m_37_0) ⟨rfl, rfl, trivial⟩ ?_ ?_
   ·refine ⟨Nat.zero_le _, (by have := hB; rw [hq] at this; rw [hq]; exact this.opn), (by rw [hm, hq]; rfl), ?_⟩
    exact M
   rintro ⟨k4, u_41_4, l_41_4, m_37_4⟩ jj4 w19 ⟨hk4, hB4, hm4, M⟩
   have hoJ58 := M.old
   refine wc_seq ?_
   refine wc_region ?_
   refine wl_m M (q_lss rfl rfl) rfl rfl ?_
   refine wl_nil ?_
   refine wc_seq ?_
   refine wc_dec rfl (fun ht70 => ?_) (fun ht70 => ?_)
   ·obtain ⟨x4, hx4⟩ : ∃ x_, l_55_2[k4]? = some x_ := ⟨_, List.getElem?_eq_getElem (by omega)⟩
    refine wc_skip ?_
    refine wc_seq ?_
    refine wc_block ?_
    refine wc_seq ?_
    refine wc_region ?_
    refine wl_ixr (j := k4) 1 M rfl Tryz.underlying64 rfl rfl hx4 rfl (fun b71 o71 p71 => ?_)
    refine wl_m M (q_ldp p71 rfl rfl) rfl rfl ?_
    refine wl_e (e_alloc M z63) rfl rfl ?_
    rintro _ w20 ⟨b20, rfl, M⟩
    refine wl_e0 (e_stW 0 M rfl rfl rfl sz63 rfl rfl) rfl ?_
    intro _ w21 M
    simp only [sC0, sCS] at M
    refine wl_nil ?_
    refine wc_seq ?_
    refine wc_region ?_
    refine wl_mv M rfl rfl ?_
    refine wl_m M (q_ldbA 0 Tryz.underlying63 rfl sz63 rfl rfl rfl rfl) rfl rfl ?_
    refine wl_m M (q_lk (k := x4) (z := false) 5 rfl Tryz.underlying60 zv4 rfl rfl) rfl rfl ?_
    refine wl_m M (q_not rfl) rfl rfl ?_
    refine wl_nil ?_
    refine wc_cond rfl (fun ht76 => ?_) (fun ht76 => ?_)
    ·have hnk : x4 ∉ vs ++ Config.mk p i q j :: l_41_4 := by rw [hm4, aget_tr] at ht76; exact nd_t ht76
     refine wc_seq ?_
     refine wc_region ?_
     refine wl_mv M rfl rfl ?_
     refine wl_m M (q_ldbA 0 Tryz.underlying63 rfl sz63 rfl rfl rfl rfl) rfl rfl ?_
     refine wl_e0 (e_mpu (k := x4) (v := true) 5 M rfl Tryz.underlying60 rfl rfl rfl) rfl ?_
     intro _ w22 M
     simp only [sC0, sCS] at M
     refine wl_nil ?_
     refine wc_region ?_
     refine wl_mv M rfl rfl ?_
     refine wl_m M (q_ldbA 0 Tryz.underlying63 rfl sz63 rfl rfl rfl rfl) rfl rfl ?_
     refine wl_e (e_bsI (E := EConfig) (xs := [x4]) M (bs_64_1 _ _ _ _) ⟨⟨rfl, rfl⟩, trivial⟩ rfl rfl (by decide)) rfl rfl ?_
     rintro _ w23 ⟨u81, J81, rfl, hJ81, R81, M⟩
     have hoJ81 := M.old
     refine wl_e (e_app 4 M rfl R81 Tryz.underlying64 rfl rfl (by have := hB4.len (cfg_rect ha hb); show (_ + 1) * 32 ≤ _; omega)) rfl rfl ?_
     rintro _ w24 ⟨u82, rfl, M⟩
     replace M := M.less hJ81 hoJ58
     simp only [sC0, sCS] at M
     refine wl_as M rfl rfl ?_
     refine wl_nil ?_
     refine wc_region ?_
     refine wl_m M (q_add rfl rfl (IntWalk.i64_in _ (by omega))) rfl rfl ?_
     refine wl_mv M rfl rfl ?_
     refine wl_nil ?_
     replace M := M.drop 0
     refine ⟨(k4 + 1, u82, l_41_4 ++ [x4], aput m_37_4 x4 true), ?_, ⟨(by omega), (by rw [take_snoc hx4]; exact hB4.push hnk ((hfm _).1 (List.mem_of_getElem? hx4))), (by rw [hm4, aput_tr hnk]; congr 1; simp), M⟩, ⟨rfl, rfl, trivial⟩, unw_look rfl unw_base⟩
     show l_55_2.length - (k4 + 1) < l_55_2.length - k4
     omega
    have hnk : x4 ∈ vs ++ Config.mk p i q j :: l_41_4 := by rw [hm4, aget_tr] at ht76; exact nd_f ht76
    refine wc_skip ?_
    refine wc_region ?_
    refine wl_m M (q_add rfl rfl (IntWalk.i64_in _ (by omega))) rfl rfl ?_
    refine wl_mv M rfl rfl ?_
    refine wl_nil ?_
    replace M := M.drop 0
    refine ⟨(k4 + 1, u_41_4, l_41_4, m_37_4), ?_, ⟨(by omega), (by rw [take_snoc hx4]; exact hB4.known hnk), hm4, M⟩, ⟨rfl, rfl, trivial⟩, unw_look rfl unw_base⟩
    show l_55_2.length - (k4 + 1) < l_55_2.length - k4
    omega
   have hke4 : k4 = l_55_2.length := by omega
   rw [hke4, List.take_length] at hB4
   refine wc_exit rfl ?_
   replace M := M.less hJ58 hoJ26
   replace M := M.drop 0
   replace M := M.drop 0
   replace M := M.drop 0
   refine ⟨(vs ++ [Config.mk p i q j], u_41_4, l_41_4, m_37_4), ?_, ⟨hB4.close (fun y hy => (hfm y).2 hy), (by rw [hm4]; congr 1; simp), (fun c hc => by rcases List.mem_append.1 hc with h | h; exact hnd c h; rw [List.mem_singleton.1 h]; exact ht52), M⟩, ⟨rfl, trivial⟩, unw_look rfl (unw_hav rfl (unw_look rfl (unw_hav rfl (unw_look rfl unw_base))))⟩
   show (rect4 m (runesL x).length n (runesL z).length).length - (vs ++ [Config.mk p i q j]).length < (rect4 m (runesL x).length n (runesL z).length).length - vs.length
   have := (hB4.close (fun y hy => (hfm y).2 hy)).len (cfg_rect ha hb)
   simp only [List.length_append, List.length_cons, List.length_nil] at this ⊢
   omega
  simp only [sC0, sCS] at M
  refine wl_m M (q_ext rfl rfl) rfl rfl ?_
  refine wl_nil ?_
  refine wc_seq ?_
  refine wc_true rfl ?_
  refine wc_skip ?_
  refine wc_block ?_
  refine wc_seq ?_
  refine wc_region ?_
  refine wl_m M (q_ent (Q := QRune) (V := sv) 0 (fun w M => M.imm _ _ (Rl58).at_) rfl rfl) rfl rfl ?_
  refine wl_m M (q_ext rfl rfl) rfl rfl ?_
  refine wl_as M rfl rfl ?_
  refine wl_nil ?_
  refine wc_region ?_
  refine wl_mv M rfl rfl ?_
  refine wl_mv M rfl rfl ?_
  refine wl_e (e_app 1 M rfl (hlr58 p59 hpi14) Tryz.underlying64 rfl rfl (by have h1 := grp_rows_len (fun e : Int × Config => e.1) (fun e : Int × Config => e.2) (spkL a b (runesL x) (runesL z) (Config.mk p i q j)) dn_59_2; have h2 := silL_len a b (runesL x) (runesL z) (Config.mk p i q j); have h3 := grp_look_len (fun e : Int × Config => e.1) (fun e : Int × Config => e.2) p59.1 (spkL a b (runesL x) (runesL z) (Config.mk p i q j)); have h5 := Nat.mul_le_mul (show dn_59_2.length ≤ 4096 by omega) hsp; have ha1 := ha.alen; have hb1 := hb.alen; rw [hfo, List.length_append]; show (_ + _) * 32 ≤ _; omega)) rfl rfl ?_
  rintro _ w25 ⟨u66, rfl, M⟩
  simp only [sC0, sCS] at M
  refine wl_as M rfl rfl ?_
  refine wl_nil ?_
  refine ⟨(dn_59_2 ++ [p59], u66, l_55_2 ++ ((aget (grp (fun e : Int × Config => e.1) (fun e : Int × Config => e.2) (spkL a b (runesL x) (runesL z) (Config.mk p i q j))) p59.1).getD [])), ?_, ⟨(by rw [hfo, List.flatMap_append]; simp), M⟩, ⟨rfl, trivial⟩, unw_look rfl unw_base⟩
  show lm58.length - (dn_59_2 ++ [p59]).length < lm58.length - dn_59_2.length
  rw [List.length_append, List.length_singleton]; omega
 obtain rfl : l_41_0 = [] := by cases l_41_0 with | nil => rfl | cons x l => simp at ht44
 refine wc_exit rfl ?_
 refine wc_seq ?_
 refine wc_region ?_
 refine wl_as M rfl rfl ?_
 refine wl_as M rfl rfl ?_
 refine wl_nil ?_
 refine wc_ret ?_
 exact out2 rfl rfl rfl ⟨_, _, rfl, M.grow, by rw [thr_no h0 hB.fin hnd]⟩
end Go.Proofs.YtmjieefhjmiagaaGreatDoor.G
