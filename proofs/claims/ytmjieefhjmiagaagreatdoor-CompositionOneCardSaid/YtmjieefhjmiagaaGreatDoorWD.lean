/- Walks of the program's functions. -/
import Derived.Test.YtmjieefhjmiagaaGreatDoorGSrt
import Derived.Test.YtmjieefhjmiagaaGreatDoorWB
set_option linter.all false
namespace Go.Proofs.YtmjieefhjmiagaaGreatDoor.G
open Go Go.RowKit
theorem compose_c (a b : Tra) (hbig : (a.states.toNat * b.states.toNat + 1) * (a.arcs.length * (b.arcs.length + 1) + b.arcs.length + 1) ≤ 1099511627776) {v1 v2 : Value} {I : Heap} {w : World} (hI : hle I (hp w)) (R1 : a.rd I v1) (R2 : b.rd I v2) :
    Calls A 23 #[v1, v2] w (Ret w I fun r I' => ∃ (v : Value) (t : Tra) (e : Int), r = .tuple #[v, .int .i64 e] ∧ t.rd I' v ∧ CmpRes a b t e) := by
 obtain ⟨fu1, au1, rfl, Rf1, Ra1⟩ := R1
 obtain ⟨fu2, au2, rfl, Rf2, Ra2⟩ := R2
 have M := Mem.start hI
 refine enter Tryz.func23 rfl 152 Tryz.ntmps23 [_, _] rfl ?_
 refine wc_seq ?_
 refine wc_region ?_
 refine wl_e (e_box M rfl) rfl rfl ?_
 rintro _ w1 ⟨b2, rfl, M⟩
 refine wl_e (e_box M rfl) rfl rfl ?_
 rintro _ w2 ⟨b3, rfl, M⟩
 refine wl_e (e_alloc M z25) rfl rfl ?_
 rintro _ w3 ⟨b4, rfl, M⟩
 refine wl_as M rfl rfl ?_
 refine wl_nil ?_
 refine wc_seq ?_
 refine wc_seq ?_
 refine wc_join (α := Unit) [17, 18, 19, 20, 21, 22, 23, 24] (fun _ => [(24, .bool ((!(validT a)) || (!(validT b))))]) (fun _ w' => Mem w I I (box b4 25 [.int .i64 0, .int .i64 0, .slice none 0 0, .slice none 0 0] :: box b3 25 [.int .i64 b.states, .int .i64 b.start, sv fu2, sv au2] :: box b2 25 [.int .i64 a.states, .int .i64 a.start, sv fu1, sv au1] :: []) w') ?_ ?_
 ·refine wc_region ?_
  refine wl_m M (q_ldbA 2 Tryz.underlying25 rfl sz25 rfl rfl rfl rfl) rfl rfl ?_
  refine wl_e (e_callC M (valid_c a M.imm ⟨fu1, au1, rfl, Rf1, Ra1⟩) Tryz.func34 rfl rfl) rfl rfl ?_
  rintro _ w4 ⟨J18, hJ18, rfl, M⟩
  replace M := M.less hJ18 (fun _ _ => rfl)
  refine wl_m M (q_not rfl) rfl rfl ?_
  refine wl_mv M rfl rfl ?_
  rcases Bool.eq_false_or_eq_true (!(validT a)) with hg20 | hg20
  ·refine wl_m M (q_off 3 rfl rfl rfl hg20) rfl rfl ?_
   refine wl_m M (q_off 3 rfl rfl rfl hg20) rfl rfl ?_
   refine wl_m M (q_off 3 rfl rfl rfl hg20) rfl rfl ?_
   refine wl_m M (q_pickT rfl hg20 rfl) rfl rfl ?_
   refine wl_nil ?_
   exact ⟨(), M, ⟨(show some (Value.bool true) = some (Value.bool ((!(validT a)) || (!(validT b)))) from by first | (simp only [hg20, Bool.true_or, Bool.false_or, Bool.true_and, Bool.false_and, Bool.or_true, Bool.or_false, Bool.and_true, Bool.and_false]; done) | (simp_all; done) | (simp_all; omega)), trivial⟩, unw_take 8 rfl rfl⟩
  refine wl_m M (q_guard 3 rfl rfl rfl hg20 (q_ldbA 1 Tryz.underlying25 rfl sz25 rfl rfl rfl rfl)) rfl rfl ?_
  refine wl_e (e_guard 3 rfl rfl rfl hg20 (e_callC M (valid_c b M.imm ⟨fu2, au2, rfl, Rf2, Ra2⟩) Tryz.func34 rfl rfl)) rfl rfl ?_
  rintro _ w5 ⟨J22, hJ22, rfl, M⟩
  replace M := M.less hJ22 (fun _ _ => rfl)
  refine wl_m M (q_guard 3 rfl rfl rfl hg20 (q_not rfl)) rfl rfl ?_
  refine wl_m M (q_pickF rfl hg20 rfl) rfl rfl ?_
  refine wl_nil ?_
  exact ⟨(), M, ⟨(show some (Value.bool (!(validT b))) = some (Value.bool ((!(validT a)) || (!(validT b)))) from by first | (simp only [hg20, Bool.true_or, Bool.false_or, Bool.true_and, Bool.false_and, Bool.or_true, Bool.or_false, Bool.and_true, Bool.and_false]; done) | (simp_all; done) | (simp_all; omega)), trivial⟩, unw_take 8 rfl rfl⟩
 rintro _ jr1 w6 M
 refine wc_cond rfl (fun ht24 => ?_) (fun ht24 => ?_)
 ·refine wc_seq ?_
  refine wc_region ?_
  refine wl_m M (q_build (bd_25) trivial) rfl rfl ?_
  refine wl_e0 (e_stW 0 M rfl rfl rfl sz25 rfl rfl) rfl ?_
  intro _ w7 M
  simp only [sC0, sCS] at M
  refine wl_as M rfl rfl ?_
  refine wl_nil ?_
  refine wc_ret ?_
  refine outc2 rfl rfl (load_boxA M 0 Tryz.underlying25 rfl sz25 rfl rfl rfl) rfl ⟨_, _, rfl, M.grow, _, zeroTra, 1, rfl, ⟨nilV, nilV, rfl, rdSl_nil _, rdSl_nil _⟩, ?_⟩
  rw [CmpRes, if_pos ht24]; exact ⟨rfl, rfl⟩
 have hva : validT a = true := by simpa using (Bool.or_eq_false_iff.1 ht24).1
 have hvb : validT b = true := by simpa using (Bool.or_eq_false_iff.1 ht24).2
 obtain ⟨m, ha, hfa, hfal⟩ := validT_ok hva
 obtain ⟨n, hb, hfb, hfbl⟩ := validT_ok hvb
 rw [ha.st, hb.st, Int.toNat_natCast, Int.toNat_natCast] at hbig
 refine wc_skip ?_
 refine wc_seq ?_
 refine wc_region ?_
 refine wl_m M (q_ldbA 2 Tryz.underlying25 rfl sz25 rfl rfl rfl rfl) rfl rfl ?_
 refine wl_m M (q_ldbA 1 Tryz.underlying25 rfl sz25 rfl rfl rfl rfl) rfl rfl ?_
 refine wl_e (e_callC M (reachable_c ha hb hbig M.imm ⟨fu1, au1, rfl, Rf1, Ra1⟩ ⟨fu2, au2, rfl, Rf2, Ra2⟩) Tryz.func52 rfl rfl) rfl rfl ?_
 rintro _ w8 ⟨J29, hJ29, ⟨u29, v29, K, rfl, R29, Rk, hK⟩, M⟩
 have hoJ29 := M.old
 refine wl_mv M rfl rfl ?_
 refine wl_m M (q_ext rfl rfl) rfl rfl ?_
 refine wl_m M (q_ext rfl rfl) rfl rfl ?_
 refine wl_as M rfl rfl ?_
 refine wl_as M rfl rfl ?_
 refine wl_nil ?_
 refine wc_seq ?_
 have hKmn : K.length ≤ m * n := by have := hK.nodup.length_le_of_subset (fun x hx => compN_rect ha hb x ((hK.mem x).1 hx)); rwa [rect_len] at this
 have hKl : K.length ≤ 262144 := by have := Nat.mul_le_mul ha.le hb.le; omega
 have hsrc : ∀ e ∈ K.flatMap (compE a b), e.src ∈ K := fun e he => by
   obtain ⟨s, hs, h⟩ := List.mem_flatMap.1 he
   rw [(mem_edgL h).1]; exact hs
 have hls : (K.flatMap (compE a b)).length ≤ 1099511627776 := by
   have h1 := flat_len (compE_len a b) K
   have h2 := Nat.mul_le_mul_right (a.arcs.length * (b.arcs.length + 1) + b.arcs.length) hKmn
   rw [Nat.add_mul, Nat.mul_add] at hbig
   omega
 refine wc_region ?_
 refine wl_m M (q_ldbA 2 Tryz.underlying25 rfl sz25 rfl rfl rfl rfl) rfl rfl ?_
 refine wl_m M (q_ldbA 1 Tryz.underlying25 rfl sz25 rfl rfl rfl rfl) rfl rfl ?_
 refine wl_mv M rfl rfl ?_
 refine wl_mv M rfl rfl ?_
 refine wl_e (e_callC M (useful_c (K := K) hKl (fun e he => hsrc e he) hls hfa hfb hfal hfbl M.imm ⟨fu1, au1, rfl, (Rf1.mono hJ29), (Ra1.mono hJ29)⟩ ⟨fu2, au2, rfl, (Rf2.mono hJ29), (Ra2.mono hJ29)⟩ R29 Rk) Tryz.func53 rfl rfl) rfl rfl ?_
 rintro v36 w9 ⟨J36, hJ36, ⟨U, RU, hU⟩, M⟩
 have hoJ36 := M.old
 refine wl_as M rfl rfl ?_
 refine wl_nil ?_
 refine wc_seq ?_
 refine wc_seq ?_
 refine wc_region ?_
 refine wl_mv M rfl rfl ?_
 refine wl_m M (q_fa fo_25_1 rfl) rfl rfl ?_
 refine wl_m M (q_ldb 2 Tryz.underlying3 rfl rfl rfl rfl) rfl rfl ?_
 refine wl_m M (q_fa fo_25_1 rfl) rfl rfl ?_
 refine wl_m M (q_ldb 1 Tryz.underlying3 rfl rfl rfl rfl) rfl rfl ?_
 refine wl_m M (q_build (bd_117_0_1 _ _) ⟨⟨rfl, rfl⟩, ⟨rfl, rfl⟩, trivial⟩) rfl rfl ?_
 refine wl_m M (q_lkI (k := (Pair.mk a.start b.start)) (z := false) RU Tryz.underlying112 zv4 rfl rfl) rfl rfl ?_
 refine wl_m M (q_not rfl) rfl rfl ?_
 refine wl_nil ?_
 refine wc_cond rfl (fun ht44 => ?_) (fun ht44 => ?_)
 ·have hst : (⟨a.start, b.start⟩ : Pair) ∉ U := by rw [aget_tr] at ht44; exact nd_t ht44
  refine wc_seq ?_
  refine wc_region ?_
  refine wl_m M (q_build (bd_25_0 _) ⟨⟨rfl, rfl⟩, trivial⟩) rfl rfl ?_
  refine wl_e0 (e_stW 0 M rfl rfl rfl sz25 rfl rfl) rfl ?_
  intro _ w10 M
  simp only [sC0, sCS] at M
  refine wl_as M rfl rfl ?_
  refine wl_nil ?_
  refine wc_ret ?_
  refine outc2 rfl rfl (load_boxA M 0 Tryz.underlying25 rfl sz25 rfl rfl rfl) rfl ⟨_, _, rfl, M.grow, _, oneTra, 0, rfl, ⟨nilV, nilV, rfl, rdSl_nil _, rdSl_nil _⟩, ?_⟩
  rw [CmpRes, if_neg (by rw [ht24]; decide)]
  exact ⟨K, U, hK, hU, by rw [if_pos hst]; exact ⟨rfl, rfl⟩⟩
 have hst : (⟨a.start, b.start⟩ : Pair) ∈ U := by rw [aget_tr] at ht44; exact nd_f ht44
 refine wc_skip ?_
 refine wc_seq ?_
 refine wc_seq ?_
 refine wc_region ?_
 refine wl_mv M rfl rfl ?_
 refine wl_m M (q_lenMI RU Tryz.underlying112 rfl) rfl rfl ?_
 refine wl_m M (q_gtr rfl rfl) rfl rfl ?_
 refine wl_nil ?_
 refine wc_dec rfl (fun ht48 => ?_) (fun ht48 => ?_)
 ·refine wc_seq ?_
  refine wc_region ?_
  refine wl_m M (q_build (bd_25) trivial) rfl rfl ?_
  refine wl_e0 (e_stW 0 M rfl rfl rfl sz25 rfl rfl) rfl ?_
  intro _ w11 M
  simp only [sC0, sCS] at M
  refine wl_as M rfl rfl ?_
  refine wl_nil ?_
  refine wc_ret ?_
  refine outc2 rfl rfl (load_boxA M 0 Tryz.underlying25 rfl sz25 rfl rfl rfl) rfl ⟨_, _, rfl, M.grow, _, zeroTra, 2, rfl, ⟨nilV, nilV, rfl, rdSl_nil _, rdSl_nil _⟩, ?_⟩
  rw [CmpRes, if_neg (by rw [ht24]; decide)]
  exact ⟨K, U, hK, hU, by rw [if_neg (fun h => h hst), if_pos (by rw [tr_len] at ht48; omega)]; exact ⟨rfl, rfl⟩⟩
 have hUl : U.length ≤ 512 := by rw [tr_len] at ht48; omega
 refine wc_skip ?_
 refine wc_seq ?_
 refine wc_region ?_
 refine wl_as M rfl rfl ?_
 replace M := M.nilRow EPair
 refine wl_nil ?_
 refine wc_seq ?_
 refine wc_seq ?_
 refine wc_region ?_
 refine wl_mv M rfl rfl ?_
 refine wl_e (e_rngI M RU Tryz.underlying112 rfl) rfl rfl ?_
 rintro _ w12 ⟨r51, mb51, rfl, rfl, M⟩
 refine wl_nil ?_
 refine wc_block ?_
 refine wc_loop (α := (List (Pair × Bool)) × SV × (List Pair)) [9, 10, 52, 53, 54, 55, 56, 57, 58, 59] (fun ((dn_51_0, u_9_0, l_9_0) : (List (Pair × Bool)) × SV × (List Pair)) => [(9, sv u_9_0)])
   (fun ((dn_51_0, u_9_0, l_9_0) : (List (Pair × Bool)) × SV × (List Pair)) w' => (l_9_0 = dn_51_0.map (·.1)) ∧ Mem w I J36 (itr r51 mb51 (tr U) dn_51_0 :: row EPair (sv u_9_0) l_9_0 :: box b4 25 [.int .i64 0, .int .i64 0, .slice none 0 0, .slice none 0 0] :: box b3 25 [.int .i64 b.states, .int .i64 b.start, sv fu2, sv au2] :: box b2 25 [.int .i64 a.states, .int .i64 a.start, sv fu1, sv au1] :: []) w')
   (fun ((dn_51_0, u_9_0, l_9_0) : (List (Pair × Bool)) × SV × (List Pair)) => (tr U).length - dn_51_0.length) ([], nilV, []) ⟨rfl, trivial⟩ ?_ ?_
 ·refine ⟨rfl, ?_⟩
  exact M
 rintro ⟨dn_51_0, u_9_0, l_9_0⟩ jj0 w13 ⟨hr9, M⟩
 have hoJ36 := M.old
 refine wc_seq ?_
 refine wc_region ?_
 refine wl_e (e_nx (Q := QPair) (V := Value.bool) 0 M (M.imm _ _ (RU).at_) rfl rfl) rfl rfl ?_
 rintro _ w14 (⟨rfl, hpm11, M⟩ | ⟨p51, hpi11, hpl11, rfl, M⟩)
 ·refine wl_m M (q_ext rfl rfl) rfl rfl ?_
  refine wl_nil ?_
  refine wc_seq ?_
  refine wc_false rfl ?_
  have hps : l_9_0.Perm U := by rw [hr9]; have := hpm11.map (·.1); rwa [tr_keys] at this
  refine wc_exit rfl ?_
  refine wc_seq ?_
  refine wc_region ?_
  refine wl_mv M rfl rfl ?_
  refine wl_e (e_callR Tryz.func54 rfl (vs := [sv u_9_0, .func (.func 55) #[] #[]]) rfl (sortP_c 1 M rfl (by rw [hps.length_eq]; omega))) rfl rfl ?_
  rintro _ w15 M
  simp only [sC0, sCS] at M
  refine wl_nil ?_
  refine wc_seq ?_
  refine wc_region ?_
  refine wl_e (e_mkm QPair (Value.int .i64) M) rfl rfl ?_
  rintro _ w16 ⟨b62, rfl, M⟩
  refine wl_as M rfl rfl ?_
  refine wl_nil ?_
  refine wc_seq ?_
  refine wc_region ?_
  refine wl_mv M rfl rfl ?_
  refine wl_m M (q_lenr 2 M rfl Tryz.underlying118 rfl) rfl rfl ?_
  refine wl_m M (q_build (bd_25_0 _) ⟨⟨rfl, rfl⟩, trivial⟩) rfl rfl ?_
  refine wl_e (e_alloc M z25) rfl rfl ?_
  rintro _ w17 ⟨b12, rfl, M⟩
  refine wl_e0 (e_stW 0 M rfl rfl rfl sz25 rfl rfl) rfl ?_
  intro _ w18 M
  simp only [sC0, sCS] at M
  refine wl_nil ?_
  refine wc_seq ?_
  refine wc_seq ?_
  replace M := M.nilRow EInt
  replace M := M.nilRow EArc
  obtain ⟨sts, hsts⟩ : ∃ sts, sts = srtP U := ⟨_, rfl⟩
  rw [srtP_perm hps, ← hsts] at M
  have hsl : sts.length = U.length := by rw [hsts, srtP_len]
  have hsn : sts.Nodup := by rw [hsts]; exact srtP_nodup hU.nodup
  refine wc_region ?_
  refine wl_mv M rfl rfl ?_
  refine wl_m M (q_lenr 5 M rfl Tryz.underlying118 rfl) rfl rfl ?_
  refine wl_mv M rfl rfl ?_
  refine wl_nil ?_
  refine wc_block ?_
  refine wc_loop (α := Nat × (List (Pair × Int)) × SV × (List Int)) [13, 14, 68, 69, 70, 71, 72, 73, 74, 75, 76, 77, 78, 79, 80, 81, 82, 83, 84, 85, 86, 87, 88, 89, 90, 91, 92, 93, 94] (fun ((k2, m_62_2, u_f_2, l_f_2) : Nat × (List (Pair × Int)) × SV × (List Int)) => [(68, .int .i64 (k2 : Int))])
    (fun ((k2, m_62_2, u_f_2, l_f_2) : Nat × (List (Pair × Int)) × SV × (List Int)) w' => (k2 ≤ sts.length) ∧ (m_62_2 = numF 0 (sts.take k2)) ∧ (l_f_2 = finF a b 0 (sts.take k2)) ∧ Mem w I J36 (row EArc (sv nilV) [] :: row EInt (sv u_f_2) l_f_2 :: box b12 25 [.int .i64 (sts.length : Int), .int .i64 0, sv u_f_2, sv nilV] :: mpr QPair (Value.int .i64) b62 m_62_2 :: itr r51 mb51 (tr U) dn_51_0 :: row EPair (sv u_9_0) sts :: box b4 25 [.int .i64 0, .int .i64 0, .slice none 0 0, .slice none 0 0] :: box b3 25 [.int .i64 b.states, .int .i64 b.start, sv fu2, sv au2] :: box b2 25 [.int .i64 a.states, .int .i64 a.start, sv fu1, sv au1] :: []) w')
    (fun ((k2, m_62_2, u_f_2, l_f_2) : Nat × (List (Pair × Int)) × SV × (List Int)) => sts.length - k2) (0, [], nilV, []) ⟨rfl, trivial⟩ ?_ ?_
  ·refine ⟨Nat.zero_le _, rfl, rfl, ?_⟩
   exact M
  rintro ⟨k2, m_62_2, u_f_2, l_f_2⟩ jj2 w19 ⟨hk2, hnn, hff, M⟩
  have hoJ36 := M.old
  refine wc_seq ?_
  refine wc_region ?_
  refine wl_m M (q_lss rfl rfl) rfl rfl ?_
  refine wl_nil ?_
  refine wc_seq ?_
  refine wc_dec rfl (fun ht69 => ?_) (fun ht69 => ?_)
  ·obtain ⟨x2, hx2⟩ : ∃ x_, sts[k2]? = some x_ := ⟨_, List.getElem?_eq_getElem (by omega)⟩
   refine wc_skip ?_
   refine wc_seq ?_
   refine wc_block ?_
   refine wc_seq ?_
   refine wc_region ?_
   refine wl_mv M rfl rfl ?_
   refine wl_ixr (j := k2) 5 M rfl Tryz.underlying118 rfl rfl hx2 rfl (fun b71 o71 p71 => ?_)
   refine wl_m M (q_ldp p71 rfl rfl) rfl rfl ?_
   refine wl_e (e_alloc M z117) rfl rfl ?_
   rintro _ w20 ⟨b14, rfl, M⟩
   refine wl_as M rfl rfl ?_
   refine wl_e0 (e_stW 0 M rfl rfl rfl sz117 rfl rfl) rfl ?_
   intro _ w21 M
   simp only [sC0, sCS] at M
   refine wl_nil ?_
   refine wc_seq ?_
   refine wc_region ?_
   refine wl_mv M rfl rfl ?_
   refine wl_m M (q_ldbA 0 Tryz.underlying117 rfl sz117 rfl rfl rfl rfl) rfl rfl ?_
   refine wl_mv M rfl rfl ?_
   refine wl_e0 (e_mpu (k := x2) (v := (k2 : Int)) 4 M rfl Tryz.underlying123 rfl rfl rfl) rfl ?_
   intro _ w22 M
   simp only [sC0, sCS] at M
   refine wl_nil ?_
   refine wc_seq ?_
   refine wc_join (α := Unit) [76, 77, 78, 79, 80, 81, 82, 83, 84, 85, 86, 87] (fun _ => [(87, .bool ((decide (x2.p ∈ a.finals)) && (decide (x2.q ∈ b.finals))))]) (fun _ w' => Mem w I J36 (box b14 117 [.int .i64 x2.p, .int .i64 x2.q] :: row EArc (sv nilV) [] :: row EInt (sv u_f_2) l_f_2 :: box b12 25 [.int .i64 (sts.length : Int), .int .i64 0, sv u_f_2, sv nilV] :: mpr QPair (Value.int .i64) b62 (aput m_62_2 x2 (k2 : Int)) :: itr r51 mb51 (tr U) dn_51_0 :: row EPair (sv u_9_0) sts :: box b4 25 [.int .i64 0, .int .i64 0, .slice none 0 0, .slice none 0 0] :: box b3 25 [.int .i64 b.states, .int .i64 b.start, sv fu2, sv au2] :: box b2 25 [.int .i64 a.states, .int .i64 a.start, sv fu1, sv au1] :: []) w') ?_ ?_
   ·refine wc_region ?_
    refine wl_m M (q_fa fo_25_2 rfl) rfl rfl ?_
    refine wl_m M (q_ldb 9 Tryz.underlying22 rfl rfl rfl rfl) rfl rfl ?_
    refine wl_m M (q_fa fo_117_0 rfl) rfl rfl ?_
    refine wl_m M (q_ldb 0 Tryz.underlying3 rfl rfl rfl rfl) rfl rfl ?_
    refine wl_e (e_callC M (contains_c M.imm ((Rf1.mono hJ29).mono hJ36)) Tryz.func36 rfl rfl) rfl rfl ?_
    rintro _ w23 ⟨J80, hJ80, rfl, M⟩
    replace M := M.less hJ80 hoJ36
    refine wl_mv M rfl rfl ?_
    rcases Bool.eq_false_or_eq_true (decide (x2.p ∈ a.finals)) with hg81 | hg81
    ·refine wl_m M (q_guard 5 rfl rfl rfl hg81 (q_fa fo_25_2 rfl)) rfl rfl ?_
     refine wl_m M (q_guard 5 rfl rfl rfl hg81 (q_ldb 8 Tryz.underlying22 rfl rfl rfl rfl)) rfl rfl ?_
     refine wl_m M (q_guard 5 rfl rfl rfl hg81 (q_fa fo_117_1 rfl)) rfl rfl ?_
     refine wl_m M (q_guard 5 rfl rfl rfl hg81 (q_ldb 0 Tryz.underlying3 rfl rfl rfl rfl)) rfl rfl ?_
     refine wl_e (e_guard 5 rfl rfl rfl hg81 (e_callC M (contains_c M.imm ((Rf2.mono hJ29).mono hJ36)) Tryz.func36 rfl rfl)) rfl rfl ?_
     rintro _ w24 ⟨J86, hJ86, rfl, M⟩
     replace M := M.less hJ86 hoJ36
     refine wl_m M (q_pickT rfl hg81 rfl) rfl rfl ?_
     refine wl_nil ?_
     exact ⟨(), M, ⟨(show some (Value.bool (decide (x2.q ∈ b.finals))) = some (Value.bool ((decide (x2.p ∈ a.finals)) && (decide (x2.q ∈ b.finals)))) from by first | (simp only [hg81, Bool.true_or, Bool.false_or, Bool.true_and, Bool.false_and, Bool.or_true, Bool.or_false, Bool.and_true, Bool.and_false]; done) | (simp_all; done) | (simp_all; omega)), trivial⟩, unw_take 12 rfl rfl⟩
    refine wl_m M (q_off 5 rfl rfl rfl hg81) rfl rfl ?_
    refine wl_m M (q_off 5 rfl rfl rfl hg81) rfl rfl ?_
    refine wl_m M (q_off 5 rfl rfl rfl hg81) rfl rfl ?_
    refine wl_m M (q_off 5 rfl rfl rfl hg81) rfl rfl ?_
    refine wl_m M (q_off 5 rfl rfl rfl hg81) rfl rfl ?_
    refine wl_m M (q_pickF rfl hg81 rfl) rfl rfl ?_
    refine wl_nil ?_
    exact ⟨(), M, ⟨(show some (Value.bool false) = some (Value.bool ((decide (x2.p ∈ a.finals)) && (decide (x2.q ∈ b.finals)))) from by first | (simp only [hg81, Bool.true_or, Bool.false_or, Bool.true_and, Bool.false_and, Bool.or_true, Bool.or_false, Bool.and_true, Bool.and_false]; done) | (simp_all; done) | (simp_all; omega)), trivial⟩, unw_take 12 rfl rfl⟩
   rintro _ jr21 w25 M
   refine wc_cond rfl (fun ht87 => ?_) (fun ht87 => ?_)
   ·refine wc_region ?_
    refine wl_m M (q_fa fo_25_2 rfl) rfl rfl ?_
    refine wl_m M (q_ldb 3 Tryz.underlying22 rfl rfl rfl rfl) rfl rfl ?_
    refine wl_mv M rfl rfl ?_
    refine wl_e (e_bsI (E := EInt) (xs := [(k2 : Int)]) M (bs_22_1 _) ⟨⟨rfl, rfl⟩, trivial⟩ rfl rfl (by decide)) rfl rfl ?_
    rintro _ w26 ⟨u91, J91, rfl, hJ91, R91, M⟩
    have hoJ91 := M.old
    refine wl_e (e_app 2 M rfl R91 Tryz.underlying22 rfl rfl (by have := finF_len a b 0 (sts.take k2); rw [List.length_take] at this; rw [hff]; show (_ + 1) * 8 ≤ _; omega)) rfl rfl ?_
    rintro _ w27 ⟨u92, rfl, M⟩
    replace M := M.less hJ91 hoJ36
    simp only [sC0, sCS] at M
    refine wl_m M (q_fa fo_25_2 rfl) rfl rfl ?_
    refine wl_e0 (e_stb 3 M rfl rfl rfl sz22 rfl rfl) rfl ?_
    intro _ w28 M
    simp only [sC0, sCS] at M
    refine wl_nil ?_
    refine wc_region ?_
    refine wl_m M (q_add rfl rfl (IntWalk.i64_in _ (by omega))) rfl rfl ?_
    refine wl_mv M rfl rfl ?_
    refine wl_nil ?_
    replace M := M.drop 0
    refine ⟨(k2 + 1, aput m_62_2 x2 (k2 : Int), u92, l_f_2 ++ [(k2 : Int)]), ?_, ⟨(by omega), (by rw [take_snoc hx2, numF_snoc, hnn, aput_new (aget_none.2 (by rw [numF_keys]; exact nodup_take_not hsn hx2)), List.length_take, Nat.min_eq_left hk2, Nat.zero_add]), (by rw [take_snoc hx2, finF_snoc, hff, if_pos (by rw [isFin, ht87]), List.length_take, Nat.min_eq_left hk2, Nat.zero_add]), M⟩, ⟨rfl, trivial⟩, unw_look rfl (unw_hav rfl (unw_look rfl unw_base))⟩
    show sts.length - (k2 + 1) < sts.length - k2
    omega
   refine wc_skip ?_
   refine wc_region ?_
   refine wl_m M (q_add rfl rfl (IntWalk.i64_in _ (by omega))) rfl rfl ?_
   refine wl_mv M rfl rfl ?_
   refine wl_nil ?_
   replace M := M.drop 0
   refine ⟨(k2 + 1, aput m_62_2 x2 (k2 : Int), u_f_2, l_f_2), ?_, ⟨(by omega), (by rw [take_snoc hx2, numF_snoc, hnn, aput_new (aget_none.2 (by rw [numF_keys]; exact nodup_take_not hsn hx2)), List.length_take, Nat.min_eq_left hk2, Nat.zero_add]), (by rw [take_snoc hx2, finF_snoc, hff, if_neg (by rw [isFin, ht87]; decide), List.append_nil]), M⟩, ⟨rfl, trivial⟩, unw_look rfl (unw_hav rfl (unw_look rfl unw_base))⟩
   show sts.length - (k2 + 1) < sts.length - k2
   omega
  have hke2 : k2 = sts.length := by omega
  rw [hke2, List.take_length] at hnn hff
  refine wc_exit rfl ?_
  refine wc_seq ?_
  refine wc_region ?_
  refine wl_mv M rfl rfl ?_
  refine wl_m M (q_fa fo_25_1 rfl) rfl rfl ?_
  refine wl_m M (q_ldb 8 Tryz.underlying3 rfl rfl rfl rfl) rfl rfl ?_
  refine wl_m M (q_fa fo_25_1 rfl) rfl rfl ?_
  refine wl_m M (q_ldb 7 Tryz.underlying3 rfl rfl rfl rfl) rfl rfl ?_
  refine wl_m M (q_build (bd_117_0_1 _ _) ⟨⟨rfl, rfl⟩, ⟨rfl, rfl⟩, trivial⟩) rfl rfl ?_
  refine wl_m M (q_lk (k := (Pair.mk a.start b.start)) (z := 0) 3 rfl Tryz.underlying123 zv3 rfl rfl) rfl rfl ?_
  refine wl_m M (q_fa fo_25_1 rfl) rfl rfl ?_
  refine wl_e0 (e_stb 2 M rfl rfl rfl sz3 rfl rfl) rfl ?_
  intro _ w29 M
  simp only [sC0, sCS] at M
  refine wl_nil ?_
  refine wc_seq ?_
  refine wc_seq ?_
  refine wc_region ?_
  refine wl_mv M rfl rfl ?_
  refine wl_m M (q_lenR (R29.mono hJ36) Tryz.underlying111 rfl) rfl rfl ?_
  refine wl_mv M rfl rfl ?_
  refine wl_nil ?_
  refine wc_block ?_
  refine wc_loop (α := Nat × SV × (List Arc)) [16, 105, 106, 107, 108, 109, 110, 111, 112, 113, 114, 115, 116, 117, 118, 119, 120, 121, 122, 123, 124, 125, 126, 127, 128, 129, 130, 131, 132, 133, 134, 135, 136, 137] (fun ((k4, u_a_4, l_a_4) : Nat × SV × (List Arc)) => [(105, .int .i64 (k4 : Int))])
    (fun ((k4, u_a_4, l_a_4) : Nat × SV × (List Arc)) w' => (k4 ≤ (K.flatMap (compE a b)).length) ∧ (l_a_4 = ((K.flatMap (compE a b)).take k4).flatMap (arcF sts U)) ∧ Mem w I J36 (row EArc (sv u_a_4) l_a_4 :: row EInt (sv u_f_2) l_f_2 :: box b12 25 [.int .i64 (sts.length : Int), .int .i64 ((aget m_62_2 (Pair.mk a.start b.start)).getD 0), sv u_f_2, sv u_a_4] :: mpr QPair (Value.int .i64) b62 m_62_2 :: itr r51 mb51 (tr U) dn_51_0 :: row EPair (sv u_9_0) sts :: box b4 25 [.int .i64 0, .int .i64 0, .slice none 0 0, .slice none 0 0] :: box b3 25 [.int .i64 b.states, .int .i64 b.start, sv fu2, sv au2] :: box b2 25 [.int .i64 a.states, .int .i64 a.start, sv fu1, sv au1] :: []) w')
    (fun ((k4, u_a_4, l_a_4) : Nat × SV × (List Arc)) => (K.flatMap (compE a b)).length - k4) (0, nilV, []) ⟨rfl, trivial⟩ ?_ ?_
  ·refine ⟨Nat.zero_le _, rfl, ?_⟩
   exact M
  rintro ⟨k4, u_a_4, l_a_4⟩ jj4 w30 ⟨hk4, haa, M⟩
  have hoJ36 := M.old
  refine wc_seq ?_
  refine wc_region ?_
  refine wl_m M (q_lss rfl rfl) rfl rfl ?_
  refine wl_nil ?_
  refine wc_seq ?_
  refine wc_dec rfl (fun ht106 => ?_) (fun ht106 => ?_)
  ·obtain ⟨x4, hx4⟩ : ∃ x_, (K.flatMap (compE a b))[k4]? = some x_ := ⟨_, List.getElem?_eq_getElem (by omega)⟩
   have hll4 := ((R29.mono hJ36)).len_le
   refine wc_skip ?_
   refine wc_seq ?_
   refine wc_block ?_
   refine wc_seq ?_
   refine wc_region ?_
   refine wl_ix (j := k4) M (R29.mono hJ36) Tryz.underlying111 rfl rfl hx4 rfl (fun b107 o107 p107 => ?_)
   refine wl_m M (q_ldp p107 rfl rfl) rfl rfl ?_
   refine wl_e (e_alloc M z125) rfl rfl ?_
   rintro _ w31 ⟨b16, rfl, M⟩
   refine wl_e0 (e_stW 0 M rfl rfl rfl sz125 rfl rfl) rfl ?_
   intro _ w32 M
   simp only [sC0, sCS] at M
   refine wl_nil ?_
   refine wc_seq ?_
   refine wc_join (α := Unit) [109, 110, 111, 112, 113, 114, 115, 116, 117, 118] (fun _ => [(118, .bool (((aget (tr U) x4.src).getD false) && ((aget (tr U) x4.dst).getD false)))]) (fun _ w' => Mem w I J36 (box b16 125 [.int .i64 x4.src.p, .int .i64 x4.src.q, .int .i64 x4.dst.p, .int .i64 x4.dst.q, .int .i32 x4.inp, .int .i32 x4.out] :: row EArc (sv u_a_4) l_a_4 :: row EInt (sv u_f_2) l_f_2 :: box b12 25 [.int .i64 (sts.length : Int), .int .i64 ((aget m_62_2 (Pair.mk a.start b.start)).getD 0), sv u_f_2, sv u_a_4] :: mpr QPair (Value.int .i64) b62 m_62_2 :: itr r51 mb51 (tr U) dn_51_0 :: row EPair (sv u_9_0) sts :: box b4 25 [.int .i64 0, .int .i64 0, .slice none 0 0, .slice none 0 0] :: box b3 25 [.int .i64 b.states, .int .i64 b.start, sv fu2, sv au2] :: box b2 25 [.int .i64 a.states, .int .i64 a.start, sv fu1, sv au1] :: []) w') ?_ ?_
   ·refine wc_region ?_
    refine wl_mv M rfl rfl ?_
    refine wl_m M (q_fa fo_125_0 rfl) rfl rfl ?_
    refine wl_m M (q_ldbA 0 Tryz.underlying117 rfl sz117 rfl rfl rfl rfl) rfl rfl ?_
    refine wl_m M (q_lkI (k := x4.src) (z := false) RU Tryz.underlying112 zv4 rfl rfl) rfl rfl ?_
    refine wl_mv M rfl rfl ?_
    rcases Bool.eq_false_or_eq_true ((aget (tr U) x4.src).getD false) with hg113 | hg113
    ·refine wl_m M (q_guard 4 rfl rfl rfl hg113 (q_move rfl)) rfl rfl ?_
     refine wl_m M (q_guard 4 rfl rfl rfl hg113 (q_fa fo_125_1 rfl)) rfl rfl ?_
     refine wl_m M (q_guard 4 rfl rfl rfl hg113 (q_ldbA 0 Tryz.underlying117 rfl sz117 rfl rfl rfl rfl)) rfl rfl ?_
     refine wl_m M (q_guard 4 rfl rfl rfl hg113 (q_lkI (k := x4.dst) (z := false) RU Tryz.underlying112 zv4 rfl rfl)) rfl rfl ?_
     refine wl_m M (q_pickT rfl hg113 rfl) rfl rfl ?_
     refine wl_nil ?_
     exact ⟨(), M, ⟨(show some (Value.bool ((aget (tr U) x4.dst).getD false)) = some (Value.bool (((aget (tr U) x4.src).getD false) && ((aget (tr U) x4.dst).getD false))) from by first | (simp only [hg113, Bool.true_or, Bool.false_or, Bool.true_and, Bool.false_and, Bool.or_true, Bool.or_false, Bool.and_true, Bool.and_false]; done) | (simp_all; done) | (simp_all; omega)), trivial⟩, unw_take 10 rfl rfl⟩
    refine wl_m M (q_off 4 rfl rfl rfl hg113) rfl rfl ?_
    refine wl_m M (q_off 4 rfl rfl rfl hg113) rfl rfl ?_
    refine wl_m M (q_off 4 rfl rfl rfl hg113) rfl rfl ?_
    refine wl_m M (q_off 4 rfl rfl rfl hg113) rfl rfl ?_
    refine wl_m M (q_pickF rfl hg113 rfl) rfl rfl ?_
    refine wl_nil ?_
    exact ⟨(), M, ⟨(show some (Value.bool false) = some (Value.bool (((aget (tr U) x4.src).getD false) && ((aget (tr U) x4.dst).getD false))) from by first | (simp only [hg113, Bool.true_or, Bool.false_or, Bool.true_and, Bool.false_and, Bool.or_true, Bool.or_false, Bool.and_true, Bool.and_false]; done) | (simp_all; done) | (simp_all; omega)), trivial⟩, unw_take 10 rfl rfl⟩
   rintro _ jr28 w33 M
   refine wc_cond rfl (fun ht118 => ?_) (fun ht118 => ?_)
   ·refine wc_draws (fun w' => Mem w I J36 (box b16 125 [.int .i64 x4.src.p, .int .i64 x4.src.q, .int .i64 x4.dst.p, .int .i64 x4.dst.q, .int .i32 x4.inp, .int .i32 x4.out] :: row EInt (sv u_f_2) l_f_2 :: box b12 25 [.int .i64 (sts.length : Int), .int .i64 ((aget m_62_2 (Pair.mk a.start b.start)).getD 0), sv u_f_2, sv u_a_4] :: mpr QPair (Value.int .i64) b62 m_62_2 :: itr r51 mb51 (tr U) dn_51_0 :: row EPair (sv u_9_0) sts :: box b4 25 [.int .i64 0, .int .i64 0, .slice none 0 0, .slice none 0 0] :: box b3 25 [.int .i64 b.states, .int .i64 b.start, sv fu2, sv au2] :: box b2 25 [.int .i64 a.states, .int .i64 a.start, sv fu1, sv au1] :: []) w' ∧ True) [18] fol ?_
    replace M := M.drew
    have hS := (⟨(M.drop 1), trivial⟩ : _ ∧ _)
    refine wa_q 0 rfl (by kernel_rfl) (q_fa fo_25_3 rfl) hS rfl rfl ?_
    refine wa_q 1 rfl (by kernel_rfl) ((q_ldb 2 Tryz.underlying23 rfl rfl rfl rfl).mono fun _ h => h.1) hS rfl rfl ?_
    refine wa_q 2 rfl (by kernel_rfl) (q_move rfl) hS rfl rfl ?_
    refine wa_q 3 rfl (by kernel_rfl) (q_fa fo_125_0 rfl) hS rfl rfl ?_
    refine wa_q 4 rfl (by kernel_rfl) ((q_ldbA 0 Tryz.underlying117 rfl sz117 rfl rfl rfl rfl).mono fun _ h => h.1) hS rfl rfl ?_
    refine wa_q 5 rfl (by kernel_rfl) ((q_lk (k := x4.src) (z := 0) 3 rfl Tryz.underlying123 zv3 rfl rfl).mono fun _ h => h.1) hS rfl rfl ?_
    refine wa_q 6 rfl (by kernel_rfl) (q_move rfl) hS rfl rfl ?_
    refine wa_q 7 rfl (by kernel_rfl) (q_fa fo_125_1 rfl) hS rfl rfl ?_
    refine wa_q 8 rfl (by kernel_rfl) ((q_ldbA 0 Tryz.underlying117 rfl sz117 rfl rfl rfl rfl).mono fun _ h => h.1) hS rfl rfl ?_
    refine wa_q 9 rfl (by kernel_rfl) ((q_lk (k := x4.dst) (z := 0) 3 rfl Tryz.underlying123 zv3 rfl rfl).mono fun _ h => h.1) hS rfl rfl ?_
    refine wa_q 10 rfl (by kernel_rfl) (q_fa fo_125_2 rfl) hS rfl rfl ?_
    refine wa_q 11 rfl (by kernel_rfl) ((q_ldb 0 Tryz.underlying21 rfl rfl rfl rfl).mono fun _ h => h.1) hS rfl rfl ?_
    refine wa_q 12 rfl (by kernel_rfl) (q_fa fo_125_3 rfl) hS rfl rfl ?_
    refine wa_q 13 rfl (by kernel_rfl) ((q_ldb 0 Tryz.underlying21 rfl rfl rfl rfl).mono fun _ h => h.1) hS rfl rfl ?_
    refine wa_q 14 rfl (by kernel_rfl) (q_build (bd_51_0_1_2_3 _ _ _ _) ⟨⟨rfl, rfl⟩, ⟨rfl, rfl⟩, ⟨rfl, rfl⟩, ⟨rfl, rfl⟩, trivial⟩) hS rfl rfl ?_
    refine wa_e 15 rfl (by kernel_rfl) (e_bsI (E := EArc) (xs := [(Arc.mk ((aget m_62_2 x4.src).getD 0) ((aget m_62_2 x4.dst).getD 0) x4.inp x4.out)]) M (bs_23_1 _ _ _ _) ⟨⟨rfl, rfl⟩, trivial⟩ rfl rfl (by decide)) rfl rfl ?_
    rintro _ w34 ⟨u134, J134, rfl, hJ134, R134, M⟩
    have hoJ134 := M.old
    have hS := (⟨((M.less hJ134 hoJ36).drop 1), trivial⟩ : _ ∧ _)
    refine ⟨fun _ => hS, ?_⟩
    refine wa_e 16 rfl (by kernel_rfl) (e_app 1 M rfl R134 Tryz.underlying23 rfl rfl (by have := take_flat_len (arcF_len sts U) (K.flatMap (compE a b)) k4; rw [haa]; show (_ + 1) * 24 ≤ _; omega)) rfl rfl ?_
    rintro _ w35 ⟨u135, rfl, M⟩
    simp only [sC0, sCS] at M
    have hS := (⟨((M.less hJ134 hoJ36).drop 1), trivial⟩ : _ ∧ _)
    refine ⟨fun _ => hS, ?_⟩
    replace M := M.less hJ134 hoJ36
    refine wa_q 17 rfl (by kernel_rfl) (q_fa fo_25_3 rfl) hS rfl rfl ?_
    refine wa_e0 18 rfl (by kernel_rfl) (e_stb 3 M rfl rfl rfl sz23 rfl rfl) rfl ?_
    intro _ w36 M
    simp only [sC0, sCS] at M
    refine ⟨nofun, ?_⟩
    refine wa_done (by kernel_rfl) ?_
    refine wc_region ?_
    refine wl_m M (q_add rfl rfl (IntWalk.i64_in _ (by omega))) rfl rfl ?_
    refine wl_mv M rfl rfl ?_
    refine wl_nil ?_
    replace M := M.drop 0
    refine ⟨(k4 + 1, u135, l_a_4 ++ [(Arc.mk ((aget m_62_2 x4.src).getD 0) ((aget m_62_2 x4.dst).getD 0) x4.inp x4.out)]), ?_, ⟨(by omega), (by rw [take_flat hx4, haa, arcF, if_pos (by simpa only [aget_tr] using ht118)]; simp only [num, ← hnn]), M⟩, ⟨rfl, trivial⟩, unw_look rfl (unw_hav rfl (unw_look rfl unw_base))⟩
    show (K.flatMap (compE a b)).length - (k4 + 1) < (K.flatMap (compE a b)).length - k4
    omega
   refine wc_skip ?_
   refine wc_region ?_
   refine wl_m M (q_add rfl rfl (IntWalk.i64_in _ (by omega))) rfl rfl ?_
   refine wl_mv M rfl rfl ?_
   refine wl_nil ?_
   replace M := M.drop 0
   refine ⟨(k4 + 1, u_a_4, l_a_4), ?_, ⟨(by omega), (by rw [take_flat hx4, haa, arcF, if_neg (by simp only [aget_tr] at ht118; rw [ht118]; decide), List.append_nil]), M⟩, ⟨rfl, trivial⟩, unw_look rfl (unw_hav rfl (unw_look rfl unw_base))⟩
   show (K.flatMap (compE a b)).length - (k4 + 1) < (K.flatMap (compE a b)).length - k4
   omega
  have hke4 : k4 = (K.flatMap (compE a b)).length := by omega
  rw [hke4, List.take_length] at haa
  have hca : cmpArcs a b K U = dedupC (srtA l_a_4) := by rw [cmpArcs, haa, hsts]
  refine wc_exit rfl ?_
  refine wc_seq ?_
  refine wc_region ?_
  refine wl_m M (q_fa fo_25_3 rfl) rfl rfl ?_
  refine wl_m M (q_ldb 2 Tryz.underlying23 rfl rfl rfl rfl) rfl rfl ?_
  refine wl_e (e_callR Tryz.func58 rfl (vs := [sv u_a_4, .func (.func 59) #[] #[]]) rfl (sortA_c 0 M rfl (by have := flat_len (arcF_len sts U) (K.flatMap (compE a b)); rw [haa]; omega))) rfl rfl ?_
  rintro _ w37 M
  simp only [sC0, sCS] at M
  refine wl_nil ?_
  refine wc_seq ?_
  refine wc_region ?_
  refine wl_m M (q_fa fo_25_3 rfl) rfl rfl ?_
  refine wl_m M (q_ldb 2 Tryz.underlying23 rfl rfl rfl rfl) rfl rfl ?_
  refine wl_e (e_callO (val := sv) Tryz.func61 rfl (vs := [sv u_a_4]) rfl (at_place (fun _ M => compact_c (by have := flat_len (arcF_len sts U) (K.flatMap (compE a b)); rw [srtA_len, haa]; omega) M) M 0 rfl)) rfl rfl ?_
  rintro _ w38 ⟨u143, rfl, M⟩
  simp only [sC0, sCS] at M
  refine wl_e (e_callO (val := sv) Tryz.func60 rfl (vs := [sv u143]) rfl (at_place (fun _ M => clip_c M) M 0 rfl)) rfl rfl ?_
  rintro _ w39 ⟨u144, rfl, M⟩
  simp only [sC0, sCS] at M
  refine wl_m M (q_fa fo_25_3 rfl) rfl rfl ?_
  refine wl_e0 (e_stb 2 M rfl rfl rfl sz23 rfl rfl) rfl ?_
  intro _ w40 M
  simp only [sC0, sCS] at M
  refine wl_nil ?_
  refine wc_seq ?_
  refine wc_seq ?_
  refine wc_region ?_
  refine wl_m M (q_fa fo_25_3 rfl) rfl rfl ?_
  refine wl_m M (q_ldb 2 Tryz.underlying23 rfl rfl rfl rfl) rfl rfl ?_
  refine wl_m M (q_lenr 0 M rfl Tryz.underlying23 rfl) rfl rfl ?_
  refine wl_m M (q_gtr rfl rfl) rfl rfl ?_
  refine wl_nil ?_
  refine wc_dec rfl (fun ht149 => ?_) (fun ht149 => ?_)
  ·refine wc_seq ?_
   refine wc_region ?_
   refine wl_m M (q_build (bd_25) trivial) rfl rfl ?_
   refine wl_e0 (e_stW 6 M rfl rfl rfl sz25 rfl rfl) rfl ?_
   intro _ w41 M
   simp only [sC0, sCS] at M
   refine wl_as M rfl rfl ?_
   refine wl_nil ?_
   refine wc_ret ?_
   refine outc2 rfl rfl (load_boxA M 6 Tryz.underlying25 rfl sz25 rfl rfl rfl) rfl ⟨_, _, rfl, M.grow, _, zeroTra, 2, rfl, ⟨nilV, nilV, rfl, rdSl_nil _, rdSl_nil _⟩, ?_⟩
   rw [CmpRes, if_neg (by rw [ht24]; decide)]
   exact ⟨K, U, hK, hU, by rw [if_neg (fun h => h hst), if_neg (by omega), if_pos (by rw [hca]; omega)]; exact ⟨rfl, rfl⟩⟩
  refine wc_skip ?_
  refine wc_seq ?_
  refine wc_region ?_
  refine wl_m M (q_ldbA 2 Tryz.underlying25 rfl sz25 rfl rfl rfl rfl) rfl rfl ?_
  refine wl_e0 (e_stW 6 M rfl rfl rfl sz25 rfl rfl) rfl ?_
  intro _ w42 M
  simp only [sC0, sCS] at M
  refine wl_as M rfl rfl ?_
  refine wl_nil ?_
  refine wc_ret ?_
  obtain ⟨K1, M, hK1, Rk1⟩ := M.frzRow 1 rfl
  obtain ⟨K2, M, hK2, Rk2⟩ := M.frzRow 0 rfl
  have ht : (Tra.mk (sts.length : Int) ((aget m_62_2 (Pair.mk a.start b.start)).getD 0) l_f_2 (dedupC (srtA l_a_4))) = cmpTra a b K U := by rw [cmpTra, hca, num, ← hsts, hff, hnn, hsl]
  refine outc2 rfl rfl (load_boxA M 4 Tryz.underlying25 rfl sz25 rfl rfl rfl) rfl ⟨_, K2, rfl, (M.grow : Grow w I _ K2), _, Tra.mk (sts.length : Int) ((aget m_62_2 (Pair.mk a.start b.start)).getD 0) l_f_2 (dedupC (srtA l_a_4)), 0, rfl, ⟨_, _, rfl, Rk1.mono hK2, Rk2⟩, ?_⟩
  rw [ht, CmpRes, if_neg (by rw [ht24]; decide)]
  exact ⟨K, U, hK, hU, by rw [if_neg (fun h => h hst), if_neg (by omega), if_neg (by rw [hca]; omega)]; exact ⟨rfl, rfl⟩⟩
 simp only [sC0, sCS] at M
 refine wl_m M (q_ext rfl rfl) rfl rfl ?_
 refine wl_nil ?_
 refine wc_seq ?_
 refine wc_true rfl ?_
 refine wc_skip ?_
 refine wc_block ?_
 refine wc_seq ?_
 refine wc_region ?_
 refine wl_m M (q_ent (Q := QPair) (V := Value.bool) 0 (fun w M => M.imm _ _ (RU).at_) rfl rfl) rfl rfl ?_
 refine wl_m M (q_ext rfl rfl) rfl rfl ?_
 refine wl_e (e_alloc M z117) rfl rfl ?_
 rintro _ w43 ⟨b10, rfl, M⟩
 refine wl_e0 (e_stW 0 M rfl rfl rfl sz117 rfl rfl) rfl ?_
 intro _ w44 M
 simp only [sC0, sCS] at M
 refine wl_nil ?_
 refine wc_region ?_
 refine wl_mv M rfl rfl ?_
 refine wl_m M (q_ldbA 0 Tryz.underlying117 rfl sz117 rfl rfl rfl rfl) rfl rfl ?_
 refine wl_e (e_bsI (E := EPair) (xs := [p51.1]) M (bs_118_1 _ _) ⟨⟨rfl, rfl⟩, trivial⟩ rfl rfl (by decide)) rfl rfl ?_
 rintro _ w45 ⟨u58, J58, rfl, hJ58, R58, M⟩
 have hoJ58 := M.old
 refine wl_e (e_app 2 M rfl R58 Tryz.underlying118 rfl rfl (by rw [hr9, List.length_map]; have := hpl11; rw [tr_len] at this; show (_ + 1) * 16 ≤ _; omega)) rfl rfl ?_
 rintro _ w46 ⟨u59, rfl, M⟩
 replace M := M.less hJ58 hoJ36
 simp only [sC0, sCS] at M
 refine wl_as M rfl rfl ?_
 refine wl_nil ?_
 replace M := M.drop 0
 refine ⟨(dn_51_0 ++ [p51], u59, l_9_0 ++ [p51.1]), ?_, ⟨(by rw [hr9, List.map_append]; rfl), M⟩, ⟨rfl, trivial⟩, unw_look rfl unw_base⟩
 show (tr U).length - (dn_51_0 ++ [p51]).length < (tr U).length - dn_51_0.length
 rw [List.length_append, List.length_singleton]; omega
end Go.Proofs.YtmjieefhjmiagaaGreatDoor.G
