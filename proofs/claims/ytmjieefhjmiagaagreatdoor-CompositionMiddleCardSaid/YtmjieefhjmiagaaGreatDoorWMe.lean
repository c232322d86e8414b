/- Walks of the program's functions. -/
import Derived.Test.YtmjieefhjmiagaaGreatDoorWMd
import Derived.Test.YtmjieefhjmiagaaGreatDoorWMb
import Derived.Test.YtmjieefhjmiagaaGreatDoorWU
set_option linter.all false
namespace Go.Proofs.YtmjieefhjmiagaaGreatDoor.G
open Go Go.RowKit
set_option maxRecDepth 4000 in
set_option maxHeartbeats 2000000 in
theorem middleC_c (a b : Tra) (x z : ByteArray) (nI : Int) (hx : x.size ≤ 70368744177664) (hz : z.size ≤ 70368744177664) (hfew : a.states ≤ 5 ∧ a.arcs.length ≤ 12 ∧ b.states ≤ 5 ∧ b.arcs.length ≤ 12) {v1 v2 : Value} {I : Heap} {w : World} (hI : hle I (hp w)) (hT : Tabs I) (R1 : a.rd I v1) (R2 : b.rd I v2) :
    Calls A 12 #[v1, v2, .string x, .string z, .int .i64 nI] w (Ret w I fun r I' => ∃ (u : SV) (out : List ByteArray) (e : Int), r = .tuple #[sv u, .int .i64 e] ∧ rdSl EStr I' (sv u) out ∧ MidOut a b x z nI out e) := by
 obtain ⟨fu1, au1, rfl, Rf1, Ra1⟩ := R1
 obtain ⟨fu2, au2, rfl, Rf2, Ra2⟩ := R2
 have M := Mem.start hI
 refine enter Tryz.func12 rfl 108 Tryz.ntmps12 [_, _, _, _, _] rfl ?_
 refine wc_seq ?_
 refine wc_region ?_
 refine wl_e (e_box M rfl) rfl rfl ?_
 rintro _ w1 ⟨b5, rfl, M⟩
 refine wl_e (e_box M rfl) rfl rfl ?_
 rintro _ w2 ⟨b6, rfl, M⟩
 refine wl_as M rfl rfl ?_
 refine wl_as M rfl rfl ?_
 refine wl_nil ?_
 refine wc_seq ?_
 refine wc_region ?_
 refine wl_m M (q_ldbA 1 Tryz.underlying25 rfl sz25 rfl rfl rfl rfl) rfl rfl ?_
 refine wl_m M (q_ldbA 0 Tryz.underlying25 rfl sz25 rfl rfl rfl rfl) rfl rfl ?_
 refine wl_mv M rfl rfl ?_
 refine wl_mv M rfl rfl ?_
 refine wl_e (e_callC M (newBetween_c a b x z hx hz M.imm hT ⟨_, _, rfl, Rf1, Ra1⟩ ⟨_, _, rfl, Rf2, Ra2⟩) Tryz.func25 rfl rfl) rfl rfl ?_
 rintro _ w3 ⟨J27, hJ27, ⟨pv, rfl, hnb⟩, M⟩
 have hoJ27 := M.old
 refine wl_mv M rfl rfl ?_
 refine wl_m M (q_ext rfl rfl) rfl rfl ?_
 refine wl_m M (q_ext rfl rfl) rfl rfl ?_
 refine wl_as M rfl rfl ?_
 refine wl_as M rfl rfl ?_
 refine wl_nil ?_
 refine wc_seq ?_
 refine wc_seq ?_
 refine wc_join (α := Unit) [30, 31, 32, 33, 34, 35] (fun _ => [(35, .bool ((decide (nI < 0)) || (decide (40 < nI))))]) (fun _ w' => Mem w I J27 (box b6 25 [.int .i64 b.states, .int .i64 b.start, sv fu2, sv au2] :: box b5 25 [.int .i64 a.states, .int .i64 a.start, sv fu1, sv au1] :: []) w') ?_ ?_
 ·refine wc_region ?_
  refine wl_mv M rfl rfl ?_
  refine wl_m M (q_lss rfl rfl) rfl rfl ?_
  refine wl_mv M rfl rfl ?_
  rcases Bool.eq_false_or_eq_true (decide (nI < 0)) with hg32 | hg32
  ·refine wl_m M (q_off 2 rfl rfl rfl hg32) rfl rfl ?_
   refine wl_m M (q_off 2 rfl rfl rfl hg32) rfl rfl ?_
   refine wl_m M (q_pickT rfl hg32 rfl) rfl rfl ?_
   refine wl_nil ?_
   exact ⟨(), M, ⟨(show some (Value.bool true) = some (Value.bool ((decide (nI < 0)) || (decide (40 < nI)))) from by first | (simp only [hg32, Bool.true_or, Bool.false_or, Bool.true_and, Bool.false_and, Bool.or_true, Bool.or_false, Bool.and_true, Bool.and_false]; done) | (simp_all; done) | (simp_all; omega)), trivial⟩, unw_take 6 rfl rfl⟩
  refine wl_m M (q_guard 2 rfl rfl rfl hg32 (q_move rfl)) rfl rfl ?_
  refine wl_m M (q_guard 2 rfl rfl rfl hg32 (q_gtr rfl rfl)) rfl rfl ?_
  refine wl_m M (q_pickF rfl hg32 rfl) rfl rfl ?_
  refine wl_nil ?_
  exact ⟨(), M, ⟨(show some (Value.bool (decide (40 < nI))) = some (Value.bool ((decide (nI < 0)) || (decide (40 < nI)))) from by first | (simp only [hg32, Bool.true_or, Bool.false_or, Bool.true_and, Bool.false_and, Bool.or_true, Bool.or_false, Bool.and_true, Bool.and_false]; done) | (simp_all; done) | (simp_all; omega)), trivial⟩, unw_take 6 rfl rfl⟩
 rintro _ jr2 w4 M
 refine wc_cond rfl (fun ht35 => ?_) (fun ht35 => ?_)
 ·refine wc_seq ?_
  refine wc_region ?_
  refine wl_as M rfl rfl ?_
  refine wl_as M rfl rfl ?_
  refine wl_nil ?_
  refine wc_ret ?_
  exact out2 rfl rfl rfl ⟨_, _, rfl, M.grow, nilV, [], 1, rfl, rdSl_nil _, mid_bad ht35⟩
 have hg0 := ht35
 rw [Bool.or_eq_false_iff] at ht35
 have hn0 : ¬ nI < 0 := of_decide_eq_false ht35.1
 have hn1 : ¬ 40 < nI := of_decide_eq_false ht35.2
 have hnn : ((nI.toNat : Nat) : Int) = nI := Int.toNat_of_nonneg (by omega)
 refine wc_skip ?_
 refine wc_seq ?_
 refine wc_seq ?_
 refine wc_region ?_
 refine wl_mv M rfl rfl ?_
 refine wl_m M (q_neq rfl rfl) rfl rfl ?_
 refine wl_nil ?_
 refine wc_cond rfl (fun ht37 => ?_) (fun ht37 => ?_)
 ·refine wc_seq ?_
  refine wc_region ?_
  refine wl_mv M rfl rfl ?_
  refine wl_as M rfl rfl ?_
  refine wl_as M rfl rfl ?_
  refine wl_nil ?_
  refine wc_ret ?_
  exact out2 rfl rfl rfl ⟨_, _, rfl, M.grow, nilV, [], _, rfl, rdSl_nil _, mid_err hg0 (nd_t ht37)⟩
 have h0 : btwE a b x z = 0 := nd_f ht37
 obtain ⟨m, n, sb, ha, hb, rfl, fb1, ab1, fb2, ab2, ux, uz, uf, ut, hBB⟩ := hnb h0
 have hB0 : BtwH J27 sb m n a b (runesL x) (runesL z) fb1 ab1 fb2 ab2 ux uz uf ut := hBB
 have Hs := hBB.1
 obtain ⟨hlx, hlz⟩ := chk_short (btw_ok h0).2
 obtain ⟨hf1, hf2, hf3, hf4⟩ := hfew
 have hF : FewB a b (runesL x) (runesL z) m n := ⟨ha, hb, hf2, hf4, by have := ha.st; omega, by have := hb.st; omega, hlx, hlz⟩
 refine wc_skip ?_
 refine wc_seq ?_
 refine wc_region ?_
 refine wl_mv M rfl rfl ?_
 refine wl_e (e_callC M (distancesC_c M.imm hF hB0) Tryz.func26 rfl rfl) rfl rfl ?_
 rintro v40 w5 ⟨J40, hJ40, ⟨dist, Rd, hdk, hdl, hdr⟩, M⟩
 obtain ⟨bd, rfl, hbd⟩ := Rd
 have Rd : rdMp QConfig (Value.int .i64) J40 (.map (some bd)) dist := ⟨bd, rfl, hbd⟩
 have hoJ40 := M.old
 refine wl_as M rfl rfl ?_
 refine wl_nil ?_
 refine wc_seq ?_
 refine wc_region ?_
 refine wl_as M rfl rfl ?_
 replace M := M.nilRow EStr
 refine wl_nil ?_
 refine wc_seq ?_
 refine wc_region ?_
 refine wl_mv M rfl rfl ?_
 refine wl_m M (q_fa fo_25_1 rfl) rfl rfl ?_
 refine wl_m M (q_ldb 2 Tryz.underlying3 rfl rfl rfl rfl) rfl rfl ?_
 refine wl_m M (q_fa fo_25_1 rfl) rfl rfl ?_
 refine wl_m M (q_ldb 1 Tryz.underlying3 rfl rfl rfl rfl) rfl rfl ?_
 refine wl_m M (q_build (bd_63_0_2 _ _) ⟨⟨rfl, rfl⟩, ⟨rfl, rfl⟩, trivial⟩) rfl rfl ?_
 refine wl_e (e_bsR (E := EConfig) (xs := [(Config.mk a.start 0 b.start 0)]) M (bs_64_1 _ _ _ _) ⟨⟨rfl, rfl⟩, trivial⟩ rfl rfl (by decide)) rfl rfl ?_
 rintro _ w6 ⟨u47, rfl, M⟩
 refine wl_mv M rfl rfl ?_
 refine wl_mv M rfl rfl ?_
 refine wl_e (e_callR Tryz.func27 rfl (vs := [.pointer (some ⟨sb, 0, none⟩), sv u47, (.map (some bd)), .int .i64 nI]) rfl (closureC_c hdl hdr (by simp) hF (hB0.mono hJ40) Rd M)) rfl rfl ?_
 rintro _ w7 ⟨b50, K50, rfl, ⟨hn50, hl50, hK50⟩, M⟩
 obtain ⟨I50, M, hI50, R50⟩ := M.frzMp 0 rfl
 have hoI50 := M.old
 have hsr0 := sr_zeroE hdk (n := nI.toNat) (cs := K50) (fun c => by rw [hK50 c, hnn])
 have hKr : ∀ c ∈ K50, c ∈ rect4 m (runesL x).length n (runesL z).length := fun c hc => hdr c _ (clo_ok ((hK50 c).1 hc))
 refine wl_m M (q_build (bd_66_0_1 _ _) ⟨⟨rfl, rfl⟩, ⟨rfl, rfl⟩, trivial⟩) rfl rfl ?_
 refine wl_e (e_bsR (E := ECPre) (xs := [CPre.mk ⟨#[]⟩ b50]) M (bs_67_1 _ _) ⟨⟨rfl, rfl⟩, trivial⟩ rfl rfl (by decide)) rfl rfl ?_
 rintro _ w8 ⟨u52, rfl, M⟩
 refine wl_as M rfl rfl ?_
 refine wl_nil ?_
 refine wc_seq ?_
 refine wc_seq ?_
 refine wc_region ?_
 refine wl_as M rfl rfl ?_
 refine wl_nil ?_
 refine wc_block ?_
 refine wc_loop (α := Heap × Nat × (List (List Int × List Config)) × (List (List Int)) × SV × (List CPre) × SV × (List ByteArray)) [10, 11, 15, 16, 17, 18, 20, 21, 53, 54, 55, 56, 57, 58, 59, 60, 61, 62, 63, 64, 65, 66, 67, 68, 69, 70, 71, 72, 73, 74, 75, 76, 77, 78, 79, 80, 81, 82, 83, 84, 85, 86, 87, 88, 89, 90, 91, 92, 93, 94, 95, 96, 97, 98, 99, 100, 101, 102, 103, 104, 105, 106] (fun ((Ic, L0, Q0, o0, u_52_0, l_52_0, u_15_0, l_15_0) : Heap × Nat × (List (List Int × List Config)) × (List (List Int)) × SV × (List CPre) × SV × (List ByteArray)) => [(17, .int .i64 (L0 : Int)), (15, sv u_15_0), (16, sv u_52_0)])
   (fun ((Ic, L0, Q0, o0, u_52_0, l_52_0, u_15_0, l_15_0) : Heap × Nat × (List (List Int × List Config)) × (List (List Int)) × SV × (List CPre) × SV × (List ByteArray)) w' => (hle I50 Ic) ∧ (L0 ≤ nI.toNat + 1) ∧ (Sr (bnet a b (runesL x) (runesL z)) (Config.mk a.start 0 b.start 0) nI.toNat L0 Q0 o0) ∧ (CPres Ic l_52_0 Q0) ∧ (l_15_0 = o0.map strL) ∧ (o0.length ≤ 256) ∧ (∀ p ∈ Q0, p.1.length = L0 ∧ p.2.length ≤ 42025 ∧ ∀ c ∈ p.2, c ∈ rect4 m (runesL x).length n (runesL z).length) ∧ (Q0.length ≤ 256) ∧ Mem w I Ic (row ECPre (sv u_52_0) l_52_0 :: row EStr (sv u_15_0) l_15_0 :: box b6 25 [.int .i64 b.states, .int .i64 b.start, sv fu2, sv au2] :: box b5 25 [.int .i64 a.states, .int .i64 a.start, sv fu1, sv au1] :: []) w')
   (fun ((Ic, L0, Q0, o0, u_52_0, l_52_0, u_15_0, l_15_0) : Heap × Nat × (List (List Int × List Config)) × (List (List Int)) × SV × (List CPre) × SV × (List ByteArray)) => nI.toNat + 1 - L0) (I50, 0, [([], K50)], [], u52, [CPre.mk ⟨#[]⟩ b50], nilV, []) ⟨rfl, rfl, rfl, trivial⟩ ?_ ?_
 ·refine ⟨hle.refl _, Nat.zero_le _, hsr0, ⟨⟨rfl, R50⟩, trivial⟩, rfl, (by simp), (fun p hp => by rw [List.mem_singleton.1 hp]; exact ⟨rfl, hl50, hKr⟩), (by simp), ?_⟩
  exact M
 rintro ⟨Ic, L0, Q0, o0, u_52_0, l_52_0, u_15_0, l_15_0⟩ jj0 w9 ⟨hIc, hL0, hSr, hP, ho, hob, hQb, hQn, M⟩
 have hoIc := M.old
 refine wc_seq ?_
 refine wc_seq ?_
 refine wc_join (α := Unit) [53, 54, 55, 56, 57, 58, 59, 60] (fun _ => [(60, .bool ((decide ((L0 : Int) ≤ nI)) && (decide (0 < (l_52_0.length : Int)))))]) (fun _ w' => Mem w I Ic (row ECPre (sv u_52_0) l_52_0 :: row EStr (sv u_15_0) l_15_0 :: box b6 25 [.int .i64 b.states, .int .i64 b.start, sv fu2, sv au2] :: box b5 25 [.int .i64 a.states, .int .i64 a.start, sv fu1, sv au1] :: []) w') ?_ ?_
 ·refine wc_region ?_
  refine wl_mv M rfl rfl ?_
  refine wl_mv M rfl rfl ?_
  refine wl_m M (q_leq rfl rfl) rfl rfl ?_
  refine wl_mv M rfl rfl ?_
  rcases Bool.eq_false_or_eq_true (decide ((L0 : Int) ≤ nI)) with hg56 | hg56
  ·refine wl_m M (q_guard 3 rfl rfl rfl hg56 (q_move rfl)) rfl rfl ?_
   refine wl_m M (q_guard 3 rfl rfl rfl hg56 (q_lenr 0 M rfl Tryz.underlying67 rfl)) rfl rfl ?_
   refine wl_m M (q_guard 3 rfl rfl rfl hg56 (q_gtr rfl rfl)) rfl rfl ?_
   refine wl_m M (q_pickT rfl hg56 rfl) rfl rfl ?_
   refine wl_nil ?_
   exact ⟨(), M, ⟨(show some (Value.bool (decide (0 < (l_52_0.length : Int)))) = some (Value.bool ((decide ((L0 : Int) ≤ nI)) && (decide (0 < (l_52_0.length : Int))))) from by first | (simp only [hg56, Bool.true_or, Bool.false_or, Bool.true_and, Bool.false_and, Bool.or_true, Bool.or_false, Bool.and_true, Bool.and_false]; done) | (simp_all; done) | (simp_all; omega)), trivial⟩, unw_take 8 rfl rfl⟩
  refine wl_m M (q_off 3 rfl rfl rfl hg56) rfl rfl ?_
  refine wl_m M (q_off 3 rfl rfl rfl hg56) rfl rfl ?_
  refine wl_m M (q_off 3 rfl rfl rfl hg56) rfl rfl ?_
  refine wl_m M (q_pickF rfl hg56 rfl) rfl rfl ?_
  refine wl_nil ?_
  exact ⟨(), M, ⟨(show some (Value.bool false) = some (Value.bool ((decide ((L0 : Int) ≤ nI)) && (decide (0 < (l_52_0.length : Int))))) from by first | (simp only [hg56, Bool.true_or, Bool.false_or, Bool.true_and, Bool.false_and, Bool.or_true, Bool.or_false, Bool.and_true, Bool.and_false]; done) | (simp_all; done) | (simp_all; omega)), trivial⟩, unw_take 8 rfl rfl⟩
 rintro _ jr10 w10 M
 refine wc_cond rfl (fun ht60 => ?_) (fun ht60 => ?_)
 ·rw [Bool.and_eq_true] at ht60
  have hLn : (L0 : Int) ≤ nI := of_decide_eq_true ht60.1
  have hPl := hP.len
  refine wc_skip ?_
  refine wc_seq ?_
  refine wc_block ?_
  refine wc_seq ?_
  refine wc_region ?_
  refine wl_as M rfl rfl ?_
  replace M := M.nilRow ECPre
  refine wl_nil ?_
  refine wc_seq ?_
  refine wc_seq ?_
  refine wc_region ?_
  refine wl_mv M rfl rfl ?_
  refine wl_m M (q_lenr 1 M rfl Tryz.underlying67 rfl) rfl rfl ?_
  refine wl_mv M rfl rfl ?_
  refine wl_nil ?_
  refine wc_block ?_
  refine wc_loop (α := Heap × Nat × (List (List Int)) × (List (List Int × List Config)) × SV × (List ByteArray) × SV × (List CPre)) [15, 18, 20, 21, 65, 66, 67, 68, 69, 70, 71, 72, 73, 74, 75, 76, 77, 78, 79, 80, 81, 82, 83, 84, 85, 86, 87, 88, 89, 90, 91, 92, 93, 94, 95, 96, 97] (fun ((Id, k2, o2, q2s, u_15_2, l_15_2, u_18_2, l_18_2) : Heap × Nat × (List (List Int)) × (List (List Int × List Config)) × SV × (List ByteArray) × SV × (List CPre)) => [(65, .int .i64 (k2 : Int)), (15, sv u_15_2), (18, sv u_18_2)])
    (fun ((Id, k2, o2, q2s, u_15_2, l_15_2, u_18_2, l_18_2) : Heap × Nat × (List (List Int)) × (List (List Int × List Config)) × SV × (List ByteArray) × SV × (List CPre)) w' => (hle Ic Id) ∧ (k2 ≤ l_52_0.length) ∧ (SrIn (bnet a b (runesL x) (runesL z)) (Config.mk a.start 0 b.start 0) nI.toNat Q0 o0 k2 o2 q2s) ∧ (CPres Id l_18_2 q2s) ∧ (l_15_2 = o2.map strL) ∧ (o2.length ≤ o0.length + k2 ∧ q2s.length ≤ 12 * k2) ∧ (∀ p ∈ q2s, p.1.length = L0 + 1 ∧ p.2.length ≤ 42025 ∧ ∀ c ∈ p.2, c ∈ rect4 m (runesL x).length n (runesL z).length) ∧ Mem w I Id (row ECPre (sv u_18_2) l_18_2 :: row ECPre (sv u_52_0) l_52_0 :: row EStr (sv u_15_2) l_15_2 :: box b6 25 [.int .i64 b.states, .int .i64 b.start, sv fu2, sv au2] :: box b5 25 [.int .i64 a.states, .int .i64 a.start, sv fu1, sv au1] :: []) w')
    (fun ((Id, k2, o2, q2s, u_15_2, l_15_2, u_18_2, l_18_2) : Heap × Nat × (List (List Int)) × (List (List Int × List Config)) × SV × (List ByteArray) × SV × (List CPre)) => l_52_0.length - k2) (Ic, 0, o0, [], u_15_0, l_15_0, nilV, []) ⟨rfl, rfl, rfl, trivial⟩ ?_ ?_
  ·refine ⟨hle.refl _, Nat.zero_le _, SrIn.init, trivial, ho, (by simp), (by simp), ?_⟩
   exact M
  rintro ⟨Id, k2, o2, q2s, u_15_2, l_15_2, u_18_2, l_18_2⟩ jj2 w11 ⟨hId, hk2, hIn, hP2, ho2, hc2, hQ2, M⟩
  have hoId := M.old
  refine wc_seq ?_
  refine wc_region ?_
  refine wl_m M (q_lss rfl rfl) rfl rfl ?_
  refine wl_nil ?_
  refine wc_seq ?_
  refine wc_dec rfl (fun ht66 => ?_) (fun ht66 => ?_)
  ·obtain ⟨x2, hx2⟩ : ∃ x_, l_52_0[k2]? = some x_ := ⟨_, List.getElem?_eq_getElem (by omega)⟩
   obtain ⟨q2, hq2, hpq⟩ := CPres.at (CPres.mono hId hP) hx2
   obtain ⟨Rt2, Rs2⟩ := hpq
   have hqb := hQb q2 (List.mem_of_getElem? hq2)
   have hx2t : x2.text = strL q2.1 := Rt2
   have hol2 := congrArg List.length ho2
   rw [List.length_map] at hol2
   have hqn2 := hP2.len
   have hqs2 : q2.1.length = L0 := hqb.1
   have hts2 : x2.text.size ≤ 1000 := by rw [hx2t]; have := strL_size q2.1; omega
   have htr2 : (tr q2.2).length = q2.2.length := by simp [tr]
   refine wc_skip ?_
   refine wc_seq ?_
   refine wc_block ?_
   refine wc_seq ?_
   refine wc_region ?_
   refine wl_ixr (j := k2) 1 M rfl Tryz.underlying67 rfl rfl hx2 rfl (fun b67 o67 p67 => ?_)
   refine wl_m M (q_ldp p67 rfl rfl) rfl rfl ?_
   refine wl_e (e_alloc M z66) rfl rfl ?_
   rintro _ w12 ⟨b20, rfl, M⟩
   refine wl_e0 (e_stW 0 M rfl rfl rfl sz66 rfl rfl) rfl ?_
   intro _ w13 M
   try simp only [sC0, sCS] at M
   refine wl_nil ?_
   refine wc_seq ?_
   refine wc_seq ?_
   refine wc_region ?_
   refine wl_m M (q_fa fo_66_1 rfl) rfl rfl ?_
   refine wl_m M (q_ldb 0 Tryz.underlying60 rfl rfl rfl rfl) rfl rfl ?_
   refine wl_e (e_rngI M Rs2 Tryz.underlying60 rfl) rfl rfl ?_
   rintro _ w14 ⟨r71, mb71, rfl, hmb71, M⟩
   obtain rfl : x2.set = mb71 := by cases hmb71; rfl
   refine wl_nil ?_
   refine wc_block ?_
   refine wc_loop (α := (List (Config × Bool))) [15, 21, 72, 73, 74, 75, 76, 77, 78, 79, 80, 81, 82, 83] (fun (dn_71_4 : (List (Config × Bool))) => [(15, sv u_15_2)])
     (fun (dn_71_4 : (List (Config × Bool))) w' => (∀ p ∈ dn_71_4, doneB a b (runesL x) (runesL z) p.1 = false) ∧ Mem w I Id (itr r71 x2.set (tr q2.2) dn_71_4 :: box b20 66 [.string x2.text, (.map (some x2.set))] :: row ECPre (sv u_18_2) l_18_2 :: row ECPre (sv u_52_0) l_52_0 :: row EStr (sv u_15_2) l_15_2 :: box b6 25 [.int .i64 b.states, .int .i64 b.start, sv fu2, sv au2] :: box b5 25 [.int .i64 a.states, .int .i64 a.start, sv fu1, sv au1] :: []) w')
     (fun (dn_71_4 : (List (Config × Bool))) => (tr q2.2).length - dn_71_4.length) ([]) ⟨rfl, trivial⟩ ?_ ?_
   ·refine ⟨(by simp), ?_⟩
    exact M
   rintro dn_71_4 jj4 w15 ⟨hnd, M⟩
   have hoId := M.old
   refine wc_seq ?_
   refine wc_region ?_
   refine wl_e (e_nx (Q := QConfig) (V := Value.bool) 0 M (M.imm _ _ (Rs2).at_) rfl rfl) rfl rfl ?_
   rintro _ w16 (⟨rfl, hpm17, M⟩ | ⟨p71, hpi17, hpl17, rfl, M⟩)
   ·refine wl_m M (q_ext rfl rfl) rfl rfl ?_
    refine wl_nil ?_
    refine wc_seq ?_
    refine wc_false rfl ?_
    have hacc : accP (bnet a b (runesL x) (runesL z)) q2 = false := by
      rw [accP, List.any_eq_false]
      intro c hc
      have := hnd (c, true) (hpm17.mem_iff.2 (List.mem_map.2 ⟨c, hc, rfl⟩))
      show ¬ doneB a b _ _ c = true
      rw [this]; decide
    refine wc_exit rfl ?_
    refine wc_seq ?_
    refine wc_region ?_
    refine wl_mv M rfl rfl ?_
    refine wl_mv M rfl rfl ?_
    refine wl_m M (q_lss rfl rfl) rfl rfl ?_
    refine wl_nil ?_
    refine wc_dec rfl (fun ht86 => ?_) (fun ht86 => ?_)
    ·have hLn2 : (L0 : Int) < nI := by simpa using ht86
     refine wc_region ?_
     refine wl_mv M rfl rfl ?_
     refine wl_mv M rfl rfl ?_
     refine wl_m M (q_ldbA 1 Tryz.underlying66 rfl sz66 rfl rfl rfl rfl) rfl rfl ?_
     refine wl_mv M rfl rfl ?_
     refine wl_mv M rfl rfl ?_
     refine wl_mv M rfl rfl ?_
     refine wl_m M (q_sub rfl rfl (IntWalk.i64_in _ (by omega))) rfl rfl ?_
     refine wl_m M (q_sub rfl rfl (IntWalk.i64_in _ (by omega))) rfl rfl ?_
     refine wl_e (e_callC M (nextC_c (txt := q2.1) (cs := q2.2) hdl hdr hx2t hts2 hqb.2.2 hqb.2.1 M.imm hF ((((hB0.mono hJ40).mono hI50).mono hIc).mono hId) (((Rd.mono hI50).mono hIc).mono hId) Rs2) Tryz.func29 rfl rfl) rfl rfl ?_
     rintro _ w17 ⟨J95, hJ95, ⟨rs, ys, fr, Kf, hL, ⟨hKl, hyl⟩, R95, P95⟩, M⟩
     obtain ⟨u95, rfl⟩ := rdSl_slice R95
     have hql := P95.len
     have hqy : (qsC q2.1 ys Kf).length ≤ ys.length := by rw [qsC, List.length_map]; exact List.length_filter_le _ _
     have hnx := nx_mid (s := (Config.mk a.start 0 b.start 0)) (n := nI.toNat) hdk (q := q2) (by have := hqb.1; omega) hL
     have hQ2n : ∀ p ∈ q2s ++ qsC q2.1 ys Kf, p.1.length = L0 + 1 ∧ p.2.length ≤ 42025 ∧ ∀ c ∈ p.2, c ∈ rect4 m (runesL x).length n (runesL z).length := fun p hp => by
       rcases List.mem_append.1 hp with h | h
       · exact hQ2 p h
       · obtain ⟨r, hr, rfl⟩ := List.mem_map.1 h
         have hr1 := (List.mem_filter.1 hr).1
         refine ⟨?_, hKl r hr1, fun c hc => hdr c _ (clo_ok ((hL.2.2.2 r hr1 c).1 hc))⟩
         show (q2.1 ++ [r]).length = _
         rw [List.length_append, List.length_singleton, hqs2]
     have hoJ95 := M.old
     refine wl_e (e_app 2 M rfl R95 Tryz.underlying67 rfl rfl (by show (_ + _) * 24 ≤ _; omega)) rfl rfl ?_
     rintro _ w18 ⟨u96, rfl, M⟩
     try simp only [sC0, sCS] at M
     refine wl_as M rfl rfl ?_
     refine wl_nil ?_
     refine wc_region ?_
     refine wl_m M (q_add rfl rfl (IntWalk.i64_in _ (by omega))) rfl rfl ?_
     refine wl_mv M rfl rfl ?_
     refine wl_nil ?_
     replace M := M.drop 0
     replace M := M.drop 0
     refine ⟨(J95, k2 + 1, o2, q2s ++ qsC q2.1 ys Kf, u_15_2, l_15_2, u96, l_18_2 ++ rs), ?_, ⟨(hle.trans hId hJ95), (by omega), (hIn.no hq2 hacc hnx), (CPres.app P95 (CPres.mono hJ95 hP2)), ho2, (by simp only [List.length_append, List.length_singleton]; omega), hQ2n, M⟩, ⟨rfl, rfl, rfl, trivial⟩, unw_look rfl (unw_hav rfl (unw_look rfl unw_base))⟩
     show l_52_0.length - (k2 + 1) < l_52_0.length - k2
     omega
    have hLn2 : ¬ (L0 : Int) < nI := by simpa using ht86
    have hnx := nx_last (N := (bnet a b (runesL x) (runesL z))) (s := (Config.mk a.start 0 b.start 0)) (L := nI.toNat) (p := q2) (by omega)
    refine wc_skip ?_
    refine wc_region ?_
    refine wl_m M (q_add rfl rfl (IntWalk.i64_in _ (by omega))) rfl rfl ?_
    refine wl_mv M rfl rfl ?_
    refine wl_nil ?_
    replace M := M.drop 0
    replace M := M.drop 0
    refine ⟨(Id, k2 + 1, o2, q2s, u_15_2, l_15_2, u_18_2, l_18_2), ?_, ⟨hId, (by omega), (by have := hIn.no hq2 hacc hnx; rw [List.append_nil] at this; exact this), (CPres.mono (hle.refl _) hP2), ho2, (by omega), hQ2, M⟩, ⟨rfl, rfl, rfl, trivial⟩, unw_look rfl (unw_hav rfl (unw_look rfl unw_base))⟩
    show l_52_0.length - (k2 + 1) < l_52_0.length - k2
    omega
   simp only [sC0, sCS] at M
   refine wl_m M (q_ext rfl rfl) rfl rfl ?_
   refine wl_nil ?_
   refine wc_seq ?_
   refine wc_true rfl ?_
   refine wc_skip ?_
   refine wc_block ?_
   refine wc_seq ?_
   refine wc_region ?_
   refine wl_m M (q_ent (Q := QConfig) (V := Value.bool) 0 (fun w M => M.imm _ _ (Rs2).at_) rfl rfl) rfl rfl ?_
   refine wl_m M (q_ext rfl rfl) rfl rfl ?_
   refine wl_e (e_alloc M z63) rfl rfl ?_
   rintro _ w19 ⟨b21, rfl, M⟩
   refine wl_e0 (e_stW 0 M rfl rfl rfl sz63 rfl rfl) rfl ?_
   intro _ w20 M
   try simp only [sC0, sCS] at M
   refine wl_nil ?_
   refine wc_seq ?_
   refine wc_region ?_
   refine wl_mv M rfl rfl ?_
   refine wl_m M (q_ldbA 0 Tryz.underlying63 rfl sz63 rfl rfl rfl rfl) rfl rfl ?_
   refine wl_e (e_callC M (doneX_c (c := p71.1) M.imm ((((hB0.mono hJ40).mono hI50).mono hIc).mono hId)) Tryz.func28 rfl rfl) rfl rfl ?_
   rintro _ w21 ⟨J78, hJ78, rfl, M⟩
   replace M := M.less hJ78 hoId
   refine wl_nil ?_
   refine wc_cond rfl (fun ht78 => ?_) (fun ht78 => ?_)
   ·have hacc : accP (bnet a b (runesL x) (runesL z)) q2 = true := by
      obtain ⟨c, hc, e⟩ := List.mem_map.1 hpi17
      exact List.any_eq_true.2 ⟨c, hc, by rw [← e] at ht78; exact ht78⟩
    refine wc_seq ?_
    refine wc_region ?_
    refine wl_mv M rfl rfl ?_
    refine wl_m M (q_fa fo_66_0 rfl) rfl rfl ?_
    refine wl_m M (q_ldb 2 Tryz.underlying9 rfl rfl rfl rfl) rfl rfl ?_
    refine wl_e (e_bsI (E := EStr) (xs := [x2.text]) M (bs_31_1 _) ⟨⟨rfl, rfl⟩, trivial⟩ rfl rfl (by decide)) rfl rfl ?_
    rintro _ w22 ⟨u82, J82, rfl, hJ82, R82, M⟩
    have hoJ82 := M.old
    refine wl_e (e_app 5 M rfl R82 Tryz.underlying31 rfl rfl (by show (_ + 1) * 16 ≤ _; omega)) rfl rfl ?_
    rintro _ w23 ⟨u83, rfl, M⟩
    replace M := M.less hJ82 hoId
    try simp only [sC0, sCS] at M
    refine wl_as M rfl rfl ?_
    refine wl_nil ?_
    refine wc_exit rfl ?_
    refine wc_seq ?_
    refine wc_region ?_
    refine wl_mv M rfl rfl ?_
    refine wl_mv M rfl rfl ?_
    refine wl_m M (q_lss rfl rfl) rfl rfl ?_
    refine wl_nil ?_
    refine wc_dec rfl (fun ht86 => ?_) (fun ht86 => ?_)
    ·have hLn2 : (L0 : Int) < nI := by simpa using ht86
     refine wc_region ?_
     refine wl_mv M rfl rfl ?_
     refine wl_mv M rfl rfl ?_
     refine wl_m M (q_ldbA 2 Tryz.underlying66 rfl sz66 rfl rfl rfl rfl) rfl rfl ?_
     refine wl_mv M rfl rfl ?_
     refine wl_mv M rfl rfl ?_
     refine wl_mv M rfl rfl ?_
     refine wl_m M (q_sub rfl rfl (IntWalk.i64_in _ (by omega))) rfl rfl ?_
     refine wl_m M (q_sub rfl rfl (IntWalk.i64_in _ (by omega))) rfl rfl ?_
     refine wl_e (e_callC M (nextC_c (txt := q2.1) (cs := q2.2) hdl hdr hx2t hts2 hqb.2.2 hqb.2.1 M.imm hF ((((hB0.mono hJ40).mono hI50).mono hIc).mono hId) (((Rd.mono hI50).mono hIc).mono hId) Rs2) Tryz.func29 rfl rfl) rfl rfl ?_
     rintro _ w24 ⟨J95, hJ95, ⟨rs, ys, fr, Kf, hL, ⟨hKl, hyl⟩, R95, P95⟩, M⟩
     obtain ⟨u95, rfl⟩ := rdSl_slice R95
     have hql := P95.len
     have hqy : (qsC q2.1 ys Kf).length ≤ ys.length := by rw [qsC, List.length_map]; exact List.length_filter_le _ _
     have hnx := nx_mid (s := (Config.mk a.start 0 b.start 0)) (n := nI.toNat) hdk (q := q2) (by have := hqb.1; omega) hL
     have hQ2n : ∀ p ∈ q2s ++ qsC q2.1 ys Kf, p.1.length = L0 + 1 ∧ p.2.length ≤ 42025 ∧ ∀ c ∈ p.2, c ∈ rect4 m (runesL x).length n (runesL z).length := fun p hp => by
       rcases List.mem_append.1 hp with h | h
       · exact hQ2 p h
       · obtain ⟨r, hr, rfl⟩ := List.mem_map.1 h
         have hr1 := (List.mem_filter.1 hr).1
         refine ⟨?_, hKl r hr1, fun c hc => hdr c _ (clo_ok ((hL.2.2.2 r hr1 c).1 hc))⟩
         show (q2.1 ++ [r]).length = _
         rw [List.length_append, List.length_singleton, hqs2]
     have hoJ95 := M.old
     refine wl_e (e_app 3 M rfl R95 Tryz.underlying67 rfl rfl (by show (_ + _) * 24 ≤ _; omega)) rfl rfl ?_
     rintro _ w25 ⟨u96, rfl, M⟩
     try simp only [sC0, sCS] at M
     refine wl_as M rfl rfl ?_
     refine wl_nil ?_
     refine wc_region ?_
     refine wl_m M (q_add rfl rfl (IntWalk.i64_in _ (by omega))) rfl rfl ?_
     refine wl_mv M rfl rfl ?_
     refine wl_nil ?_
     replace M := M.drop 0
     replace M := M.drop 0
     replace M := M.drop 0
     refine ⟨(J95, k2 + 1, o2 ++ [q2.1], q2s ++ qsC q2.1 ys Kf, u83, l_15_2 ++ [x2.text], u96, l_18_2 ++ rs), ?_, ⟨(hle.trans hId hJ95), (by omega), (hIn.yes hq2 hacc hnx), (CPres.app P95 (CPres.mono hJ95 hP2)), (by rw [ho2, hx2t, List.map_append]; rfl), (by simp only [List.length_append, List.length_singleton]; omega), hQ2n, M⟩, ⟨rfl, rfl, rfl, trivial⟩, unw_look rfl (unw_hav rfl (unw_look rfl unw_base))⟩
     show l_52_0.length - (k2 + 1) < l_52_0.length - k2
     omega
    have hLn2 : ¬ (L0 : Int) < nI := by simpa using ht86
    have hnx := nx_last (N := (bnet a b (runesL x) (runesL z))) (s := (Config.mk a.start 0 b.start 0)) (L := nI.toNat) (p := q2) (by omega)
    refine wc_skip ?_
    refine wc_region ?_
    refine wl_m M (q_add rfl rfl (IntWalk.i64_in _ (by omega))) rfl rfl ?_
    refine wl_mv M rfl rfl ?_
    refine wl_nil ?_
    replace M := M.drop 0
    replace M := M.drop 0
    replace M := M.drop 0
    refine ⟨(Id, k2 + 1, o2 ++ [q2.1], q2s, u83, l_15_2 ++ [x2.text], u_18_2, l_18_2), ?_, ⟨hId, (by omega), (by have := hIn.yes hq2 hacc hnx; rw [List.append_nil] at this; exact this), (CPres.mono (hle.refl _) hP2), (by rw [ho2, hx2t, List.map_append]; rfl), (by simp only [List.length_append, List.length_singleton]; omega), hQ2, M⟩, ⟨rfl, rfl, rfl, trivial⟩, unw_look rfl (unw_hav rfl (unw_look rfl unw_base))⟩
    show l_52_0.length - (k2 + 1) < l_52_0.length - k2
    omega
   refine wc_skip ?_
   replace M := M.drop 0
   refine ⟨(dn_71_4 ++ [p71]), ?_, ⟨(fun p hp => by rcases List.mem_append.1 hp with h | h; exact hnd p h; rw [List.mem_singleton.1 h]; exact ht78), M⟩, ⟨rfl, trivial⟩, unw_look rfl unw_base⟩
   show (tr q2.2).length - (dn_71_4 ++ [p71]).length < (tr q2.2).length - dn_71_4.length
   rw [List.length_append, List.length_singleton]; omega
  have hke2 : k2 = l_52_0.length := by omega
  have hk2q : k2 = Q0.length := by rw [hke2, hP.len]
  rw [hk2q] at hIn hc2
  have hol2 := congrArg List.length ho2
  rw [List.length_map] at hol2
  have hqn2 := hP2.len
  refine wc_exit rfl ?_
  refine wc_seq ?_
  refine wc_seq ?_
  refine wc_join (α := Unit) [98, 99, 100, 101, 102, 103, 104, 105] (fun _ => [(105, .bool ((decide (256 < (l_15_2.length : Int))) || (decide (256 < (l_18_2.length : Int)))))]) (fun _ w' => Mem w I Id (row ECPre (sv u_18_2) l_18_2 :: row ECPre (sv u_52_0) l_52_0 :: row EStr (sv u_15_2) l_15_2 :: box b6 25 [.int .i64 b.states, .int .i64 b.start, sv fu2, sv au2] :: box b5 25 [.int .i64 a.states, .int .i64 a.start, sv fu1, sv au1] :: []) w') ?_ ?_
  ·refine wc_region ?_
   refine wl_mv M rfl rfl ?_
   refine wl_m M (q_lenr 2 M rfl Tryz.underlying31 rfl) rfl rfl ?_
   refine wl_m M (q_gtr rfl rfl) rfl rfl ?_
   refine wl_mv M rfl rfl ?_
   rcases Bool.eq_false_or_eq_true (decide (256 < (l_15_2.length : Int))) with hg101 | hg101
   ·refine wl_m M (q_off 3 rfl rfl rfl hg101) rfl rfl ?_
    refine wl_m M (q_off 3 rfl rfl rfl hg101) rfl rfl ?_
    refine wl_m M (q_off 3 rfl rfl rfl hg101) rfl rfl ?_
    refine wl_m M (q_pickT rfl hg101 rfl) rfl rfl ?_
    refine wl_nil ?_
    exact ⟨(), M, ⟨(show some (Value.bool true) = some (Value.bool ((decide (256 < (l_15_2.length : Int))) || (decide (256 < (l_18_2.length : Int))))) from by first | (simp only [hg101, Bool.true_or, Bool.false_or, Bool.true_and, Bool.false_and, Bool.or_true, Bool.or_false, Bool.and_true, Bool.and_false]; done) | (simp_all; done) | (simp_all; omega)), trivial⟩, unw_take 8 rfl rfl⟩
   refine wl_m M (q_guard 3 rfl rfl rfl hg101 (q_move rfl)) rfl rfl ?_
   refine wl_m M (q_guard 3 rfl rfl rfl hg101 (q_lenr 0 M rfl Tryz.underlying67 rfl)) rfl rfl ?_
   refine wl_m M (q_guard 3 rfl rfl rfl hg101 (q_gtr rfl rfl)) rfl rfl ?_
   refine wl_m M (q_pickF rfl hg101 rfl) rfl rfl ?_
   refine wl_nil ?_
   exact ⟨(), M, ⟨(show some (Value.bool (decide (256 < (l_18_2.length : Int)))) = some (Value.bool ((decide (256 < (l_15_2.length : Int))) || (decide (256 < (l_18_2.length : Int))))) from by first | (simp only [hg101, Bool.true_or, Bool.false_or, Bool.true_and, Bool.false_and, Bool.or_true, Bool.or_false, Bool.and_true, Bool.and_false]; done) | (simp_all; done) | (simp_all; omega)), trivial⟩, unw_take 8 rfl rfl⟩
  rintro _ jr24 w26 M
  refine wc_cond rfl (fun ht105 => ?_) (fun ht105 => ?_)
  ·refine wc_seq ?_
   refine wc_region ?_
   refine wl_as M rfl rfl ?_
   refine wl_as M rfl rfl ?_
   refine wl_nil ?_
   refine wc_ret ?_
   refine out2 rfl rfl rfl ⟨_, _, rfl, M.grow, nilV, [], 2, rfl, rdSl_nil _, mid_big hg0 h0 fun W hW => ?_⟩
   obtain ⟨b1, b2⟩ := hIn.big (Nat.le_refl _) hSr (by omega) hW
   rcases Bool.or_eq_true_iff.1 ht105 with h | h
   · have := of_decide_eq_true h; omega
   · have := of_decide_eq_true h; omega
  rw [Bool.or_eq_false_iff] at ht105
  have h105a := of_decide_eq_false ht105.1
  have h105b := of_decide_eq_false ht105.2
  have h256 : o2.length ≤ 256 := by omega
  have h257 : q2s.length ≤ 256 := by omega
  refine wc_skip ?_
  refine wc_region ?_
  refine wl_mv M rfl rfl ?_
  refine wl_as M rfl rfl ?_
  refine wl_nil ?_
  refine wc_region ?_
  refine wl_mv M rfl rfl ?_
  refine wl_m M (q_add rfl rfl (IntWalk.i64_in _ (by omega))) rfl rfl ?_
  refine wl_as M rfl rfl ?_
  refine wl_nil ?_
  replace M := M.drop 1
  refine ⟨(Id, L0 + 1, q2s, o2, u_18_2, l_18_2, u_15_2, l_15_2), ?_, ⟨(hle.trans hIc hId), (by omega), (hIn.done hSr (by omega)), hP2, ho2, h256, hQ2, h257, M⟩, ⟨rfl, rfl, rfl, trivial⟩, unw_look rfl (unw_hav rfl (unw_look rfl (unw_hav rfl (unw_look rfl (unw_hav rfl (unw_look rfl unw_base))))))⟩
  show nI.toNat + 1 - (L0 + 1) < nI.toNat + 1 - L0
  omega
 refine wc_exit rfl ?_
 refine wc_seq ?_
 refine wc_region ?_
 refine wl_mv M rfl rfl ?_
 refine wl_as M rfl rfl ?_
 refine wl_as M rfl rfl ?_
 refine wl_nil ?_
 refine wc_ret ?_
 obtain ⟨K1, M, hK1, Rk1⟩ := M.frzRow 1 rfl
 rw [ho] at Rk1
 refine out2 rfl rfl rfl ⟨_, K1, rfl, (M.grow : Grow w I _ K1), _, _, 0, rfl, Rk1, mid_ok hg0 h0 hob (fun W hW => ?_)⟩
 rw [Bool.and_eq_false_iff] at ht60
 rcases ht60 with h | h
 · have := of_decide_eq_false h
   rw [show L0 = nI.toNat + 1 by omega] at hSr
   exact hSr.fin hW
 · have hl := of_decide_eq_false h
   have hPl := hP.len
   obtain rfl : Q0 = [] := List.eq_nil_of_length_eq_zero (by omega)
   exact sr_dry hSr hW
end Go.Proofs.YtmjieefhjmiagaaGreatDoor.G
