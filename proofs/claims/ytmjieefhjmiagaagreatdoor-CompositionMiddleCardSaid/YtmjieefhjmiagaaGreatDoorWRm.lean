/- Walks of the program's functions. -/
import Derived.Test.YtmjieefhjmiagaaGreatDoorWRo
import Derived.Test.YtmjieefhjmiagaaGreatDoorGMif
set_option linter.all false
namespace Go.Proofs.YtmjieefhjmiagaaGreatDoor.G
open Go Go.RowKit
set_option maxRecDepth 4000 in
set_option maxHeartbeats 2000000 in
theorem middle5_c (a b : Tra) (x z : ByteArray) (nI : Int) (hx : x.size ≤ 20) (hz : z.size ≤ 20) (hn : nI ≤ 4 ∨ 40 < nI) (hl3 : (alphL a true).length ≤ 3) {v1 v2 : Value} {I : Heap} {w : World} (hI : hle I (hp w)) (hT : Tabs I) (R1 : a.rd I v1) (R2 : b.rd I v2) : Calls A 13 #[v1, v2, .string x, .string z, .int .i64 nI] w (Ret w I fun r I' => ∃ (u : SV) (out : List ByteArray) (e : Int), r = .tuple #[sv u, .int .i64 e] ∧ rdSl EStr I' (sv u) out ∧ MidOut a b x z nI out e) := by
 obtain ⟨fu1, au1, rfl, Rf1, Ra1⟩ := R1
 obtain ⟨fu2, au2, rfl, Rf2, Ra2⟩ := R2
 have M := Mem.start hI
 refine enter Tryz.func13 rfl 71 Tryz.ntmps13 [_, _, _, _, _] rfl ?_
 refine wc_seq ?_
 refine wc_region ?_
 refine wl_e (e_box M rfl) rfl rfl ?_
 rintro _ w1 ⟨b5, rfl, M⟩
 refine wl_e (e_box M rfl) rfl rfl ?_
 rintro _ w2 ⟨b6, rfl, M⟩
 refine wl_as M rfl rfl ?_
 refine wl_as M rfl rfl ?_
 refine wl_nil ?_
 refine wc_seq ?_
 refine wc_region ?_
 refine wl_m M (q_ldbA 1 Tryz.underlying25 rfl sz25 rfl rfl rfl rfl) rfl rfl ?_
 refine wl_m M (q_ldbA 0 Tryz.underlying25 rfl sz25 rfl rfl rfl rfl) rfl rfl ?_
 refine wl_mv M rfl rfl ?_
 refine wl_mv M rfl rfl ?_
 refine wl_e (e_callC M (check5_c a b x z (by omega) (by omega) M.imm hT ⟨_, _, rfl, Rf1, Ra1⟩ ⟨_, _, rfl, Rf2, Ra2⟩) Tryz.func30 rfl rfl) rfl rfl ?_
 rintro _ w3 ⟨J22, hJ22, rfl, M⟩
 rw [chk5_E]
 have hoJ22 := M.old
 refine wl_as M rfl rfl ?_
 refine wl_nil ?_
 refine wc_seq ?_
 refine wc_seq ?_
 refine wc_join (α := Unit) [23, 24, 25, 26, 27, 28, 29, 30, 31, 32] (fun _ => [(32, .bool (((decide ((btwE a b x z) = 1)) || (decide (nI < 0))) || (decide (40 < nI))))]) (fun _ w' => Mem w I J22 (box b6 25 [.int .i64 b.states, .int .i64 b.start, sv fu2, sv au2] :: box b5 25 [.int .i64 a.states, .int .i64 a.start, sv fu1, sv au1] :: []) w') ?_ ?_
 ·refine wc_region ?_
  refine wl_mv M rfl rfl ?_
  refine wl_m M (q_eql rfl rfl) rfl rfl ?_
  refine wl_mv M rfl rfl ?_
  rcases Bool.eq_false_or_eq_true (decide ((btwE a b x z) = 1)) with hg25 | hg25
  ·refine wl_m M (q_off 2 rfl rfl rfl hg25) rfl rfl ?_
   refine wl_m M (q_off 2 rfl rfl rfl hg25) rfl rfl ?_
   refine wl_m M (q_pickT rfl hg25 rfl) rfl rfl ?_
   refine wl_mv M rfl rfl ?_
   refine wl_m M (q_off 6 rfl rfl rfl rfl) rfl rfl ?_
   refine wl_m M (q_off 6 rfl rfl rfl rfl) rfl rfl ?_
   refine wl_m M (q_pickT rfl rfl rfl) rfl rfl ?_
   refine wl_nil ?_
   exact ⟨(), M, ⟨(show some (Value.bool true) = some (Value.bool (((decide ((btwE a b x z) = 1)) || (decide (nI < 0))) || (decide (40 < nI)))) from by first | (simp only [hg25, Bool.true_or, Bool.false_or, Bool.true_and, Bool.false_and, Bool.or_true, Bool.or_false, Bool.and_true, Bool.and_false]; done) | (simp_all; done) | (simp_all; omega)), trivial⟩, unw_take 10 rfl rfl⟩
  refine wl_m M (q_guard 2 rfl rfl rfl hg25 (q_move rfl)) rfl rfl ?_
  refine wl_m M (q_guard 2 rfl rfl rfl hg25 (q_lss rfl rfl)) rfl rfl ?_
  refine wl_m M (q_pickF rfl hg25 rfl) rfl rfl ?_
  refine wl_mv M rfl rfl ?_
  rcases Bool.eq_false_or_eq_true (decide (nI < 0)) with hg29 | hg29
  ·refine wl_m M (q_off 6 rfl rfl rfl hg29) rfl rfl ?_
   refine wl_m M (q_off 6 rfl rfl rfl hg29) rfl rfl ?_
   refine wl_m M (q_pickT rfl hg29 rfl) rfl rfl ?_
   refine wl_nil ?_
   exact ⟨(), M, ⟨(show some (Value.bool true) = some (Value.bool (((decide ((btwE a b x z) = 1)) || (decide (nI < 0))) || (decide (40 < nI)))) from by first | (simp only [hg25, hg29, Bool.true_or, Bool.false_or, Bool.true_and, Bool.false_and, Bool.or_true, Bool.or_false, Bool.and_true, Bool.and_false]; done) | (simp_all; done) | (simp_all; omega)), trivial⟩, unw_take 10 rfl rfl⟩
  refine wl_m M (q_guard 6 rfl rfl rfl hg29 (q_move rfl)) rfl rfl ?_
  refine wl_m M (q_guard 6 rfl rfl rfl hg29 (q_gtr rfl rfl)) rfl rfl ?_
  refine wl_m M (q_pickF rfl hg29 rfl) rfl rfl ?_
  refine wl_nil ?_
  exact ⟨(), M, ⟨(show some (Value.bool (decide (40 < nI))) = some (Value.bool (((decide ((btwE a b x z) = 1)) || (decide (nI < 0))) || (decide (40 < nI)))) from by first | (simp only [hg25, hg29, Bool.true_or, Bool.false_or, Bool.true_and, Bool.false_and, Bool.or_true, Bool.or_false, Bool.and_true, Bool.and_false]; done) | (simp_all; done) | (simp_all; omega)), trivial⟩, unw_take 10 rfl rfl⟩
 rintro _ jr2 w4 M
 refine wc_cond rfl (fun ht32 => ?_) (fun ht32 => ?_)
 ·refine wc_seq ?_
  refine wc_region ?_
  refine wl_as M rfl rfl ?_
  refine wl_as M rfl rfl ?_
  refine wl_nil ?_
  refine wc_ret ?_
  exact out2 rfl rfl rfl ⟨_, _, rfl, M.grow, nilV, [], 1, rfl, rdSl_nil _, midR_bad ht32⟩
 refine wc_skip ?_
 refine wc_seq ?_
 refine wc_seq ?_
 refine wc_region ?_
 refine wl_mv M rfl rfl ?_
 refine wl_m M (q_neq rfl rfl) rfl rfl ?_
 refine wl_nil ?_
 refine wc_cond rfl (fun ht34 => ?_) (fun ht34 => ?_)
 ·refine wc_seq ?_
  refine wc_region ?_
  refine wl_mv M rfl rfl ?_
  refine wl_as M rfl rfl ?_
  refine wl_as M rfl rfl ?_
  refine wl_nil ?_
  refine wc_ret ?_
  exact out2 rfl rfl rfl ⟨_, _, rfl, M.grow, nilV, [], _, rfl, rdSl_nil _, midR_err ht32 (nd_t ht34)⟩
 have h0 : btwE a b x z = 0 := nd_f ht34
 obtain ⟨m, n, ha, hb, hva, hvb, hokx, hokz⟩ := mid_ok2 h0
 have hal := ha.alen
 have ht32b := ht32
 simp only [Bool.or_eq_false_iff, decide_eq_false_iff_not] at ht32b
 obtain ⟨⟨_, hn0⟩, hn1⟩ := ht32b
 refine wc_skip ?_
 refine wc_seq ?_
 refine wc_region ?_
 refine wl_e (e_bsR (E := EStr) (xs := []) M (bs_31_0) trivial rfl rfl (by decide)) rfl rfl ?_
 rintro _ w5 ⟨u36, rfl, M⟩
 refine wl_as M rfl rfl ?_
 refine wl_nil ?_
 refine wc_seq ?_
 refine wc_region ?_
 refine wl_m M (q_ldbA 2 Tryz.underlying25 rfl sz25 rfl rfl rfl rfl) rfl rfl ?_
 refine wl_e (e_callC M (alphabet_c a hal true M.imm ⟨_, _, rfl, (Rf1.mono hJ22), (Ra1.mono hJ22)⟩) Tryz.func11 rfl rfl) rfl rfl ?_
 rintro v38 w6 ⟨J38, hJ38, R38, M⟩
 obtain ⟨u38, rfl⟩ := rdSl_slice R38
 have hoJ38 := M.old
 replace R38 : rdSl ERune J38 (sv u38) ((alphL a true)) := R38
 refine wl_as M rfl rfl ?_
 refine wl_nil ?_
 refine wc_seq ?_
 refine wc_seq ?_
 refine wc_region ?_
 refine wl_as M rfl rfl ?_
 refine wl_nil ?_
 refine wc_block ?_
 refine wc_loop (α := Nat × SV × (List ByteArray)) [13, 15, 17, 39, 40, 41, 42, 43, 44, 45, 46, 47, 48, 49, 50, 51, 52, 53, 54, 55, 56, 57, 58, 59, 60, 61, 62, 63, 64, 65, 66] (fun ((k0, u_36_0, l_36_0) : Nat × SV × (List ByteArray)) => [(15, .int .i64 (k0 : Int)), (13, sv u_36_0)])
   (fun ((k0, u_36_0, l_36_0) : Nat × SV × (List ByteArray)) w' => (k0 ≤ nI.toNat + 1) ∧ (l_36_0 = (wrdM a b (runesL x) (runesL z) (alphL a true) k0).map strL) ∧ (l_36_0.length ≤ 729 * k0) ∧ Mem w I J38 (row EStr (sv u_36_0) l_36_0 :: box b6 25 [.int .i64 b.states, .int .i64 b.start, sv fu2, sv au2] :: box b5 25 [.int .i64 a.states, .int .i64 a.start, sv fu1, sv au1] :: []) w')
   (fun ((k0, u_36_0, l_36_0) : Nat × SV × (List ByteArray)) => nI.toNat + 1 - k0) (0, u36, []) ⟨rfl, rfl, trivial⟩ ?_ ?_
 ·refine ⟨Nat.zero_le _, rfl, (by simp), ?_⟩
  exact M
 rintro ⟨k0, u_36_0, l_36_0⟩ jj0 w7 ⟨hk0, hw, hwl, M⟩
 have hoJ38 := M.old
 refine wc_seq ?_
 refine wc_seq ?_
 refine wc_region ?_
 refine wl_mv M rfl rfl ?_
 refine wl_mv M rfl rfl ?_
 refine wl_m M (q_leq rfl rfl) rfl rfl ?_
 refine wl_nil ?_
 refine wc_dec rfl (fun ht41 => ?_) (fun ht41 => ?_)
 ·have h64 := strs_64 hl3 (n := k0) (by omega)
  have hml : (List.map strL (strs (alphL a true) k0)).length = (strs (alphL a true) k0).length := List.length_map ..
  refine wc_skip ?_
  refine wc_seq ?_
  refine wc_block ?_
  refine wc_seq ?_
  refine wc_region ?_
  refine wl_mv M rfl rfl ?_
  refine wl_mv M rfl rfl ?_
  refine wl_e (e_callC M (strings_c (l := (alphL a true)) hl3 k0 (by omega) M.imm R38) Tryz.func31 rfl rfl) rfl rfl ?_
  rintro v46 w8 ⟨J46, hJ46, R46, M⟩
  obtain ⟨u46, rfl⟩ := rdSl_slice R46
  have hoJ46 := M.old
  replace R46 : rdSl EStr J46 (sv u46) ((strs (alphL a true) k0).map strL) := R46
  refine wl_m M (q_lenR R46 Tryz.underlying31 rfl) rfl rfl ?_
  refine wl_mv M rfl rfl ?_
  refine wl_nil ?_
  refine wc_block ?_
  refine wc_loop (α := Nat × SV × (List ByteArray)) [13, 17, 48, 49, 50, 51, 52, 53, 54, 55, 56, 57, 58, 59, 60, 61, 62, 63, 64, 65, 66] (fun ((k2, u_36_2, l_36_2) : Nat × SV × (List ByteArray)) => [(48, .int .i64 (k2 : Int)), (13, sv u_36_2)])
    (fun ((k2, u_36_2, l_36_2) : Nat × SV × (List ByteArray)) w' => (k2 ≤ (strs (alphL a true) k0).length) ∧ (l_36_2 = (wrdM a b (runesL x) (runesL z) (alphL a true) k0).map strL ++ (((strs (alphL a true) k0).take k2).filter (midB a b (runesL x) (runesL z))).map strL) ∧ (l_36_2.length ≤ 729 * k0 + k2) ∧ Mem w I J46 (row EStr (sv u_36_2) l_36_2 :: box b6 25 [.int .i64 b.states, .int .i64 b.start, sv fu2, sv au2] :: box b5 25 [.int .i64 a.states, .int .i64 a.start, sv fu1, sv au1] :: []) w')
    (fun ((k2, u_36_2, l_36_2) : Nat × SV × (List ByteArray)) => (strs (alphL a true) k0).length - k2) (0, u_36_0, l_36_0) ⟨rfl, rfl, trivial⟩ ?_ ?_
  ·refine ⟨Nat.zero_le _, (by rw [hw]; simp), (by omega), ?_⟩
   exact M
  rintro ⟨k2, u_36_2, l_36_2⟩ jj2 w9 ⟨hk2, hw2, hwl2, M⟩
  have hoJ46 := M.old
  refine wc_seq ?_
  refine wc_region ?_
  refine wl_m M (q_lss rfl rfl) rfl rfl ?_
  refine wl_nil ?_
  refine wc_seq ?_
  refine wc_dec rfl (fun ht49 => ?_) (fun ht49 => ?_)
  ·obtain ⟨x2, hx2⟩ : ∃ x_, (strs (alphL a true) k0)[k2]? = some x_ := ⟨_, List.getElem?_eq_getElem (by omega)⟩
   have hx2l := (mem_strs.1 (List.mem_of_getElem? hx2)).1
   refine wc_skip ?_
   refine wc_seq ?_
   refine wc_block ?_
   refine wc_seq ?_
   refine wc_region ?_
   refine wl_ix (j := k2) M R46 Tryz.underlying31 rfl (ixe (by omega)) (by rw [List.getElem?_map, hx2]; rfl) rfl (fun b50 o50 p50 => ?_)
   refine wl_m M (q_ldp p50 rfl rfl) rfl rfl ?_
   refine wl_as M rfl rfl ?_
   refine wl_nil ?_
   refine wc_seq ?_
   refine wc_join (α := Unit) [52, 53, 54, 55, 56, 57, 58, 59, 60, 61] (fun _ => [(61, .bool ((relB a (runesL x) x2) && (relB b x2 (runesL z))))]) (fun _ w' => Mem w I J46 (row EStr (sv u_36_2) l_36_2 :: box b6 25 [.int .i64 b.states, .int .i64 b.start, sv fu2, sv au2] :: box b5 25 [.int .i64 a.states, .int .i64 a.start, sv fu1, sv au1] :: []) w') ?_ ?_
   ·refine wc_region ?_
    refine wl_m M (q_ldbA 2 Tryz.underlying25 rfl sz25 rfl rfl rfl rfl) rfl rfl ?_
    refine wl_mv M rfl rfl ?_
    refine wl_mv M rfl rfl ?_
    refine wl_e (e_callC M (bool_to (relS_strs hva hokx (alphL_is a true) (List.mem_of_getElem? hx2)) (relates3_c a x (strL x2) (by omega) (by have h1 := strL_size x2; omega) M.imm (((hT.mono hJ22).mono hJ38).mono hJ46) ⟨_, _, rfl, (((Rf1.mono hJ22).mono hJ38).mono hJ46), (((Ra1.mono hJ22).mono hJ38).mono hJ46)⟩)) Tryz.func32 rfl rfl) rfl rfl ?_
    rintro _ w10 ⟨J55, hJ55, rfl, M⟩
    replace M := M.less hJ55 hoJ46
    refine wl_mv M rfl rfl ?_
    rcases Bool.eq_false_or_eq_true (relB a (runesL x) x2) with hg56 | hg56
    ·refine wl_m M (q_guard 4 rfl rfl rfl hg56 (q_ldbA 1 Tryz.underlying25 rfl sz25 rfl rfl rfl rfl)) rfl rfl ?_
     refine wl_m M (q_guard 4 rfl rfl rfl hg56 (q_move rfl)) rfl rfl ?_
     refine wl_m M (q_guard 4 rfl rfl rfl hg56 (q_move rfl)) rfl rfl ?_
     refine wl_e (e_guard 4 rfl rfl rfl hg56 (e_callC M (bool_to (relS_strsL hvb hokz (alph_good hva (alphL_is a true) (List.mem_of_getElem? hx2))) (relates3_c b (strL x2) z (by have h1 := strL_size x2; omega) (by omega) M.imm (((hT.mono hJ22).mono hJ38).mono hJ46) ⟨_, _, rfl, (((Rf2.mono hJ22).mono hJ38).mono hJ46), (((Ra2.mono hJ22).mono hJ38).mono hJ46)⟩)) Tryz.func32 rfl rfl)) rfl rfl ?_
     rintro _ w11 ⟨J60, hJ60, rfl, M⟩
     replace M := M.less hJ60 hoJ46
     refine wl_m M (q_pickT rfl hg56 rfl) rfl rfl ?_
     refine wl_nil ?_
     exact ⟨(), M, ⟨(show some (Value.bool (relB b x2 (runesL z))) = some (Value.bool ((relB a (runesL x) x2) && (relB b x2 (runesL z)))) from by first | (simp only [hg56, Bool.true_or, Bool.false_or, Bool.true_and, Bool.false_and, Bool.or_true, Bool.or_false, Bool.and_true, Bool.and_false]; done) | (simp_all; done) | (simp_all; omega)), trivial⟩, unw_take 10 rfl rfl⟩
    refine wl_m M (q_off 4 rfl rfl rfl hg56) rfl rfl ?_
    refine wl_m M (q_off 4 rfl rfl rfl hg56) rfl rfl ?_
    refine wl_m M (q_off 4 rfl rfl rfl hg56) rfl rfl ?_
    refine wl_m M (q_off 4 rfl rfl rfl hg56) rfl rfl ?_
    refine wl_m M (q_pickF rfl hg56 rfl) rfl rfl ?_
    refine wl_nil ?_
    exact ⟨(), M, ⟨(show some (Value.bool false) = some (Value.bool ((relB a (runesL x) x2) && (relB b x2 (runesL z)))) from by first | (simp only [hg56, Bool.true_or, Bool.false_or, Bool.true_and, Bool.false_and, Bool.or_true, Bool.or_false, Bool.and_true, Bool.and_false]; done) | (simp_all; done) | (simp_all; omega)), trivial⟩, unw_take 10 rfl rfl⟩
   rintro _ jr14 w12 M
   refine wc_cond rfl (fun ht61 => ?_) (fun ht61 => ?_)
   ·have hmb : midB a b (runesL x) (runesL z) x2 = true := ht61
    refine wc_region ?_
    refine wl_mv M rfl rfl ?_
    refine wl_mv M rfl rfl ?_
    refine wl_e (e_bsI (E := EStr) (xs := [(strL x2)]) M (bs_31_1 _) ⟨⟨rfl, rfl⟩, trivial⟩ rfl rfl (by decide)) rfl rfl ?_
    rintro _ w13 ⟨u64, J64, rfl, hJ64, R64, M⟩
    have hoJ64 := M.old
    refine wl_e (e_app 0 M rfl R64 Tryz.underlying31 rfl rfl (by show (_ + 1) * 16 ≤ _; omega)) rfl rfl ?_
    rintro _ w14 ⟨u65, rfl, M⟩
    replace M := M.less hJ64 hoJ46
    try simp only [sC0, sCS] at M
    refine wl_as M rfl rfl ?_
    refine wl_nil ?_
    refine wc_region ?_
    refine wl_m M (q_add rfl rfl (IntWalk.i64_in _ (by omega))) rfl rfl ?_
    refine wl_mv M rfl rfl ?_
    refine wl_nil ?_
    refine ⟨(k2 + 1, u65, l_36_2 ++ [(strL x2)]), ?_, ⟨(by omega), (by rw [take_snoc hx2, List.filter_append, List.map_append, ← List.append_assoc, ← hw2, List.filter_cons, hmb]; rfl), (by rw [List.length_append, List.length_singleton]; omega), M⟩, ⟨rfl, rfl, trivial⟩, unw_look rfl (unw_hav rfl (unw_look rfl unw_base))⟩
    show (strs (alphL a true) k0).length - (k2 + 1) < (strs (alphL a true) k0).length - k2
    omega
   have hmb : midB a b (runesL x) (runesL z) x2 = false := ht61
   refine wc_skip ?_
   refine wc_region ?_
   refine wl_m M (q_add rfl rfl (IntWalk.i64_in _ (by omega))) rfl rfl ?_
   refine wl_mv M rfl rfl ?_
   refine wl_nil ?_
   refine ⟨(k2 + 1, u_36_2, l_36_2), ?_, ⟨(by omega), (by rw [take_snoc hx2, List.filter_append, hw2, List.filter_cons, hmb]; simp), (by omega), M⟩, ⟨rfl, rfl, trivial⟩, unw_look rfl (unw_hav rfl (unw_look rfl unw_base))⟩
   show (strs (alphL a true) k0).length - (k2 + 1) < (strs (alphL a true) k0).length - k2
   omega
  have hke2 : k2 = (strs (alphL a true) k0).length := by omega
  rw [hke2, List.take_length] at hw2
  refine wc_exit rfl ?_
  refine wc_region ?_
  refine wl_mv M rfl rfl ?_
  refine wl_m M (q_add rfl rfl (IntWalk.i64_in _ (by omega))) rfl rfl ?_
  refine wl_as M rfl rfl ?_
  refine wl_nil ?_
  replace M := M.less hJ46 hoJ38
  refine ⟨(k0 + 1, u_36_2, l_36_2), ?_, ⟨(by omega), (by rw [wrdM_succ, List.map_append]; exact hw2), (by omega), M⟩, ⟨rfl, rfl, trivial⟩, unw_look rfl (unw_hav rfl (unw_look rfl unw_base))⟩
  show nI.toNat + 1 - (k0 + 1) < nI.toNat + 1 - k0
  omega
 have hke0 : k0 = nI.toNat + 1 := by omega
 rw [hke0] at hw
 refine wc_exit rfl ?_
 refine wc_seq ?_
 refine wc_seq ?_
 refine wc_region ?_
 refine wl_mv M rfl rfl ?_
 refine wl_m M (q_lenr 0 M rfl Tryz.underlying31 rfl) rfl rfl ?_
 refine wl_m M (q_gtr rfl rfl) rfl rfl ?_
 refine wl_nil ?_
 refine wc_dec rfl (fun ht69 => ?_) (fun ht69 => ?_)
 ·refine wc_seq ?_
  refine wc_region ?_
  refine wl_as M rfl rfl ?_
  refine wl_as M rfl rfl ?_
  refine wl_nil ?_
  refine wc_ret ?_
  exact out2 rfl rfl rfl ⟨_, _, rfl, M.grow, nilV, [], 2, rfl, rdSl_nil _, midR_big ht32 h0 (by rw [hw, List.length_map] at ht69; omega)⟩
 refine wc_skip ?_
 refine wc_seq ?_
 refine wc_region ?_
 refine wl_mv M rfl rfl ?_
 refine wl_as M rfl rfl ?_
 refine wl_as M rfl rfl ?_
 refine wl_nil ?_
 refine wc_ret ?_
 obtain ⟨K1, M, hK1, Rk1⟩ := M.frzRow 0 rfl
 rw [hw] at Rk1
 exact out2 rfl rfl rfl ⟨_, K1, rfl, (M.grow : Grow w I _ K1), _, _, 0, rfl, Rk1, midR_ok ht32 h0 (by rw [hw, List.length_map] at ht69; omega)⟩
end Go.Proofs.YtmjieefhjmiagaaGreatDoor.G
