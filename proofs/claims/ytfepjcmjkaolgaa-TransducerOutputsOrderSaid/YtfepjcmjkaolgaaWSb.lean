/- Walks of the program's functions. -/
import Derived.Test.YtfepjcmjkaolgaaWSa
import Derived.Test.YtfepjcmjkaolgaaWRa
set_option linter.all false
namespace Go.Proofs.Ytfepjcmjkaolgaa.G
open Go Go.RowKit
set_option maxRecDepth 4000 in
set_option maxHeartbeats 1000000 in
theorem stepT_c (t : Tra) (ss : List Int) (r : Int) (hss : ss.length ≤ 4096) {v1 : Value} {us : SV} {I : Heap} {w : World} (hI : hle I (hp w)) (R1 : t.rd I v1) (R0 : rdSl EInt I (sv us) ss) :
    Calls A 20 #[v1, sv us, .int .i32 r] w (Ret w I fun r' I' => ∃ out : List Int, rdSl EInt I' r' out ∧ (validT t = false → out = []) ∧ (validT t = true → ∃ (m : Nat) (bs1 bs2 : List Bool), t.Ok m ∧ (bs1.length = m ∧ ∀ s, bt bs1 s ↔ Reach (epsN t) (· ∈ frS t ss) s) ∧ (r = 0 → bs2 = bs1) ∧ (r ≠ 0 → bs2.length = m ∧ ∀ s, bt bs2 s ↔ Reach (epsN t) (· ∈ nxR t bs1 r m) s) ∧ out = onL bs2 m)) := by
 obtain ⟨fu1, au1, rfl, Rf1, Ra1⟩ := R1
 have hll := R0.len_le
 have M := Mem.start hI
 refine enter Try.func20 rfl 96 Try.ntmps20 [_, _, _] rfl ?_
 refine wc_seq <| wc_region <| wl_e (e_box M rfl) rfl rfl ?_
 rintro _ w1 ⟨b3, rfl, M⟩
 refine wl_as M rfl rfl <| wl_nil ?_
 refine wc_seq ?_
 refine wc_seq <| wc_region <| wl_m M (q_ldbA 0 Try.underlying25 rfl sz25 rfl rfl rfl rfl) rfl rfl <| wl_e (e_callC M (valid_c t M.imm ⟨_, _, rfl, Rf1, Ra1⟩) Try.func11 rfl rfl) rfl rfl ?_
 rintro _ w2 ⟨J19, hJ19, rfl, M⟩
 replace M := M.less hJ19 (fun _ _ => rfl)
 refine wl_m M (q_not rfl) rfl rfl <| wl_nil ?_
 refine wc_cond rfl (fun ht20 => ?_) (fun ht20 => ?_)
 ·refine wc_seq <| wc_region <| wl_as M rfl rfl <| wl_nil <| wc_ret ?_
  exact out1 rfl rfl ⟨_, _, rfl, M.grow, [], rdSl_nil _, fun _ => rfl, fun h => by rw [h] at ht20; cases ht20⟩
 have hv : validT t = true := by simpa using ht20
 obtain ⟨m, ha, hfa, hff⟩ := validT_ok hv
 have hst := ha.st
 have hmle := ha.le
 refine wc_skip ?_
 refine wc_seq <| wc_region <| wl_as M rfl rfl ?_
 replace M := M.nilRow EInt
 refine wl_nil ?_
 refine wc_seq ?_
 refine wc_seq <| wc_region <| wl_mv M rfl rfl <| wl_m M (q_lenR R0 Try.underlying22 rfl) rfl rfl <| wl_mv M rfl rfl <| wl_nil <| wc_block ?_
 refine wc_loop (α := Nat × SV × (List Int)) [7, 9, 23, 24, 25, 26, 27, 28, 29, 30, 31, 32, 33, 34, 35, 36, 37, 38, 39] (fun ((k0, u_7_0, l_7_0) : Nat × SV × (List Int)) => [(23, .int .i64 (k0 : Int)), (7, sv u_7_0)])
   (fun ((k0, u_7_0, l_7_0) : Nat × SV × (List Int)) w' => (k0 ≤ ss.length) ∧ (l_7_0 = (ss.take k0).filter fun s_ : Int => decide (0 ≤ s_) && decide (s_ < t.states)) ∧ Mem w I I (row EInt (sv u_7_0) l_7_0 :: box b3 25 [.int .i64 t.states, .int .i64 t.start, sv fu1, sv au1] :: []) w')
   (fun ((k0, u_7_0, l_7_0) : Nat × SV × (List Int)) => ss.length - k0) (0, nilV, []) ⟨rfl, rfl, trivial⟩ ?_ ?_
 ·refine ⟨Nat.zero_le _, rfl, ?_⟩
  exact M
 rintro ⟨k0, u_7_0, l_7_0⟩ jj0 w3 ⟨hk0, hfs, M⟩
 refine wc_seq <| wc_region <| wl_m M (q_lss rfl rfl) rfl rfl <| wl_nil ?_
 refine wc_seq ?_
 refine wc_dec rfl (fun ht24 => ?_) (fun ht24 => ?_)
 ·obtain ⟨x0, hx0⟩ : ∃ x_, ss[k0]? = some x_ := ⟨_, List.getElem?_eq_getElem (by omega)⟩
  have hll0 := (R0).len_le
  refine wc_skip ?_
  refine wc_seq <| wc_block ?_
  refine wc_seq <| wc_region ?_
  refine wl_ix (j := k0) M R0 Try.underlying22 rfl rfl hx0 rfl (fun b25 o25 p25 => ?_)
  refine wl_m M (q_ldp p25 rfl rfl) rfl rfl <| wl_as M rfl rfl <| wl_nil ?_
  refine wc_seq ?_
  refine wc_join (α := Unit) [27, 28, 29, 30, 31, 32, 33, 34] (fun _ => [(34, .bool ((decide (0 ≤ x0)) && (decide (x0 < t.states))))]) (fun _ w' => Mem w I I (row EInt (sv u_7_0) l_7_0 :: box b3 25 [.int .i64 t.states, .int .i64 t.start, sv fu1, sv au1] :: []) w') ?_ ?_
  ·refine wc_region <| wl_mv M rfl rfl <| wl_m M (q_geq rfl rfl) rfl rfl <| wl_mv M rfl rfl ?_
   rcases Bool.eq_false_or_eq_true (decide (0 ≤ x0)) with hg29 | hg29
   ·refine wl_m M (q_guard 2 rfl rfl rfl hg29 (q_move rfl)) rfl rfl <| wl_m M (q_guard 2 rfl rfl rfl hg29 (q_fa fo_25_0 rfl)) rfl rfl <| wl_m M (q_guard 2 rfl rfl rfl hg29 (q_ldb 1 Try.underlying3 rfl rfl rfl rfl)) rfl rfl <| wl_m M (q_guard 2 rfl rfl rfl hg29 (q_lss rfl rfl)) rfl rfl <| wl_m M (q_pickT rfl hg29 rfl) rfl rfl <| wl_nil ?_
    exact ⟨(), M, ⟨(show some (Value.bool (decide (x0 < t.states))) = some (Value.bool ((decide (0 ≤ x0)) && (decide (x0 < t.states)))) from by first | (simp only [hg29, bL8]; done) | (simp_all; done) | (simp_all; omega)), trivial⟩, unw_take 8 rfl rfl⟩
   refine wl_m M (q_off 2 rfl rfl rfl hg29) rfl rfl <| wl_m M (q_off 2 rfl rfl rfl hg29) rfl rfl <| wl_m M (q_off 2 rfl rfl rfl hg29) rfl rfl <| wl_m M (q_off 2 rfl rfl rfl hg29) rfl rfl <| wl_m M (q_pickF rfl hg29 rfl) rfl rfl <| wl_nil ?_
   exact ⟨(), M, ⟨(show some (Value.bool false) = some (Value.bool ((decide (0 ≤ x0)) && (decide (x0 < t.states)))) from by first | (simp only [hg29, bL8]; done) | (simp_all; done) | (simp_all; omega)), trivial⟩, unw_take 8 rfl rfl⟩
  rintro _ jr7 w4 M
  refine wc_cond rfl (fun ht34 => ?_) (fun ht34 => ?_)
  ·refine wc_region <| wl_mv M rfl rfl <| wl_mv M rfl rfl <| wl_e (e_bsI (E := EInt) (xs := [x0]) M (bs_22_1 _) ⟨⟨rfl, rfl⟩, trivial⟩ rfl rfl (by decide)) rfl rfl ?_
   rintro _ w5 ⟨u37, J37, rfl, hJ37, R37, M⟩
   have hoJ37 := M.old
   refine wl_e (e_app 0 M rfl R37 Try.underlying22 rfl rfl (by rw [hfs]; have := List.length_filter_le (fun s_ : Int => decide (0 ≤ s_) && decide (s_ < t.states)) (ss.take k0); rw [List.length_take] at this; show (_ + 1) * 8 ≤ _; omega)) rfl rfl ?_
   rintro _ w6 ⟨u38, rfl, M⟩
   replace M := M.less hJ37 (fun _ _ => rfl)
   try simp only [sC0, sCS] at M
   refine wl_as M rfl rfl <| wl_nil <| wc_region <| wl_m M (q_add rfl rfl (IntWalk.i64_in _ (by omega))) rfl rfl ?_
   refine wl_mv M rfl rfl <| wl_nil ?_
   refine ⟨(k0 + 1, u38, l_7_0 ++ [x0]), ?_, ⟨(by omega), (by rw [take_snoc hx0, List.filter_append, hfs, List.filter_cons, ht34]; rfl), M⟩, ⟨rfl, rfl, trivial⟩, unw_look rfl (unw_hav rfl (unw_look rfl unw_base))⟩
   show ss.length - (k0 + 1) < ss.length - k0
   omega
  refine wc_skip <| wc_region <| wl_m M (q_add rfl rfl (IntWalk.i64_in _ (by omega))) rfl rfl ?_
  refine wl_mv M rfl rfl <| wl_nil ?_
  refine ⟨(k0 + 1, u_7_0, l_7_0), ?_, ⟨(by omega), (by rw [take_snoc hx0, List.filter_append, hfs, List.filter_cons, ht34]; simp), M⟩, ⟨rfl, rfl, trivial⟩, unw_look rfl (unw_hav rfl (unw_look rfl unw_base))⟩
  show ss.length - (k0 + 1) < ss.length - k0
  omega
 have hke0 : k0 = ss.length := by omega
 refine wc_exit rfl ?_
 refine wc_seq ?_
 rw [hke0, List.take_length] at hfs
 obtain ⟨I8, M, hI8, Rs⟩ := M.frzRow 0 rfl
 have hoI8 := M.old
 rw [hfs] at Rs
 replace Rs : rdSl EInt I8 _ (frS t ss) := Rs
 have hfl : (frS t ss).length ≤ 4096 := Nat.le_trans (List.length_filter_le _ _) hss
 refine wc_region <| wl_m M (q_ldbA 0 Try.underlying25 rfl sz25 rfl rfl rfl rfl) rfl rfl <| wl_e (e_callC M (leavingT_c t m ha.st ha.le (fun x hx => (ha.arcs x hx).1) ha.alen M.imm ⟨_, _, rfl, (Rf1.mono hI8), (Ra1.mono hI8)⟩) Try.func46 rfl rfl) rfl rfl ?_
 rintro v41 w7 ⟨J41, hJ41, R41, M⟩
 obtain ⟨u41, rfl⟩ := rdMat_slice R41
 have hoJ41 := M.old
 refine wl_as M rfl rfl <| wl_nil ?_
 refine wc_seq <| wc_region <| wl_mv M rfl rfl <| wl_mv M rfl rfl <| wl_e (e_callC M (silentT_c (fr := frS t ss) ha.le ha.arcs ha.alen (frS_rng hst) (by omega) M.imm R41 (Rs.mono hJ41)) Try.func54 rfl rfl) rfl rfl ?_
 rintro v44 w8 ⟨J44, hJ44, ⟨bs44, R44, hbl44, hb44⟩, M⟩
 obtain ⟨u44, rfl⟩ := rdSl_slice R44
 have hoJ44 := M.old
 refine wl_as M rfl rfl <| wl_nil ?_
 refine wc_seq ?_
 refine wc_seq <| wc_region <| wl_mv M rfl rfl <| wl_m M (q_neq rfl rfl) rfl rfl <| wl_nil ?_
 refine wc_cond rfl (fun ht46 => ?_) (fun ht46 => ?_)
 ·refine wc_seq <| wc_region <| wl_as M rfl rfl ?_
  replace M := M.nilRow EInt
  refine wl_nil ?_
  refine wc_seq ?_
  refine wc_seq <| wc_region <| wl_m M (q_fa fo_25_0 rfl) rfl rfl <| wl_m M (q_ldb 1 Try.underlying3 rfl rfl rfl rfl) rfl rfl <| wl_mv M rfl rfl <| wl_nil <| wc_block ?_
  refine wc_loop (α := Nat × SV × (List Int)) [12, 13, 15, 49, 50, 51, 52, 53, 54, 55, 56, 57, 58, 59, 60, 61, 62, 63, 64, 65, 66, 67, 68, 69, 70, 71, 72, 73, 74, 75, 76, 77] (fun ((k2, u_12_2, l_12_2) : Nat × SV × (List Int)) => [(49, .int .i64 (k2 : Int)), (12, sv u_12_2)])
    (fun ((k2, u_12_2, l_12_2) : Nat × SV × (List Int)) w' => (k2 ≤ m) ∧ (l_12_2 = nxR t bs44 r k2) ∧ Mem w I J44 (row EInt (sv u_12_2) l_12_2 :: box b3 25 [.int .i64 t.states, .int .i64 t.start, sv fu1, sv au1] :: []) w')
    (fun ((k2, u_12_2, l_12_2) : Nat × SV × (List Int)) => m - k2) (0, nilV, []) ⟨rfl, rfl, trivial⟩ ?_ ?_
  ·refine ⟨Nat.zero_le _, rfl, ?_⟩
   exact M
  rintro ⟨k2, u_12_2, l_12_2⟩ jj2 w9 ⟨hk2, hnx, M⟩
  have hoJ44 := M.old
  refine wc_seq <| wc_region <| wl_m M (q_lss rfl rfl) rfl rfl <| wl_nil ?_
  refine wc_seq ?_
  refine wc_dec rfl (fun ht50 => ?_) (fun ht50 => ?_)
  ·have hk2m : k2 < m := by have := ht50; omega
   refine wc_skip ?_
   refine wc_seq <| wc_block ?_
   refine wc_seq <| wc_region <| wl_mv M rfl rfl <| wl_as M rfl rfl <| wl_nil ?_
   refine wc_seq <| wc_region <| wl_mv M rfl rfl <| wl_mv M rfl rfl ?_
   obtain ⟨os54, u54, Ro54, ho54, R54⟩ := ((R41.mono hJ44)).at_ (lv_at hk2m)
   replace R54 : rdSl EArc J44 (sv u54) ((t.outs (k2 : Int))) := R54
   refine wl_ix (j := k2) M Ro54 Try.underlying79 rfl rfl ho54 rfl (fun b54 o54 p54 => ?_)
   refine wl_m M (q_ldp p54 rfl rfl) rfl rfl <| wl_m M (q_lenR R54 Try.underlying23 rfl) rfl rfl <| wl_mv M rfl rfl <| wl_nil <| wc_block ?_
   refine wc_loop (α := Nat × SV × (List Int)) [12, 15, 57, 58, 59, 60, 61, 62, 63, 64, 65, 66, 67, 68, 69, 70, 71, 72, 73, 74, 75, 76] (fun ((k4, u_12_4, l_12_4) : Nat × SV × (List Int)) => [(57, .int .i64 (k4 : Int)), (12, sv u_12_4)])
     (fun ((k4, u_12_4, l_12_4) : Nat × SV × (List Int)) w' => (k4 ≤ (t.outs (k2 : Int)).length) ∧ (l_12_4 = nxR t bs44 r k2 ++ (((t.outs (k2 : Int)).take k4).filter (stB r (bs44.getD k2 false))).map (·.dst)) ∧ Mem w I J44 (row EInt (sv u_12_4) l_12_4 :: box b3 25 [.int .i64 t.states, .int .i64 t.start, sv fu1, sv au1] :: []) w')
     (fun ((k4, u_12_4, l_12_4) : Nat × SV × (List Int)) => (t.outs (k2 : Int)).length - k4) (0, u_12_2, l_12_2) ⟨rfl, rfl, trivial⟩ ?_ ?_
   ·refine ⟨Nat.zero_le _, (by rw [hnx]; simp), ?_⟩
    exact M
   rintro ⟨k4, u_12_4, l_12_4⟩ jj4 w10 ⟨hk4, hnx4, M⟩
   have hoJ44 := M.old
   refine wc_seq <| wc_region <| wl_m M (q_lss rfl rfl) rfl rfl <| wl_nil ?_
   refine wc_seq ?_
   refine wc_dec rfl (fun ht58 => ?_) (fun ht58 => ?_)
   ·obtain ⟨x4, hx4⟩ : ∃ x_, (t.outs (k2 : Int))[k4]? = some x_ := ⟨_, List.getElem?_eq_getElem (by omega)⟩
    have hll4 := (R54).len_le
    refine wc_skip ?_
    refine wc_seq <| wc_block ?_
    refine wc_seq <| wc_region ?_
    refine wl_ix (j := k4) M R54 Try.underlying23 rfl rfl hx4 rfl (fun b59 o59 p59 => ?_)
    refine wl_m M (q_ldp p59 rfl rfl) rfl rfl <| wl_e (e_alloc M z50) rfl rfl ?_
    rintro _ w11 ⟨b15, rfl, M⟩
    refine wl_e0 (e_stW 0 M rfl rfl rfl sz50 rfl rfl) rfl ?_
    intro _ w12 M
    try simp only [sC0, sCS] at M
    refine wl_nil ?_
    refine wc_seq ?_
    refine wc_join (α := Unit) [61, 62, 63, 64, 65, 66, 67, 68, 69, 70] (fun _ => [(70, .bool ((bs44.getD k2 false) && (decide (x4.inp = r))))]) (fun _ w' => Mem w I J44 (box b15 50 [.int .i64 x4.src, .int .i64 x4.dst, .int .i32 x4.inp, .int .i32 x4.out] :: row EInt (sv u_12_4) l_12_4 :: box b3 25 [.int .i64 t.states, .int .i64 t.start, sv fu1, sv au1] :: []) w') ?_ ?_
    ·refine wc_region <| wl_mv M rfl rfl <| wl_mv M rfl rfl ?_
     refine wl_ix (j := k2) M R44 Try.underlying89 rfl (ixe (by omega)) (getD_at (d := false) (by omega)) rfl (fun b63 o63 p63 => ?_)
     refine wl_m M (q_ldp p63 rfl rfl) rfl rfl <| wl_mv M rfl rfl ?_
     rcases Bool.eq_false_or_eq_true ((bs44.getD k2 false)) with hg65 | hg65
     ·refine wl_m M (q_guard 4 rfl rfl rfl hg65 (q_fa fo_50_2 rfl)) rfl rfl <| wl_m M (q_guard 4 rfl rfl rfl hg65 (q_ldb 0 Try.underlying21 rfl rfl rfl rfl)) rfl rfl <| wl_m M (q_guard 4 rfl rfl rfl hg65 (q_move rfl)) rfl rfl <| wl_m M (q_guard 4 rfl rfl rfl hg65 (q_eql rfl rfl)) rfl rfl <| wl_m M (q_pickT rfl hg65 rfl) rfl rfl <| wl_nil ?_
      exact ⟨(), M, ⟨(show some (Value.bool (decide (x4.inp = r))) = some (Value.bool ((bs44.getD k2 false) && (decide (x4.inp = r)))) from by first | (simp only [hg65, bL8]; done) | (simp_all; done) | (simp_all; omega)), trivial⟩, unw_take 10 rfl rfl⟩
     refine wl_m M (q_off 4 rfl rfl rfl hg65) rfl rfl <| wl_m M (q_off 4 rfl rfl rfl hg65) rfl rfl <| wl_m M (q_off 4 rfl rfl rfl hg65) rfl rfl <| wl_m M (q_off 4 rfl rfl rfl hg65) rfl rfl <| wl_m M (q_pickF rfl hg65 rfl) rfl rfl <| wl_nil ?_
     exact ⟨(), M, ⟨(show some (Value.bool false) = some (Value.bool ((bs44.getD k2 false) && (decide (x4.inp = r)))) from by first | (simp only [hg65, bL8]; done) | (simp_all; done) | (simp_all; omega)), trivial⟩, unw_take 10 rfl rfl⟩
    rintro _ jr20 w13 M
    refine wc_cond rfl (fun ht70 => ?_) (fun ht70 => ?_)
    ·refine wc_region <| wl_mv M rfl rfl <| wl_m M (q_fa fo_50_1 rfl) rfl rfl <| wl_m M (q_ldb 0 Try.underlying3 rfl rfl rfl rfl) rfl rfl <| wl_e (e_bsI (E := EInt) (xs := [x4.dst]) M (bs_22_1 _) ⟨⟨rfl, rfl⟩, trivial⟩ rfl rfl (by decide)) rfl rfl ?_
     rintro _ w14 ⟨u74, J74, rfl, hJ74, R74, M⟩
     have hoJ74 := M.old
     refine wl_e (e_app 1 M rfl R74 Try.underlying22 rfl rfl (by have h1 := nxR_len t bs44 r k2; have hal := ha.alen; have h0 := Nat.mul_le_mul (show k2 ≤ 512 by omega) hal; have h2 : (((t.outs (k2 : Int)).take k4).filter (stB r (bs44.getD k2 false))).length ≤ t.arcs.length := Nat.le_trans (List.length_filter_le _ _) (Nat.le_trans (List.length_take_le' _ _) (t.outs_len _)); rw [hnx4, List.length_append, List.length_map]; show (_ + 1) * 8 ≤ _; omega)) rfl rfl ?_
     rintro _ w15 ⟨u75, rfl, M⟩
     replace M := M.less hJ74 hoJ44
     try simp only [sC0, sCS] at M
     refine wl_as M rfl rfl <| wl_nil <| wc_region <| wl_m M (q_add rfl rfl (IntWalk.i64_in _ (by omega))) rfl rfl ?_
     refine wl_mv M rfl rfl <| wl_nil ?_
     replace M := M.drop 0
     refine ⟨(k4 + 1, u75, l_12_4 ++ [x4.dst]), ?_, ⟨(by omega), (by rw [take_snoc hx4, List.filter_append, List.map_append, ← List.append_assoc, ← hnx4, List.filter_cons, stB, ht70]; rfl), M⟩, ⟨rfl, rfl, trivial⟩, unw_look rfl (unw_hav rfl (unw_look rfl unw_base))⟩
     show (t.outs (k2 : Int)).length - (k4 + 1) < (t.outs (k2 : Int)).length - k4
     omega
    refine wc_skip <| wc_region <| wl_m M (q_add rfl rfl (IntWalk.i64_in _ (by omega))) rfl rfl ?_
    refine wl_mv M rfl rfl <| wl_nil ?_
    replace M := M.drop 0
    refine ⟨(k4 + 1, u_12_4, l_12_4), ?_, ⟨(by omega), (by rw [take_snoc hx4, List.filter_append, hnx4, List.filter_cons, stB, ht70]; simp), M⟩, ⟨rfl, rfl, trivial⟩, unw_look rfl (unw_hav rfl (unw_look rfl unw_base))⟩
    show (t.outs (k2 : Int)).length - (k4 + 1) < (t.outs (k2 : Int)).length - k4
    omega
   have hke4 : k4 = (t.outs (k2 : Int)).length := by omega
   rw [hke4, List.take_length] at hnx4
   refine wc_exit rfl <| wc_region <| wl_m M (q_add rfl rfl (IntWalk.i64_in _ (by omega))) rfl rfl ?_
   refine wl_mv M rfl rfl <| wl_nil ?_
   refine ⟨(k2 + 1, u_12_4, l_12_4), ?_, ⟨(by omega), (by rw [nxR_succ]; exact hnx4), M⟩, ⟨rfl, rfl, trivial⟩, unw_look rfl (unw_hav rfl (unw_look rfl unw_base))⟩
   show m - (k2 + 1) < m - k2
   omega
  have hke2 : k2 = m := by omega
  refine wc_exit rfl ?_
  rw [hke2] at hnx
  obtain ⟨I9, M, hI9, Rx⟩ := M.frzRow 0 rfl
  have hoI9 := M.old
  rw [hnx] at Rx
  have hxl := nxR_len t bs44 r m
  have hal := ha.alen
  have hxm := Nat.mul_le_mul hmle hal
  refine wc_region <| wl_mv M rfl rfl <| wl_mv M rfl rfl <| wl_e (e_callC M (silentT_c (fr := nxR t bs44 r m) ha.le ha.arcs ha.alen (nxR_rng ha.arcs) (by omega) M.imm ((R41.mono hJ44).mono hI9) Rx) Try.func54 rfl rfl) rfl rfl ?_
  rintro v80 w16 ⟨J80, hJ80, ⟨bs80, R80, hbl80, hb80⟩, M⟩
  obtain ⟨u80, rfl⟩ := rdSl_slice R80
  have hoJ80 := M.old
  refine wl_as M rfl rfl <| wl_nil ?_
  refine wc_seq <| wc_region <| wl_as M rfl rfl ?_
  replace M := M.nilRow EInt
  refine wl_nil ?_
  refine wc_seq ?_
  refine wc_seq <| wc_region <| wl_m M (q_fa fo_25_0 rfl) rfl rfl <| wl_m M (q_ldb 1 Try.underlying3 rfl rfl rfl rfl) rfl rfl <| wl_mv M rfl rfl <| wl_nil <| wc_block ?_
  refine wc_loop (α := Nat × SV × (List Int)) [16, 17, 83, 84, 85, 86, 87, 88, 89, 90, 91, 92, 93, 94] (fun ((k6, u_16_6, l_16_6) : Nat × SV × (List Int)) => [(83, .int .i64 (k6 : Int)), (16, sv u_16_6)])
    (fun ((k6, u_16_6, l_16_6) : Nat × SV × (List Int)) w' => (k6 ≤ m) ∧ (l_16_6 = onL bs80 k6) ∧ Mem w I J80 (row EInt (sv u_16_6) l_16_6 :: box b3 25 [.int .i64 t.states, .int .i64 t.start, sv fu1, sv au1] :: []) w')
    (fun ((k6, u_16_6, l_16_6) : Nat × SV × (List Int)) => m - k6) (0, nilV, []) ⟨rfl, rfl, trivial⟩ ?_ ?_
  ·refine ⟨Nat.zero_le _, rfl, ?_⟩
   exact M
  rintro ⟨k6, u_16_6, l_16_6⟩ jj6 w17 ⟨hk6, hon, M⟩
  have hoJ80 := M.old
  refine wc_seq <| wc_region <| wl_m M (q_lss rfl rfl) rfl rfl <| wl_nil ?_
  refine wc_seq ?_
  refine wc_dec rfl (fun ht84 => ?_) (fun ht84 => ?_)
  ·refine wc_skip ?_
   refine wc_seq <| wc_block ?_
   refine wc_seq <| wc_region <| wl_mv M rfl rfl <| wl_as M rfl rfl <| wl_nil ?_
   refine wc_seq <| wc_region <| wl_mv M rfl rfl <| wl_mv M rfl rfl ?_
   refine wl_ix (j := k6) M R80 Try.underlying89 rfl (ixe (by omega)) (getD_at (d := false) (by omega)) rfl (fun b88 o88 p88 => ?_)
   refine wl_m M (q_ldp p88 rfl rfl) rfl rfl <| wl_nil ?_
   refine wc_cond rfl (fun ht89 => ?_) (fun ht89 => ?_)
   ·refine wc_region <| wl_mv M rfl rfl <| wl_mv M rfl rfl <| wl_e (e_bsI (E := EInt) (xs := [(k6 : Int)]) M (bs_22_1 _) ⟨⟨rfl, rfl⟩, trivial⟩ rfl rfl (by decide)) rfl rfl ?_
    rintro _ w18 ⟨u92, J92, rfl, hJ92, R92, M⟩
    have hoJ92 := M.old
    refine wl_e (e_app 0 M rfl R92 Try.underlying22 rfl rfl (by have h1 := onL_len (bs := bs80) (k := k6); rw [hon]; show (_ + 1) * 8 ≤ _; omega)) rfl rfl ?_
    rintro _ w19 ⟨u93, rfl, M⟩
    replace M := M.less hJ92 hoJ80
    try simp only [sC0, sCS] at M
    refine wl_as M rfl rfl <| wl_nil <| wc_region <| wl_m M (q_add rfl rfl (IntWalk.i64_in _ (by omega))) rfl rfl ?_
    refine wl_mv M rfl rfl <| wl_nil ?_
    refine ⟨(k6 + 1, u93, l_16_6 ++ [(k6 : Int)]), ?_, ⟨(by omega), (by rw [onL_yes ht89, ← hon]), M⟩, ⟨rfl, rfl, trivial⟩, unw_look rfl unw_base⟩
    show m - (k6 + 1) < m - k6
    omega
   refine wc_skip <| wc_region <| wl_m M (q_add rfl rfl (IntWalk.i64_in _ (by omega))) rfl rfl ?_
   refine wl_mv M rfl rfl <| wl_nil ?_
   refine ⟨(k6 + 1, u_16_6, l_16_6), ?_, ⟨(by omega), (by rw [onL_no ht89]; exact hon), M⟩, ⟨rfl, rfl, trivial⟩, unw_look rfl unw_base⟩
   show m - (k6 + 1) < m - k6
   omega
  have hke6 : k6 = m := by omega
  rw [hke6] at hon
  refine wc_exit rfl ?_
  refine wc_seq <| wc_region <| wl_mv M rfl rfl <| wl_as M rfl rfl <| wl_nil <| wc_ret ?_
  obtain ⟨K1, M, hK1, Rk1⟩ := M.frzRow 0 rfl
  exact out1 rfl rfl ⟨_, K1, rfl, (M.grow : Grow w I _ K1), _, Rk1, fun h => (by rw [hv] at h; cases h), fun _ => ⟨m, bs44, bs80, ha, ⟨hbl44, hb44⟩, fun h => absurd h (nd_t ht46), fun _ => ⟨hbl80, hb80⟩, hon⟩⟩
 refine wc_skip ?_
 refine wc_seq <| wc_region <| wl_as M rfl rfl ?_
 replace M := M.nilRow EInt
 refine wl_nil ?_
 refine wc_seq ?_
 refine wc_seq <| wc_region <| wl_m M (q_fa fo_25_0 rfl) rfl rfl <| wl_m M (q_ldb 1 Try.underlying3 rfl rfl rfl rfl) rfl rfl <| wl_mv M rfl rfl <| wl_nil <| wc_block ?_
 refine wc_loop (α := Nat × SV × (List Int)) [16, 17, 83, 84, 85, 86, 87, 88, 89, 90, 91, 92, 93, 94] (fun ((k6, u_16_6, l_16_6) : Nat × SV × (List Int)) => [(83, .int .i64 (k6 : Int)), (16, sv u_16_6)])
   (fun ((k6, u_16_6, l_16_6) : Nat × SV × (List Int)) w' => (k6 ≤ m) ∧ (l_16_6 = onL bs44 k6) ∧ Mem w I J44 (row EInt (sv u_16_6) l_16_6 :: box b3 25 [.int .i64 t.states, .int .i64 t.start, sv fu1, sv au1] :: []) w')
   (fun ((k6, u_16_6, l_16_6) : Nat × SV × (List Int)) => m - k6) (0, nilV, []) ⟨rfl, rfl, trivial⟩ ?_ ?_
 ·refine ⟨Nat.zero_le _, rfl, ?_⟩
  exact M
 rintro ⟨k6, u_16_6, l_16_6⟩ jj6 w20 ⟨hk6, hon, M⟩
 have hoJ44 := M.old
 refine wc_seq <| wc_region <| wl_m M (q_lss rfl rfl) rfl rfl <| wl_nil ?_
 refine wc_seq ?_
 refine wc_dec rfl (fun ht84 => ?_) (fun ht84 => ?_)
 ·refine wc_skip ?_
  refine wc_seq <| wc_block ?_
  refine wc_seq <| wc_region <| wl_mv M rfl rfl <| wl_as M rfl rfl <| wl_nil ?_
  refine wc_seq <| wc_region <| wl_mv M rfl rfl <| wl_mv M rfl rfl ?_
  refine wl_ix (j := k6) M R44 Try.underlying89 rfl (ixe (by omega)) (getD_at (d := false) (by omega)) rfl (fun b88 o88 p88 => ?_)
  refine wl_m M (q_ldp p88 rfl rfl) rfl rfl <| wl_nil ?_
  refine wc_cond rfl (fun ht89 => ?_) (fun ht89 => ?_)
  ·refine wc_region <| wl_mv M rfl rfl <| wl_mv M rfl rfl <| wl_e (e_bsI (E := EInt) (xs := [(k6 : Int)]) M (bs_22_1 _) ⟨⟨rfl, rfl⟩, trivial⟩ rfl rfl (by decide)) rfl rfl ?_
   rintro _ w21 ⟨u92, J92, rfl, hJ92, R92, M⟩
   have hoJ92 := M.old
   refine wl_e (e_app 0 M rfl R92 Try.underlying22 rfl rfl (by have h1 := onL_len (bs := bs44) (k := k6); rw [hon]; show (_ + 1) * 8 ≤ _; omega)) rfl rfl ?_
   rintro _ w22 ⟨u93, rfl, M⟩
   replace M := M.less hJ92 hoJ44
   try simp only [sC0, sCS] at M
   refine wl_as M rfl rfl <| wl_nil <| wc_region <| wl_m M (q_add rfl rfl (IntWalk.i64_in _ (by omega))) rfl rfl ?_
   refine wl_mv M rfl rfl <| wl_nil ?_
   refine ⟨(k6 + 1, u93, l_16_6 ++ [(k6 : Int)]), ?_, ⟨(by omega), (by rw [onL_yes ht89, ← hon]), M⟩, ⟨rfl, rfl, trivial⟩, unw_look rfl unw_base⟩
   show m - (k6 + 1) < m - k6
   omega
  refine wc_skip <| wc_region <| wl_m M (q_add rfl rfl (IntWalk.i64_in _ (by omega))) rfl rfl ?_
  refine wl_mv M rfl rfl <| wl_nil ?_
  refine ⟨(k6 + 1, u_16_6, l_16_6), ?_, ⟨(by omega), (by rw [onL_no ht89]; exact hon), M⟩, ⟨rfl, rfl, trivial⟩, unw_look rfl unw_base⟩
  show m - (k6 + 1) < m - k6
  omega
 have hke6 : k6 = m := by omega
 rw [hke6] at hon
 refine wc_exit rfl ?_
 refine wc_seq <| wc_region <| wl_mv M rfl rfl <| wl_as M rfl rfl <| wl_nil <| wc_ret ?_
 obtain ⟨K1, M, hK1, Rk1⟩ := M.frzRow 0 rfl
 exact out1 rfl rfl ⟨_, K1, rfl, (M.grow : Grow w I _ K1), _, Rk1, fun h => (by rw [hv] at h; cases h), fun _ => ⟨m, bs44, bs44, ha, ⟨hbl44, hb44⟩, fun _ => rfl, fun h => absurd (nd_f ht46) h, hon⟩⟩
end Go.Proofs.Ytfepjcmjkaolgaa.G
