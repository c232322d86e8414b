/- Walks of the program's functions. -/
import Derived.Test.YtmjieefhjmiagaaDoorWR
set_option linter.all false
namespace Go.Proofs.YtmjieefhjmiagaaDoor.G
open Go Go.RowKit
theorem follows_c (t : Tra) {N : Nat} (hst : t.states = N) (hN : N ≤ 262144) (hr : t.Rng N) (hal : t.arcs.length ≤ 274877906944) (hfl : t.finals.length ≤ 274877906944) (x z : ByteArray) (hx : x.size ≤ 70368744177664) (hz : z.size ≤ 70368744177664) (hlx : (runesL x).length ≤ 40) (hlz : (runesL z).length ≤ 40) {v : Value} {I : Heap} {w : World} (hI : hle I (hp w)) (R : t.rd I v) :
    Calls A 45 #[v, .string x, .string z] w (Ret w I fun r _ => r = .bool (relB t (runesL x) (runesL z))) := by
  obtain ⟨fu, au, rfl, Rf, Ra⟩ := R
  have hs0 : ((t.start.toNat : Nat) : Int) = t.start := Int.toNat_of_nonneg hr.start.1
  have hs1 : t.start.toNat < N := by have := hr.start; omega
  obtain ⟨hb1, hb2, hb3, hb4, hb5⟩ := pl_bound (w := (runesL x).length + 1) (h := (runesL z).length + 1) (i := 0) (j := 0) hs1 hN (by omega) (by omega) (by omega) (by omega)
  have hsl : t.start.toNat * ((runesL x).length + 1) * ((runesL z).length + 1) < N * ((runesL x).length + 1) * ((runesL z).length + 1) := by have := plI_lt (w := (runesL x).length + 1) (h := (runesL z).length + 1) (i := 0) (j := 0) hs1 (by omega) (by omega); simpa using this
  have M := Mem.start hI
  refine enter Tryd.func45 rfl 136 Tryd.ntmps45 [_, _, _] rfl ?_
  refine wc_seq ?_
  refine wc_region ?_
  refine wl_e (e_box M rfl) rfl rfl ?_
  rintro _ w1 ⟨b3, rfl, M⟩
  refine wl_m M (q_assign rfl) rfl rfl ?_
  refine wl_nil ?_
  refine wc_seq ?_
  refine wc_region ?_
  refine wl_m M (q_move rfl) rfl rfl ?_
  refine wl_e (e_cvRI (E := ERune) (s := x) M (fun _ => rfl) Tryd.underlying9 Tryd.underlying84 Tryd.underlying21 hx rfl) rfl rfl ?_
  rintro v22 w2 ⟨J22, hJ22, R22, M⟩
  obtain ⟨u22, rfl⟩ := rdSl_slice R22
  have hoJ22 := M.old
  replace R22 : rdSl ERune J22 (sv u22) (runesL x) := R22
  refine wl_m M (q_move rfl) rfl rfl ?_
  refine wl_e (e_cvRI (E := ERune) (s := z) M (fun _ => rfl) Tryd.underlying9 Tryd.underlying84 Tryd.underlying21 hz rfl) rfl rfl ?_
  rintro v24 w3 ⟨J24, hJ24, R24, M⟩
  obtain ⟨u24, rfl⟩ := rdSl_slice R24
  have hoJ24 := M.old
  replace R24 : rdSl ERune J24 (sv u24) (runesL z) := R24
  refine wl_m M (q_assign rfl) rfl rfl ?_
  refine wl_m M (q_assign rfl) rfl rfl ?_
  refine wl_nil ?_
  refine wc_seq ?_
  refine wc_region ?_
  refine wl_m M (q_move rfl) rfl rfl ?_
  refine wl_m M (q_lenR (R22.mono hJ24) Tryd.underlying84 rfl) rfl rfl ?_
  refine wl_m M (q_add (z := (((runesL x).length + 1 : Nat) : Int)) rfl rfl (by rw [show ((runesL x).length : Int) + 1 = (((runesL x).length + 1 : Nat) : Int) by simp]; exact IntWalk.i64_in _ (by omega))) rfl rfl ?_
  refine wl_m M (q_move rfl) rfl rfl ?_
  refine wl_m M (q_lenR R24 Tryd.underlying84 rfl) rfl rfl ?_
  refine wl_m M (q_add (z := (((runesL z).length + 1 : Nat) : Int)) rfl rfl (by rw [show ((runesL z).length : Int) + 1 = (((runesL z).length + 1 : Nat) : Int) by simp]; exact IntWalk.i64_in _ (by omega))) rfl rfl ?_
  refine wl_m M (q_assign rfl) rfl rfl ?_
  refine wl_m M (q_assign rfl) rfl rfl ?_
  refine wl_nil ?_
  refine wc_seq ?_
  refine wc_region ?_
  refine wl_m M (q_fa fo_25_0 rfl) rfl rfl ?_
  refine wl_m M (q_ldb 0 Tryd.underlying3 rfl rfl rfl rfl) rfl rfl ?_
  refine wl_m M (q_move rfl) rfl rfl ?_
  refine wl_m M (q_mul (z := ((N * ((runesL x).length + 1) : Nat) : Int)) rfl rfl (by rw [show t.states * ((((runesL x).length + 1) : Nat) : Int) = ((N * ((runesL x).length + 1) : Nat) : Int) by rw [hst, ← Int.natCast_mul]]; exact IntWalk.i64_in _ (by omega))) rfl rfl ?_
  refine wl_m M (q_move rfl) rfl rfl ?_
  refine wl_m M (q_mul (z := ((N * ((runesL x).length + 1) * ((runesL z).length + 1) : Nat) : Int)) rfl rfl (by rw [show ((N * ((runesL x).length + 1) : Nat) : Int) * ((((runesL z).length + 1) : Nat) : Int) = ((N * ((runesL x).length + 1) * ((runesL z).length + 1) : Nat) : Int) by rw [← Int.natCast_mul]]; exact IntWalk.i64_in _ (by omega))) rfl rfl ?_
  refine wl_e (e_make (E := EBool) (zv := false) (m := (N * ((runesL x).length + 1) * ((runesL z).length + 1))) M Tryd.underlying108 z4 rfl rfl (by show _ * 1 ≤ _; omega)) rfl rfl ?_
  rintro _ w4 ⟨u37, rfl, M⟩
  refine wl_m M (q_assign rfl) rfl rfl ?_
  refine wl_nil ?_
  refine wc_seq ?_
  refine wc_region ?_
  refine wl_m M (q_move rfl) rfl rfl ?_
  refine wl_m M (q_fa fo_25_1 rfl) rfl rfl ?_
  refine wl_m M (q_ldb 1 Tryd.underlying3 rfl rfl rfl rfl) rfl rfl ?_
  refine wl_m M (q_move rfl) rfl rfl ?_
  refine wl_m M (q_mul (z := ((t.start.toNat * ((runesL x).length + 1) : Nat) : Int)) rfl rfl (by rw [show t.start * ((((runesL x).length + 1) : Nat) : Int) = ((t.start.toNat * ((runesL x).length + 1) : Nat) : Int) by rw [Int.natCast_mul, hs0]]; exact IntWalk.i64_in _ (by omega))) rfl rfl ?_
  refine wl_m M (q_move rfl) rfl rfl ?_
  refine wl_m M (q_mul (z := ((t.start.toNat * ((runesL x).length + 1) * ((runesL z).length + 1) : Nat) : Int)) rfl rfl (by rw [show ((t.start.toNat * ((runesL x).length + 1) : Nat) : Int) * ((((runesL z).length + 1) : Nat) : Int) = ((t.start.toNat * ((runesL x).length + 1) * ((runesL z).length + 1) : Nat) : Int) by rw [← Int.natCast_mul]]; exact IntWalk.i64_in _ (by omega))) rfl rfl ?_
  refine wl_ixw (j := (t.start.toNat * ((runesL x).length + 1) * ((runesL z).length + 1))) 0 M rfl Tryd.underlying108 rfl rfl (by rw [List.length_replicate]; exact hsl) rfl (fun b45 o45 p45 => ?_)
  refine wl_e0 (e_str (u := true) 0 M rfl rfl rfl p45 (by rw [List.length_replicate]; exact hsl) rfl) rfl ?_
  intro _ w5 M
  simp only [List.set_cons_zero, List.set_cons_succ] at M
  refine wl_nil ?_
  refine wc_seq ?_
  refine wc_seq ?_
  refine wc_region ?_
  refine wl_m M (q_assign rfl) rfl rfl ?_
  refine wl_nil ?_
  refine wc_block ?_
  refine wc_loop (α := Bool × (List Bool)) [12, 14, 15, 16, 17, 18, 46, 47, 48, 49, 50, 51, 52, 53, 54, 55, 56, 57, 58, 59, 60, 61, 62, 63, 64, 65, 66, 67, 68, 69, 70, 71, 72, 73, 74, 75, 76, 77, 78, 79, 80, 81, 82, 83, 84, 85, 86, 87, 88, 89, 90, 91, 92, 93, 94, 95, 96, 97, 98, 99, 100, 101, 102, 103, 104, 105, 106, 107, 108, 109, 110, 111, 112, 113] (fun ((ag0, l_37_0) : Bool × (List Bool)) => [(12, .bool ag0)])
    (fun ((ag0, l_37_0) : Bool × (List Bool)) w' => (l_37_0.length = N * ((runesL x).length + 1) * ((runesL z).length + 1) ∧ (∀ s, on l_37_0 s → plR t (runesL x) (runesL z) ((runesL x).length + 1) ((runesL z).length + 1) s) ∧ (∀ s, (· = t.start.toNat * ((runesL x).length + 1) * ((runesL z).length + 1)) s → on l_37_0 s)) ∧ (ag0 = false → ∀ e ∈ t.arcs.flatMap (prI (runesL x) (runesL z) ((runesL x).length + 1) ((runesL z).length + 1)), on l_37_0 e.1 → on l_37_0 e.2) ∧ Mem w I J24 (row EBool (sv u37) l_37_0 :: box b3 25 [.int .i64 t.states, .int .i64 t.start, sv fu, sv au] :: []) w')
    (fun ((ag0, l_37_0) : Bool × (List Bool)) => 2 * (l_37_0.count false) + ag0.toNat) (true, (List.replicate (N * ((runesL x).length + 1) * ((runesL z).length + 1)) false).set (t.start.toNat * ((runesL x).length + 1) * ((runesL z).length + 1)) true) ⟨rfl, trivial⟩ ?_ ?_
  · refine ⟨⟨by simp, fun s hs => by rcases (on_set (by rw [List.length_replicate]; exact hsl)).1 hs with rfl | h; exact ⟨t.start.toNat, 0, 0, .base (by rw [hs0]; rfl), by simp⟩; exact absurd h on_rep, fun s hs => (on_set (by rw [List.length_replicate]; exact hsl)).2 (.inl hs)⟩, nofun, ?_⟩
    exact M
  rintro ⟨ag0, l_37_0⟩ jj0 w6 ⟨h2, h3, M⟩
  have hoJ24 := M.old
  refine wc_seq ?_
  refine wc_seq ?_
  refine wc_region ?_
  refine wl_m M (q_move rfl) rfl rfl ?_
  refine wl_nil ?_
  refine wc_cond rfl (fun ht46 => ?_) (fun ht46 => ?_)
  · refine wc_skip ?_
    refine wc_block ?_
    refine wc_seq ?_
    refine wc_region ?_
    refine wl_m M (q_assign rfl) rfl rfl ?_
    refine wl_nil ?_
    refine wc_seq ?_
    refine wc_region ?_
    refine wl_m M (q_fa fo_25_3 rfl) rfl rfl ?_
    refine wl_m M (q_ldb 1 Tryd.underlying23 rfl rfl rfl rfl) rfl rfl ?_
    refine wl_m M (q_lenR ((Ra.mono hJ22).mono hJ24) Tryd.underlying23 rfl) rfl rfl ?_
    refine wl_m M (q_move rfl) rfl rfl ?_
    refine wl_nil ?_
    refine wc_block ?_
    refine wc_loop (α := Nat × Bool × (List Bool)) [12, 14, 15, 16, 17, 18, 50, 51, 52, 53, 54, 55, 56, 57, 58, 59, 60, 61, 62, 63, 64, 65, 66, 67, 68, 69, 70, 71, 72, 73, 74, 75, 76, 77, 78, 79, 80, 81, 82, 83, 84, 85, 86, 87, 88, 89, 90, 91, 92, 93, 94, 95, 96, 97, 98, 99, 100, 101, 102, 103, 104, 105, 106, 107, 108, 109, 110, 111, 112, 113] (fun ((k2, ag2, l_37_2) : Nat × Bool × (List Bool)) => [(12, .bool ag2), (50, .int .i64 (k2 : Int))])
      (fun ((k2, ag2, l_37_2) : Nat × Bool × (List Bool)) w' => (k2 ≤ t.arcs.length) ∧ (PassN (plR t (runesL x) (runesL z) ((runesL x).length + 1) ((runesL z).length + 1)) (· = t.start.toNat * ((runesL x).length + 1) * ((runesL z).length + 1)) (N * ((runesL x).length + 1) * ((runesL z).length + 1)) l_37_0 ((t.arcs.take k2).flatMap (prI (runesL x) (runesL z) ((runesL x).length + 1) ((runesL z).length + 1))) l_37_2 ag2) ∧ Mem w I J24 (row EBool (sv u37) l_37_2 :: box b3 25 [.int .i64 t.states, .int .i64 t.start, sv fu, sv au] :: []) w')
      (fun ((k2, ag2, l_37_2) : Nat × Bool × (List Bool)) => t.arcs.length - k2) (0, false, l_37_0) ⟨rfl, rfl, trivial⟩ ?_ ?_
    · refine ⟨Nat.zero_le _, PassN.start h2.1 h2.2.1 h2.2.2, ?_⟩
      exact M
    rintro ⟨k2, ag2, l_37_2⟩ jj2 w7 ⟨hk2, hp, M⟩
    have hoJ24 := M.old
    refine wc_seq ?_
    refine wc_region ?_
    refine wl_m M (q_lss rfl rfl) rfl rfl ?_
    refine wl_nil ?_
    refine wc_seq ?_
    refine wc_dec rfl (fun ht51 => ?_) (fun ht51 => ?_)
    · obtain ⟨x2, hx2⟩ : ∃ x_, t.arcs[k2]? = some x_ := ⟨_, List.getElem?_eq_getElem (by omega)⟩
      have hll2 := (((Ra.mono hJ22).mono hJ24)).len_le
      have hx2r := hr.arcs x2 (List.mem_of_getElem? hx2)
      have hsr : ((x2.src.toNat : Nat) : Int) = x2.src := Int.toNat_of_nonneg hx2r.1.1
      have hdr : ((x2.dst.toNat : Nat) : Int) = x2.dst := Int.toNat_of_nonneg hx2r.2.1
      have hs2 : x2.src.toNat < N := by omega
      have hd1 : x2.dst.toNat < N := by omega
      refine wc_skip ?_
      refine wc_seq ?_
      refine wc_block ?_
      refine wc_seq ?_
      refine wc_region ?_
      refine wl_ix (j := k2) M ((Ra.mono hJ22).mono hJ24) Tryd.underlying23 rfl rfl hx2 rfl (fun b52 o52 p52 => ?_)
      refine wl_m M (q_ldp p52 rfl rfl) rfl rfl ?_
      refine wl_e (e_alloc M z48) rfl rfl ?_
      rintro _ w8 ⟨b14, rfl, M⟩
      refine wl_e0 (e_stW 0 M rfl rfl rfl sz48 rfl rfl) rfl ?_
      intro _ w9 M
      simp only [List.set_cons_zero, List.set_cons_succ] at M
      refine wl_nil ?_
      refine wc_seq ?_
      refine wc_region ?_
      refine wl_m M (q_assign rfl) rfl rfl ?_
      refine wl_nil ?_
      refine wc_block ?_
      refine wc_loop (α := Nat × Bool × (List Bool)) [12, 15, 16, 17, 18, 54, 55, 56, 57, 58, 59, 60, 61, 62, 63, 64, 65, 66, 67, 68, 69, 70, 71, 72, 73, 74, 75, 76, 77, 78, 79, 80, 81, 82, 83, 84, 85, 86, 87, 88, 89, 90, 91, 92, 93, 94, 95, 96, 97, 98, 99, 100, 101, 102, 103, 104, 105, 106, 107, 108, 109, 110, 111, 112] (fun ((k4, ag4, l_37_4) : Nat × Bool × (List Bool)) => [(12, .bool ag4), (15, .int .i64 (k4 : Int))])
        (fun ((k4, ag4, l_37_4) : Nat × Bool × (List Bool)) w' => (k4 ≤ ((runesL x).length + 1)) ∧ (PassN (plR t (runesL x) (runesL z) ((runesL x).length + 1) ((runesL z).length + 1)) (· = t.start.toNat * ((runesL x).length + 1) * ((runesL z).length + 1)) (N * ((runesL x).length + 1) * ((runesL z).length + 1)) l_37_0 ((t.arcs.take k2).flatMap (prI (runesL x) (runesL z) ((runesL x).length + 1) ((runesL z).length + 1)) ++ (List.range k4).flatMap (prJ (runesL x) (runesL z) ((runesL x).length + 1) ((runesL z).length + 1) x2)) l_37_4 ag4) ∧ Mem w I J24 (box b14 48 [.int .i64 x2.src, .int .i64 x2.dst, .int .i32 x2.inp, .int .i32 x2.out] :: row EBool (sv u37) l_37_4 :: box b3 25 [.int .i64 t.states, .int .i64 t.start, sv fu, sv au] :: []) w')
        (fun ((k4, ag4, l_37_4) : Nat × Bool × (List Bool)) => ((runesL x).length + 1) - k4) (0, ag2, l_37_2) ⟨rfl, rfl, trivial⟩ ?_ ?_
      · refine ⟨Nat.zero_le _, (by simpa using hp), ?_⟩
        exact M
      rintro ⟨k4, ag4, l_37_4⟩ jj4 w10 ⟨hk4, hp4, M⟩
      have hoJ24 := M.old
      refine wc_seq ?_
      refine wc_seq ?_
      refine wc_region ?_
      refine wl_m M (q_move rfl) rfl rfl ?_
      refine wl_m M (q_move rfl) rfl rfl ?_
      refine wl_m M (q_lss rfl rfl) rfl rfl ?_
      refine wl_nil ?_
      refine wc_dec rfl (fun ht56 => ?_) (fun ht56 => ?_)
      · refine wc_skip ?_
        refine wc_seq ?_
        refine wc_block ?_
        refine wc_seq ?_
        refine wc_region ?_
        refine wl_m M (q_assign rfl) rfl rfl ?_
        refine wl_nil ?_
        refine wc_block ?_
        refine wc_loop (α := Nat × Bool × (List Bool)) [12, 16, 17, 18, 59, 60, 61, 62, 63, 64, 65, 66, 67, 68, 69, 70, 71, 72, 73, 74, 75, 76, 77, 78, 79, 80, 81, 82, 83, 84, 85, 86, 87, 88, 89, 90, 91, 92, 93, 94, 95, 96, 97, 98, 99, 100, 101, 102, 103, 104, 105, 106, 107, 108, 109, 110, 111, 112] (fun ((k6, ag6, l_37_6) : Nat × Bool × (List Bool)) => [(12, .bool ag6), (16, .int .i64 (k6 : Int))])
          (fun ((k6, ag6, l_37_6) : Nat × Bool × (List Bool)) w' => (k6 ≤ ((runesL z).length + 1)) ∧ (PassN (plR t (runesL x) (runesL z) ((runesL x).length + 1) ((runesL z).length + 1)) (· = t.start.toNat * ((runesL x).length + 1) * ((runesL z).length + 1)) (N * ((runesL x).length + 1) * ((runesL z).length + 1)) l_37_0 ((t.arcs.take k2).flatMap (prI (runesL x) (runesL z) ((runesL x).length + 1) ((runesL z).length + 1)) ++ (List.range k4).flatMap (prJ (runesL x) (runesL z) ((runesL x).length + 1) ((runesL z).length + 1) x2) ++ (List.range k6).flatMap (prE (runesL x) (runesL z) ((runesL x).length + 1) ((runesL z).length + 1) x2 k4)) l_37_6 ag6) ∧ Mem w I J24 (box b14 48 [.int .i64 x2.src, .int .i64 x2.dst, .int .i32 x2.inp, .int .i32 x2.out] :: row EBool (sv u37) l_37_6 :: box b3 25 [.int .i64 t.states, .int .i64 t.start, sv fu, sv au] :: []) w')
          (fun ((k6, ag6, l_37_6) : Nat × Bool × (List Bool)) => ((runesL z).length + 1) - k6) (0, ag4, l_37_4) ⟨rfl, rfl, trivial⟩ ?_ ?_
        · refine ⟨Nat.zero_le _, (by simpa using hp4), ?_⟩
          exact M
        rintro ⟨k6, ag6, l_37_6⟩ jj6 w11 ⟨hk6, hp6, M⟩
        have hoJ24 := M.old
        refine wc_seq ?_
        refine wc_seq ?_
        refine wc_region ?_
        refine wl_m M (q_move rfl) rfl rfl ?_
        refine wl_m M (q_move rfl) rfl rfl ?_
        refine wl_m M (q_lss rfl rfl) rfl rfl ?_
        refine wl_nil ?_
        refine wc_dec rfl (fun ht61 => ?_) (fun ht61 => ?_)
        · have hj1 := plI_lt (w := (runesL x).length + 1) (h := (runesL z).length + 1) (i := k4) (j := k6) hs2 (by omega) (by omega)
          obtain ⟨hs3, hs4, _, _, _⟩ := pl_bound (w := (runesL x).length + 1) (h := (runesL z).length + 1) (i := k4) (j := k6) hs2 hN (by omega) (by omega) (by omega) (by omega)
          refine wc_skip ?_
          refine wc_seq ?_
          refine wc_block ?_
          refine wc_seq ?_
          refine wc_region ?_
          refine wl_m M (q_ldbA 0 Tryd.underlying48 rfl sz48 rfl rfl rfl rfl) rfl rfl ?_
          refine wl_m M (q_move rfl) rfl rfl ?_
          refine wl_m M (q_move rfl) rfl rfl ?_
          refine wl_m M (q_move rfl) rfl rfl ?_
          refine wl_m M (q_move rfl) rfl rfl ?_
          refine wl_e (e_callC M (target_c x2 (i := k4) (k := k6) (by omega) (by omega) (by omega) (by omega) M.imm (R22.mono hJ24) R24) Tryd.func70 rfl rfl) rfl rfl ?_
          rintro _ w12 ⟨J70, hJ70, rfl, M⟩
          replace M := M.less hJ70 hoJ24
          refine wl_m M (q_move rfl) rfl rfl ?_
          refine wl_m M (q_ext rfl rfl) rfl rfl ?_
          refine wl_m M (q_ext rfl rfl) rfl rfl ?_
          refine wl_m M (q_assign rfl) rfl rfl ?_
          refine wl_m M (q_assign rfl) rfl rfl ?_
          refine wl_nil ?_
          refine wc_seq ?_
          refine wc_join (α := Unit) [73, 74, 75, 76, 77, 78, 79, 80, 81, 82, 83, 84, 85, 86, 87, 88, 89, 90, 91, 92, 93, 94, 95, 96, 97, 98, 99, 100, 101, 102] (fun _ => [(102, .bool (((tgtB (runesL x) (runesL z) x2 k4 k6) && (l_37_6.getD ((x2.src.toNat * ((runesL x).length + 1) + k4) * ((runesL z).length + 1) + k6) false)) && (!(l_37_6.getD (x2.dst.toNat * ((runesL x).length + 1) * ((runesL z).length + 1) + (tgtK (runesL x) (runesL z) x2 k4 k6).toNat) false))))]) (fun _ w' => Mem w I J24 (box b14 48 [.int .i64 x2.src, .int .i64 x2.dst, .int .i32 x2.inp, .int .i32 x2.out] :: row EBool (sv u37) l_37_6 :: box b3 25 [.int .i64 t.states, .int .i64 t.start, sv fu, sv au] :: []) w') ?_ ?_
          · refine wc_region ?_
            refine wl_m M (q_move rfl) rfl rfl ?_
            refine wl_m M (q_move rfl) rfl rfl ?_
            rcases Bool.eq_false_or_eq_true (tgtB (runesL x) (runesL z) x2 k4 k6) with hg74 | hg74
            · refine wl_m M (q_guard 1 rfl rfl rfl hg74 (q_move rfl)) rfl rfl ?_
              obtain ⟨qi, qj, e1, e2, hq1, hq2, e3⟩ := tgt_nat hg74 (show k4 ≤ (runesL x).length by omega) (show k6 ≤ (runesL z).length by omega)
              have hk0 : 0 ≤ tgtK (runesL x) (runesL z) x2 k4 k6 := by omega
              have hkt : (tgtK (runesL x) (runesL z) x2 k4 k6).toNat = qi * ((runesL z).length + 1) + qj := by rw [e3]; exact Int.toNat_natCast _
              have hj3 : x2.dst.toNat * ((runesL x).length + 1) * ((runesL z).length + 1) + (qi * ((runesL z).length + 1) + qj) = (x2.dst.toNat * ((runesL x).length + 1) + qi) * ((runesL z).length + 1) + qj := by rw [Nat.add_mul]; omega
              have hjq := plI_lt (w := (runesL x).length + 1) (h := (runesL z).length + 1) (i := qi) (j := qj) hd1 (by omega) (by omega)
              have hj2 : x2.dst.toNat * ((runesL x).length + 1) * ((runesL z).length + 1) + (tgtK (runesL x) (runesL z) x2 k4 k6).toNat < N * ((runesL x).length + 1) * ((runesL z).length + 1) := by rw [hkt, hj3]; exact hjq
              obtain ⟨hc1, hc2, hc3, _, _⟩ := pl_bound (w := (runesL x).length + 1) (h := (runesL z).length + 1) (i := qi) (j := qj) hd1 hN (by omega) (by omega) (by omega) (by omega)
              refine wl_m M (q_guard 1 rfl rfl rfl hg74 (q_fa fo_48_0 rfl)) rfl rfl ?_
              refine wl_m M (q_guard 1 rfl rfl rfl hg74 (q_ldb 0 Tryd.underlying3 rfl rfl rfl rfl)) rfl rfl ?_
              refine wl_m M (q_guard 1 rfl rfl rfl hg74 (q_move rfl)) rfl rfl ?_
              refine wl_m M (q_guard 1 rfl rfl rfl hg74 (q_mul (z := ((x2.src.toNat * ((runesL x).length + 1) : Nat) : Int)) rfl rfl (by rw [show x2.src * ((((runesL x).length + 1) : Nat) : Int) = ((x2.src.toNat * ((runesL x).length + 1) : Nat) : Int) by rw [Int.natCast_mul, hsr]]; exact IntWalk.i64_in _ (by omega)))) rfl rfl ?_
              refine wl_m M (q_guard 1 rfl rfl rfl hg74 (q_move rfl)) rfl rfl ?_
              refine wl_m M (q_guard 1 rfl rfl rfl hg74 (q_add (z := ((x2.src.toNat * ((runesL x).length + 1) + k4 : Nat) : Int)) rfl rfl (by rw [show ((x2.src.toNat * ((runesL x).length + 1) : Nat) : Int) + (k4 : Int) = ((x2.src.toNat * ((runesL x).length + 1) + k4 : Nat) : Int) by rw [← Int.natCast_add]]; exact IntWalk.i64_in _ (by omega)))) rfl rfl ?_
              refine wl_m M (q_guard 1 rfl rfl rfl hg74 (q_move rfl)) rfl rfl ?_
              refine wl_m M (q_guard 1 rfl rfl rfl hg74 (q_mul (z := (((x2.src.toNat * ((runesL x).length + 1) + k4) * ((runesL z).length + 1) : Nat) : Int)) rfl rfl (by rw [show ((x2.src.toNat * ((runesL x).length + 1) + k4 : Nat) : Int) * ((((runesL z).length + 1) : Nat) : Int) = (((x2.src.toNat * ((runesL x).length + 1) + k4) * ((runesL z).length + 1) : Nat) : Int) by rw [← Int.natCast_mul]]; exact IntWalk.i64_in _ (by omega)))) rfl rfl ?_
              refine wl_m M (q_guard 1 rfl rfl rfl hg74 (q_move rfl)) rfl rfl ?_
              refine wl_m M (q_guard 1 rfl rfl rfl hg74 (q_add (z := (((x2.src.toNat * ((runesL x).length + 1) + k4) * ((runesL z).length + 1) + k6 : Nat) : Int)) rfl rfl (by rw [show (((x2.src.toNat * ((runesL x).length + 1) + k4) * ((runesL z).length + 1) : Nat) : Int) + (k6 : Int) = (((x2.src.toNat * ((runesL x).length + 1) + k4) * ((runesL z).length + 1) + k6 : Nat) : Int) by rw [← Int.natCast_add]]; exact IntWalk.i64_in _ (by omega)))) rfl rfl ?_
              refine wl_ixrG (j := ((x2.src.toNat * ((runesL x).length + 1) + k4) * ((runesL z).length + 1) + k6)) 1 rfl rfl rfl hg74 1 M rfl Tryd.underlying108 rfl rfl (getD_at (d := false) (by rw [hp6.len]; exact hj1)) rfl (fun b86 o86 p86 => ?_)
              refine wl_m M (q_guard 1 rfl rfl rfl hg74 (q_ldp p86 rfl rfl)) rfl rfl ?_
              refine wl_m M (q_pickT rfl hg74 rfl) rfl rfl ?_
              refine wl_m M (q_move rfl) rfl rfl ?_
              rcases Bool.eq_false_or_eq_true ((l_37_6.getD ((x2.src.toNat * ((runesL x).length + 1) + k4) * ((runesL z).length + 1) + k6) false)) with hg89 | hg89
              · refine wl_m M (q_guard 16 rfl rfl rfl hg89 (q_move rfl)) rfl rfl ?_
                refine wl_m M (q_guard 16 rfl rfl rfl hg89 (q_fa fo_48_1 rfl)) rfl rfl ?_
                refine wl_m M (q_guard 16 rfl rfl rfl hg89 (q_ldb 0 Tryd.underlying3 rfl rfl rfl rfl)) rfl rfl ?_
                refine wl_m M (q_guard 16 rfl rfl rfl hg89 (q_move rfl)) rfl rfl ?_
                refine wl_m M (q_guard 16 rfl rfl rfl hg89 (q_mul (z := ((x2.dst.toNat * ((runesL x).length + 1) : Nat) : Int)) rfl rfl (by rw [show x2.dst * ((((runesL x).length + 1) : Nat) : Int) = ((x2.dst.toNat * ((runesL x).length + 1) : Nat) : Int) by rw [Int.natCast_mul, hdr]]; exact IntWalk.i64_in _ (by omega)))) rfl rfl ?_
                refine wl_m M (q_guard 16 rfl rfl rfl hg89 (q_move rfl)) rfl rfl ?_
                refine wl_m M (q_guard 16 rfl rfl rfl hg89 (q_mul (z := ((x2.dst.toNat * ((runesL x).length + 1) * ((runesL z).length + 1) : Nat) : Int)) rfl rfl (by rw [show ((x2.dst.toNat * ((runesL x).length + 1) : Nat) : Int) * ((((runesL z).length + 1) : Nat) : Int) = ((x2.dst.toNat * ((runesL x).length + 1) * ((runesL z).length + 1) : Nat) : Int) by rw [← Int.natCast_mul]]; exact IntWalk.i64_in _ (by omega)))) rfl rfl ?_
                refine wl_m M (q_guard 16 rfl rfl rfl hg89 (q_move rfl)) rfl rfl ?_
                refine wl_m M (q_guard 16 rfl rfl rfl hg89 (q_add (z := ((x2.dst.toNat * ((runesL x).length + 1) * ((runesL z).length + 1) + (tgtK (runesL x) (runesL z) x2 k4 k6).toNat : Nat) : Int)) rfl rfl (by rw [show ((x2.dst.toNat * ((runesL x).length + 1) * ((runesL z).length + 1) : Nat) : Int) + tgtK (runesL x) (runesL z) x2 k4 k6 = ((x2.dst.toNat * ((runesL x).length + 1) * ((runesL z).length + 1) + (tgtK (runesL x) (runesL z) x2 k4 k6).toNat : Nat) : Int) by rw [Int.natCast_add, Int.toNat_of_nonneg hk0]]; exact IntWalk.i64_in _ (by omega)))) rfl rfl ?_
                refine wl_ixrG (j := (x2.dst.toNat * ((runesL x).length + 1) * ((runesL z).length + 1) + (tgtK (runesL x) (runesL z) x2 k4 k6).toNat)) 16 rfl rfl rfl hg89 1 M rfl Tryd.underlying108 rfl rfl (getD_at (d := false) (by rw [hp6.len]; exact hj2)) rfl (fun b99 o99 p99 => ?_)
                refine wl_m M (q_guard 16 rfl rfl rfl hg89 (q_ldp p99 rfl rfl)) rfl rfl ?_
                refine wl_m M (q_guard 16 rfl rfl rfl hg89 (q_not rfl)) rfl rfl ?_
                refine wl_m M (q_pickT rfl hg89 rfl) rfl rfl ?_
                refine wl_nil ?_
                exact ⟨(), M, ⟨(show some (Value.bool (!(l_37_6.getD (x2.dst.toNat * ((runesL x).length + 1) * ((runesL z).length + 1) + (tgtK (runesL x) (runesL z) x2 k4 k6).toNat) false))) = some (Value.bool (((tgtB (runesL x) (runesL z) x2 k4 k6) && (l_37_6.getD ((x2.src.toNat * ((runesL x).length + 1) + k4) * ((runesL z).length + 1) + k6) false)) && (!(l_37_6.getD (x2.dst.toNat * ((runesL x).length + 1) * ((runesL z).length + 1) + (tgtK (runesL x) (runesL z) x2 k4 k6).toNat) false)))) from by first | (simp only [hg74, hg89, Bool.true_or, Bool.false_or, Bool.true_and, Bool.false_and, Bool.or_true, Bool.or_false, Bool.and_true, Bool.and_false]; done) | simp_all), trivial⟩, unw_take 30 rfl rfl⟩
              · refine wl_m M (q_off 16 rfl rfl rfl hg89) rfl rfl ?_
                refine wl_m M (q_off 16 rfl rfl rfl hg89) rfl rfl ?_
                refine wl_m M (q_off 16 rfl rfl rfl hg89) rfl rfl ?_
                refine wl_m M (q_off 16 rfl rfl rfl hg89) rfl rfl ?_
                refine wl_m M (q_off 16 rfl rfl rfl hg89) rfl rfl ?_
                refine wl_m M (q_off 16 rfl rfl rfl hg89) rfl rfl ?_
                refine wl_m M (q_off 16 rfl rfl rfl hg89) rfl rfl ?_
                refine wl_m M (q_off 16 rfl rfl rfl hg89) rfl rfl ?_
                refine wl_m M (q_off 16 rfl rfl rfl hg89) rfl rfl ?_
                refine wl_m M (q_off 16 rfl rfl rfl hg89) rfl rfl ?_
                refine wl_m M (q_off 16 rfl rfl rfl hg89) rfl rfl ?_
                refine wl_m M (q_off 16 rfl rfl rfl hg89) rfl rfl ?_
                refine wl_m M (q_pickF rfl hg89 rfl) rfl rfl ?_
                refine wl_nil ?_
                exact ⟨(), M, ⟨(show some (Value.bool false) = some (Value.bool (((tgtB (runesL x) (runesL z) x2 k4 k6) && (l_37_6.getD ((x2.src.toNat * ((runesL x).length + 1) + k4) * ((runesL z).length + 1) + k6) false)) && (!(l_37_6.getD (x2.dst.toNat * ((runesL x).length + 1) * ((runesL z).length + 1) + (tgtK (runesL x) (runesL z) x2 k4 k6).toNat) false)))) from by first | (simp only [hg74, hg89, Bool.true_or, Bool.false_or, Bool.true_and, Bool.false_and, Bool.or_true, Bool.or_false, Bool.and_true, Bool.and_false]; done) | simp_all), trivial⟩, unw_take 30 rfl rfl⟩
            · refine wl_m M (q_off 1 rfl rfl rfl hg74) rfl rfl ?_
              refine wl_m M (q_off 1 rfl rfl rfl hg74) rfl rfl ?_
              refine wl_m M (q_off 1 rfl rfl rfl hg74) rfl rfl ?_
              refine wl_m M (q_off 1 rfl rfl rfl hg74) rfl rfl ?_
              refine wl_m M (q_off 1 rfl rfl rfl hg74) rfl rfl ?_
              refine wl_m M (q_off 1 rfl rfl rfl hg74) rfl rfl ?_
              refine wl_m M (q_off 1 rfl rfl rfl hg74) rfl rfl ?_
              refine wl_m M (q_off 1 rfl rfl rfl hg74) rfl rfl ?_
              refine wl_m M (q_off 1 rfl rfl rfl hg74) rfl rfl ?_
              refine wl_m M (q_off 1 rfl rfl rfl hg74) rfl rfl ?_
              refine wl_m M (q_off 1 rfl rfl rfl hg74) rfl rfl ?_
              refine wl_m M (q_off 1 rfl rfl rfl hg74) rfl rfl ?_
              refine wl_m M (q_off 1 rfl rfl rfl hg74) rfl rfl ?_
              refine wl_m M (q_pickF rfl hg74 rfl) rfl rfl ?_
              refine wl_m M (q_move rfl) rfl rfl ?_
              refine wl_m M (q_off 16 rfl rfl rfl rfl) rfl rfl ?_
              refine wl_m M (q_off 16 rfl rfl rfl rfl) rfl rfl ?_
              refine wl_m M (q_off 16 rfl rfl rfl rfl) rfl rfl ?_
              refine wl_m M (q_off 16 rfl rfl rfl rfl) rfl rfl ?_
              refine wl_m M (q_off 16 rfl rfl rfl rfl) rfl rfl ?_
              refine wl_m M (q_off 16 rfl rfl rfl rfl) rfl rfl ?_
              refine wl_m M (q_off 16 rfl rfl rfl rfl) rfl rfl ?_
              refine wl_m M (q_off 16 rfl rfl rfl rfl) rfl rfl ?_
              refine wl_m M (q_off 16 rfl rfl rfl rfl) rfl rfl ?_
              refine wl_m M (q_off 16 rfl rfl rfl rfl) rfl rfl ?_
              refine wl_m M (q_off 16 rfl rfl rfl rfl) rfl rfl ?_
              refine wl_m M (q_off 16 rfl rfl rfl rfl) rfl rfl ?_
              refine wl_m M (q_pickF rfl rfl rfl) rfl rfl ?_
              refine wl_nil ?_
              exact ⟨(), M, ⟨(show some (Value.bool false) = some (Value.bool (((tgtB (runesL x) (runesL z) x2 k4 k6) && (l_37_6.getD ((x2.src.toNat * ((runesL x).length + 1) + k4) * ((runesL z).length + 1) + k6) false)) && (!(l_37_6.getD (x2.dst.toNat * ((runesL x).length + 1) * ((runesL z).length + 1) + (tgtK (runesL x) (runesL z) x2 k4 k6).toNat) false)))) from by first | (simp only [hg74, Bool.true_or, Bool.false_or, Bool.true_and, Bool.false_and, Bool.or_true, Bool.or_false, Bool.and_true, Bool.and_false]; done) | simp_all), trivial⟩, unw_take 30 rfl rfl⟩
          rintro _ jr18 w13 M
          refine wc_cond rfl (fun ht102 => ?_) (fun ht102 => ?_)
          · simp only [Bool.and_eq_true, Bool.not_eq_true'] at ht102
            obtain ⟨⟨hg74, hon0⟩, hof0⟩ := ht102
            obtain ⟨qi, qj, e1, e2, hq1, hq2, e3⟩ := tgt_nat hg74 (show k4 ≤ (runesL x).length by omega) (show k6 ≤ (runesL z).length by omega)
            have hk0 : 0 ≤ tgtK (runesL x) (runesL z) x2 k4 k6 := by omega
            have hkt : (tgtK (runesL x) (runesL z) x2 k4 k6).toNat = qi * ((runesL z).length + 1) + qj := by rw [e3]; exact Int.toNat_natCast _
            have hj3 : x2.dst.toNat * ((runesL x).length + 1) * ((runesL z).length + 1) + (qi * ((runesL z).length + 1) + qj) = (x2.dst.toNat * ((runesL x).length + 1) + qi) * ((runesL z).length + 1) + qj := by rw [Nat.add_mul]; omega
            have hjq := plI_lt (w := (runesL x).length + 1) (h := (runesL z).length + 1) (i := qi) (j := qj) hd1 (by omega) (by omega)
            have hj2 : x2.dst.toNat * ((runesL x).length + 1) * ((runesL z).length + 1) + (tgtK (runesL x) (runesL z) x2 k4 k6).toNat < N * ((runesL x).length + 1) * ((runesL z).length + 1) := by rw [hkt, hj3]; exact hjq
            obtain ⟨hc1, hc2, hc3, _, _⟩ := pl_bound (w := (runesL x).length + 1) (h := (runesL z).length + 1) (i := qi) (j := qj) hd1 hN (by omega) (by omega) (by omega) (by omega)
            have hon : on l_37_6 ((x2.src.toNat * ((runesL x).length + 1) + k4) * ((runesL z).length + 1) + k6) := by unfold on; rw [getD_at (d := false) (by rw [hp6.len]; exact hj1)]; exact congrArg some hon0
            have hoff : l_37_6[x2.dst.toNat * ((runesL x).length + 1) * ((runesL z).length + 1) + (tgtK (runesL x) (runesL z) x2 k4 k6).toNat]? = some false := by rw [getD_at (d := false) (by rw [hp6.len]; exact hj2)]; exact congrArg some hof0
            have hstep : plR t (runesL x) (runesL z) ((runesL x).length + 1) ((runesL z).length + 1) ((x2.src.toNat * ((runesL x).length + 1) + k4) * ((runesL z).length + 1) + k6) → plR t (runesL x) (runesL z) ((runesL x).length + 1) ((runesL z).length + 1) (x2.dst.toNat * ((runesL x).length + 1) * ((runesL z).length + 1) + (tgtK (runesL x) (runesL z) x2 k4 k6).toNat) := fun h => by have := plR_step hr (List.mem_of_getElem? hx2) (i := k4) (j := k6) (by omega) (by omega) hg74 h; rw [hkt, hj3]; simpa only [e1, e2, Int.toNat_natCast] using this
            refine wc_seq ?_
            refine wc_region ?_
            refine wl_m M (q_move rfl) rfl rfl ?_
            refine wl_m M (q_fa fo_48_1 rfl) rfl rfl ?_
            refine wl_m M (q_ldb 0 Tryd.underlying3 rfl rfl rfl rfl) rfl rfl ?_
            refine wl_m M (q_move rfl) rfl rfl ?_
            refine wl_m M (q_mul (z := ((x2.dst.toNat * ((runesL x).length + 1) : Nat) : Int)) rfl rfl (by rw [show x2.dst * ((((runesL x).length + 1) : Nat) : Int) = ((x2.dst.toNat * ((runesL x).length + 1) : Nat) : Int) by rw [Int.natCast_mul, hdr]]; exact IntWalk.i64_in _ (by omega))) rfl rfl ?_
            refine wl_m M (q_move rfl) rfl rfl ?_
            refine wl_m M (q_mul (z := ((x2.dst.toNat * ((runesL x).length + 1) * ((runesL z).length + 1) : Nat) : Int)) rfl rfl (by rw [show ((x2.dst.toNat * ((runesL x).length + 1) : Nat) : Int) * ((((runesL z).length + 1) : Nat) : Int) = ((x2.dst.toNat * ((runesL x).length + 1) * ((runesL z).length + 1) : Nat) : Int) by rw [← Int.natCast_mul]]; exact IntWalk.i64_in _ (by omega))) rfl rfl ?_
            refine wl_m M (q_move rfl) rfl rfl ?_
            refine wl_m M (q_add (z := ((x2.dst.toNat * ((runesL x).length + 1) * ((runesL z).length + 1) + (tgtK (runesL x) (runesL z) x2 k4 k6).toNat : Nat) : Int)) rfl rfl (by rw [show ((x2.dst.toNat * ((runesL x).length + 1) * ((runesL z).length + 1) : Nat) : Int) + tgtK (runesL x) (runesL z) x2 k4 k6 = ((x2.dst.toNat * ((runesL x).length + 1) * ((runesL z).length + 1) + (tgtK (runesL x) (runesL z) x2 k4 k6).toNat : Nat) : Int) by rw [Int.natCast_add, Int.toNat_of_nonneg hk0]]; exact IntWalk.i64_in _ (by omega))) rfl rfl ?_
            refine wl_ixw (j := (x2.dst.toNat * ((runesL x).length + 1) * ((runesL z).length + 1) + (tgtK (runesL x) (runesL z) x2 k4 k6).toNat)) 1 M rfl Tryd.underlying108 rfl rfl (by rw [hp6.len]; exact hj2) rfl (fun b112 o112 p112 => ?_)
            refine wl_e0 (e_str (u := true) 1 M rfl rfl rfl p112 (by rw [hp6.len]; exact hj2) rfl) rfl ?_
            intro _ w14 M
            simp only [List.set_cons_zero, List.set_cons_succ] at M
            refine wl_nil ?_
            refine wc_region ?_
            refine wl_m M (q_assign rfl) rfl rfl ?_
            refine wl_nil ?_
            refine wc_region ?_
            refine wl_m M (q_move rfl) rfl rfl ?_
            refine wl_m M (q_add rfl rfl (IntWalk.i64_in _ (by omega))) rfl rfl ?_
            refine wl_m M (q_assign rfl) rfl rfl ?_
            refine wl_nil ?_
            refine ⟨(k6 + 1, true, l_37_6.set (x2.dst.toNat * ((runesL x).length + 1) * ((runesL z).length + 1) + (tgtK (runesL x) (runesL z) x2 k4 k6).toNat) true), ?_, ⟨(by omega), (hp6.hit _ hon hoff hstep), M⟩, ⟨rfl, rfl, trivial⟩, unw_look rfl (unw_hav rfl (unw_look rfl unw_base))⟩
            show ((runesL z).length + 1) - (k6 + 1) < ((runesL z).length + 1) - k6
            omega
          · have hsk : ∀ e ∈ prE (runesL x) (runesL z) ((runesL x).length + 1) ((runesL z).length + 1) x2 k4 k6, on l_37_6 e.1 → on l_37_6 e.2 := by
              intro e he hon
              unfold prE at he
              split at he
              · rename_i hg74
                obtain ⟨qi, qj, e1, e2, hq1, hq2, e3⟩ := tgt_nat hg74 (show k4 ≤ (runesL x).length by omega) (show k6 ≤ (runesL z).length by omega)
                have hk0 : 0 ≤ tgtK (runesL x) (runesL z) x2 k4 k6 := by omega
                have hkt : (tgtK (runesL x) (runesL z) x2 k4 k6).toNat = qi * ((runesL z).length + 1) + qj := by rw [e3]; exact Int.toNat_natCast _
                have hj3 : x2.dst.toNat * ((runesL x).length + 1) * ((runesL z).length + 1) + (qi * ((runesL z).length + 1) + qj) = (x2.dst.toNat * ((runesL x).length + 1) + qi) * ((runesL z).length + 1) + qj := by rw [Nat.add_mul]; omega
                have hjq := plI_lt (w := (runesL x).length + 1) (h := (runesL z).length + 1) (i := qi) (j := qj) hd1 (by omega) (by omega)
                have hj2 : x2.dst.toNat * ((runesL x).length + 1) * ((runesL z).length + 1) + (tgtK (runesL x) (runesL z) x2 k4 k6).toNat < N * ((runesL x).length + 1) * ((runesL z).length + 1) := by rw [hkt, hj3]; exact hjq
                obtain ⟨hc1, hc2, hc3, _, _⟩ := pl_bound (w := (runesL x).length + 1) (h := (runesL z).length + 1) (i := qi) (j := qj) hd1 hN (by omega) (by omega) (by omega) (by omega)
                rw [List.mem_singleton.1 he] at hon ⊢
                simp only [e1, e2, Int.toNat_natCast] at hon ⊢
                have h1 : l_37_6.getD ((x2.src.toNat * ((runesL x).length + 1) + k4) * ((runesL z).length + 1) + k6) false = true := by unfold on at hon; rw [List.getD_eq_getElem?_getD, hon]; rfl
                simp only [hg74, h1, Bool.true_and, Bool.not_eq_false', hkt, hj3] at ht102
                unfold on
                rw [getD_at (d := false) (by rw [hp6.len]; exact hjq)]
                exact congrArg some ht102
              · simp at he
            refine wc_skip ?_
            refine wc_region ?_
            refine wl_m M (q_move rfl) rfl rfl ?_
            refine wl_m M (q_add rfl rfl (IntWalk.i64_in _ (by omega))) rfl rfl ?_
            refine wl_m M (q_assign rfl) rfl rfl ?_
            refine wl_nil ?_
            refine ⟨(k6 + 1, ag6, l_37_6), ?_, ⟨(by omega), (by rw [range_flat, ← List.append_assoc]; exact hp6.skip _ hsk), M⟩, ⟨rfl, rfl, trivial⟩, unw_look rfl (unw_hav rfl (unw_look rfl unw_base))⟩
            show ((runesL z).length + 1) - (k6 + 1) < ((runesL z).length + 1) - k6
            omega
        · have hke6 : k6 = ((runesL z).length + 1) := by omega
          refine wc_exit rfl ?_
          refine wc_region ?_
          refine wl_m M (q_move rfl) rfl rfl ?_
          refine wl_m M (q_add rfl rfl (IntWalk.i64_in _ (by omega))) rfl rfl ?_
          refine wl_m M (q_assign rfl) rfl rfl ?_
          refine wl_nil ?_
          refine ⟨(k4 + 1, ag6, l_37_6), ?_, ⟨(by omega), (by rw [range_flat, ← List.append_assoc]; rw [hke6] at hp6; exact hp6), M⟩, ⟨rfl, rfl, trivial⟩, unw_look rfl (unw_hav rfl (unw_look rfl unw_base))⟩
          show ((runesL x).length + 1) - (k4 + 1) < ((runesL x).length + 1) - k4
          omega
      · have hke4 : k4 = ((runesL x).length + 1) := by omega
        refine wc_exit rfl ?_
        refine wc_region ?_
        refine wl_m M (q_add rfl rfl (IntWalk.i64_in _ (by omega))) rfl rfl ?_
        refine wl_m M (q_move rfl) rfl rfl ?_
        refine wl_nil ?_
        replace M := M.drop 0
        refine ⟨(k2 + 1, ag4, l_37_4), ?_, ⟨(by omega), (by rw [take_flat hx2]; rw [hke4] at hp4; exact hp4), M⟩, ⟨rfl, rfl, trivial⟩, unw_look rfl (unw_hav rfl (unw_look rfl unw_base))⟩
        show t.arcs.length - (k2 + 1) < t.arcs.length - k2
        omega
    · have hke2 : k2 = t.arcs.length := by omega
      refine wc_exit rfl ?_
      refine ⟨(ag2, l_37_2), ?_, ⟨⟨hp.len, hp.sub, hp.frm⟩, (fun e => by have := (hp.cl e).2; rw [hke2, List.take_length] at this; exact this), M⟩, ⟨rfl, trivial⟩, unw_look rfl (unw_hav rfl (unw_look rfl unw_base))⟩
      show 2 * (l_37_2.count false) + ag2.toNat < 2 * (l_37_0.count false) + ag0.toNat
      subst ht46
      cases hag : ag2 with
      | true => have := hp.up hag; simp; omega
      | false => have := (hp.cl hag).1; subst this; simp
  · refine wc_exit rfl ?_
    refine wc_seq ?_
    refine wc_seq ?_
    refine wc_region ?_
    refine wl_m M (q_fa fo_25_2 rfl) rfl rfl ?_
    refine wl_m M (q_ldb 1 Tryd.underlying22 rfl rfl rfl rfl) rfl rfl ?_
    refine wl_m M (q_lenR ((Rf.mono hJ22).mono hJ24) Tryd.underlying22 rfl) rfl rfl ?_
    refine wl_m M (q_move rfl) rfl rfl ?_
    refine wl_nil ?_
    refine wc_block ?_
    refine wc_loop (α := Nat) [6, 20, 117, 118, 119, 120, 121, 122, 123, 124, 125, 126, 127, 128, 129, 130, 131, 132, 133, 134, 135] (fun (k8 : Nat) => [(117, .int .i64 (k8 : Int))])
      (fun (k8 : Nat) w' => (k8 ≤ t.finals.length) ∧ (∀ f ∈ t.finals.take k8, ¬ on l_37_0 ((f.toNat * ((runesL x).length + 1) + (runesL x).length) * ((runesL z).length + 1) + (runesL z).length)) ∧ Mem w I J24 (row EBool (sv u37) l_37_0 :: box b3 25 [.int .i64 t.states, .int .i64 t.start, sv fu, sv au] :: []) w')
      (fun (k8 : Nat) => t.finals.length - k8) (0) ⟨rfl, trivial⟩ ?_ ?_
    · refine ⟨Nat.zero_le _, by simp, ?_⟩
      exact M
    rintro k8 jj8 w15 ⟨hk8, h8, M⟩
    have hoJ24 := M.old
    refine wc_seq ?_
    refine wc_region ?_
    refine wl_m M (q_lss rfl rfl) rfl rfl ?_
    refine wl_nil ?_
    refine wc_seq ?_
    refine wc_dec rfl (fun ht118 => ?_) (fun ht118 => ?_)
    · obtain ⟨x8, hx8⟩ : ∃ x_, t.finals[k8]? = some x_ := ⟨_, List.getElem?_eq_getElem (by omega)⟩
      have hll8 := (((Rf.mono hJ22).mono hJ24)).len_le
      have hx8r := hr.fin x8 (List.mem_of_getElem? hx8)
      have hf8 : ((x8.toNat : Nat) : Int) = x8 := Int.toNat_of_nonneg hx8r.1
      have hf9 : x8.toNat < N := by omega
      have hj8 := plI_lt (w := (runesL x).length + 1) (h := (runesL z).length + 1) (i := (runesL x).length) (j := (runesL z).length) hf9 (by omega) (by omega)
      obtain ⟨hc1, hc2, hc3, _, _⟩ := pl_bound (w := (runesL x).length + 1) (h := (runesL z).length + 1) (i := (runesL x).length) (j := (runesL z).length) hf9 hN (by omega) (by omega) (by omega) (by omega)
      have hg8 := getD_at (d := false) (xs := l_37_0) (k := (x8.toNat * ((runesL x).length + 1) + (runesL x).length) * ((runesL z).length + 1) + (runesL z).length) (by rw [h2.1]; exact hj8)
      refine wc_skip ?_
      refine wc_seq ?_
      refine wc_block ?_
      refine wc_seq ?_
      refine wc_region ?_
      refine wl_ix (j := k8) M ((Rf.mono hJ22).mono hJ24) Tryd.underlying22 rfl rfl hx8 rfl (fun b119 o119 p119 => ?_)
      refine wl_m M (q_ldp p119 rfl rfl) rfl rfl ?_
      refine wl_m M (q_assign rfl) rfl rfl ?_
      refine wl_nil ?_
      refine wc_seq ?_
      refine wc_region ?_
      refine wl_m M (q_move rfl) rfl rfl ?_
      refine wl_m M (q_move rfl) rfl rfl ?_
      refine wl_m M (q_move rfl) rfl rfl ?_
      refine wl_m M (q_mul (z := ((x8.toNat * ((runesL x).length + 1) : Nat) : Int)) rfl rfl (by rw [show x8 * ((((runesL x).length + 1) : Nat) : Int) = ((x8.toNat * ((runesL x).length + 1) : Nat) : Int) by rw [Int.natCast_mul, hf8]]; exact IntWalk.i64_in _ (by omega))) rfl rfl ?_
      refine wl_m M (q_move rfl) rfl rfl ?_
      refine wl_m M (q_add (z := ((x8.toNat * ((runesL x).length + 1) + ((runesL x).length + 1) : Nat) : Int)) rfl rfl (by rw [show ((x8.toNat * ((runesL x).length + 1) : Nat) : Int) + ((((runesL x).length + 1) : Nat) : Int) = ((x8.toNat * ((runesL x).length + 1) + ((runesL x).length + 1) : Nat) : Int) by rw [← Int.natCast_add]]; exact IntWalk.i64_in _ (by omega))) rfl rfl ?_
      refine wl_m M (q_sub (z := ((x8.toNat * ((runesL x).length + 1) + (runesL x).length : Nat) : Int)) rfl rfl (by rw [show ((x8.toNat * ((runesL x).length + 1) + ((runesL x).length + 1) : Nat) : Int) - 1 = ((x8.toNat * ((runesL x).length + 1) + (runesL x).length : Nat) : Int) by omega]; exact IntWalk.i64_in _ (by omega))) rfl rfl ?_
      refine wl_m M (q_move rfl) rfl rfl ?_
      refine wl_m M (q_mul (z := (((x8.toNat * ((runesL x).length + 1) + (runesL x).length) * ((runesL z).length + 1) : Nat) : Int)) rfl rfl (by rw [show ((x8.toNat * ((runesL x).length + 1) + (runesL x).length : Nat) : Int) * ((((runesL z).length + 1) : Nat) : Int) = (((x8.toNat * ((runesL x).length + 1) + (runesL x).length) * ((runesL z).length + 1) : Nat) : Int) by rw [← Int.natCast_mul]]; exact IntWalk.i64_in _ (by omega))) rfl rfl ?_
      refine wl_m M (q_move rfl) rfl rfl ?_
      refine wl_m M (q_add (z := (((x8.toNat * ((runesL x).length + 1) + (runesL x).length) * ((runesL z).length + 1) + ((runesL z).length + 1) : Nat) : Int)) rfl rfl (by rw [show (((x8.toNat * ((runesL x).length + 1) + (runesL x).length) * ((runesL z).length + 1) : Nat) : Int) + ((((runesL z).length + 1) : Nat) : Int) = (((x8.toNat * ((runesL x).length + 1) + (runesL x).length) * ((runesL z).length + 1) + ((runesL z).length + 1) : Nat) : Int) by rw [← Int.natCast_add]]; exact IntWalk.i64_in _ (by omega))) rfl rfl ?_
      refine wl_m M (q_sub (z := (((x8.toNat * ((runesL x).length + 1) + (runesL x).length) * ((runesL z).length + 1) + (runesL z).length : Nat) : Int)) rfl rfl (by rw [show (((x8.toNat * ((runesL x).length + 1) + (runesL x).length) * ((runesL z).length + 1) + ((runesL z).length + 1) : Nat) : Int) - 1 = (((x8.toNat * ((runesL x).length + 1) + (runesL x).length) * ((runesL z).length + 1) + (runesL z).length : Nat) : Int) by omega]; exact IntWalk.i64_in _ (by omega))) rfl rfl ?_
      refine wl_ixr (j := ((x8.toNat * ((runesL x).length + 1) + (runesL x).length) * ((runesL z).length + 1) + (runesL z).length)) 0 M rfl Tryd.underlying108 rfl rfl (getD_at (d := false) (by rw [h2.1]; exact hj8)) rfl (fun b133 o133 p133 => ?_)
      refine wl_m M (q_ldp p133 rfl rfl) rfl rfl ?_
      refine wl_nil ?_
      refine wc_cond rfl (fun ht134 => ?_) (fun ht134 => ?_)
      · refine wc_seq ?_
        refine wc_region ?_
        refine wl_m M (q_assign rfl) rfl rfl ?_
        refine wl_nil ?_
        refine wc_ret ?_
        exact out1 rfl rfl ⟨_, _, rfl, M.grow, by rw [relB_iff.2 (rel_iff.2 ⟨x8, List.mem_of_getElem? hx8, by have := (plR_fin hr h2.2.1 (h2.2.2 _ rfl) (h3 ht46) (s := x8.toNat) (i := (runesL x).length) (j := (runesL z).length) (by omega) (by omega)).1 (by unfold on; rw [hg8, ht134]); rwa [hf8] at this⟩)]⟩
      · refine wc_skip ?_
        refine wc_region ?_
        refine wl_m M (q_add rfl rfl (IntWalk.i64_in _ (by omega))) rfl rfl ?_
        refine wl_m M (q_move rfl) rfl rfl ?_
        refine wl_nil ?_
        refine ⟨(k8 + 1), ?_, ⟨(by omega), (by rw [take_snoc hx8]; intro f hf; rcases List.mem_append.1 hf with hf | hf; exact h8 f hf; rw [List.mem_singleton.1 hf]; unfold on; rw [hg8, ht134]; simp), M⟩, ⟨rfl, trivial⟩, unw_look rfl unw_base⟩
        show t.finals.length - (k8 + 1) < t.finals.length - k8
        omega
    · have hke8 : k8 = t.finals.length := by omega
      rw [hke8, List.take_length] at h8
      refine wc_exit rfl ?_
      refine wc_seq ?_
      refine wc_region ?_
      refine wl_m M (q_assign rfl) rfl rfl ?_
      refine wl_nil ?_
      refine wc_ret ?_
      exact out1 rfl rfl ⟨_, _, rfl, M.grow, by rw [relB_false.2 (fun h => by obtain ⟨f, hf, hre⟩ := rel_iff.1 h; have h0 : ((f.toNat : Nat) : Int) = f := Int.toNat_of_nonneg (hr.fin f hf).1; exact h8 f hf ((plR_fin hr h2.2.1 (h2.2.2 _ rfl) (h3 ht46) (s := f.toNat) (i := (runesL x).length) (j := (runesL z).length) (by omega) (by omega)).2 (by rw [h0]; exact hre)))]⟩
end Go.Proofs.YtmjieefhjmiagaaDoor.G
