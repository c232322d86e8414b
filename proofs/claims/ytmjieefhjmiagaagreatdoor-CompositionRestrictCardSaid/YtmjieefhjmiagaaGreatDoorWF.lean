/- Walks of the program's functions. -/
import Derived.Test.YtmjieefhjmiagaaGreatDoorGRef
set_option linter.all false
namespace Go.Proofs.YtmjieefhjmiagaaGreatDoor.G
open Go Go.RowKit
theorem raw_c {a b : Tra} {m n : Nat} (ha : a.Ok m) (hb : b.Ok n) (hfa : ∀ p ∈ a.finals, 0 ≤ p ∧ p < m) (hfb : ∀ p ∈ b.finals, 0 ≤ p ∧ p < n) (hal : a.finals.length ≤ 512) (hbl : b.finals.length ≤ 512) {v1 v2 : Value} {I : Heap} {w : World} (hI : hle I (hp w)) (R1 : a.rd I v1) (R2 : b.rd I v2) :
    Calls A 79 #[v1, v2] w (Ret w I fun r I' => (rawT a b).rd I' r) := by
 obtain ⟨fu1, au1, rfl, Rf1, Ra1⟩ := R1
 obtain ⟨fu2, au2, rfl, Rf2, Ra2⟩ := R2
 have has : 0 ≤ a.states ∧ a.states ≤ 512 := by rw [ha.st]; have := ha.le; omega
 have hbs : 0 ≤ b.states ∧ b.states ≤ 512 := by rw [hb.st]; have := hb.le; omega
 have hast := ha.start
 have hbst := hb.start
 have ham := ha.st
 have hbn := hb.st
 have hm1 := mul_b has hbs
 have hm2 := mul_b (x := a.start) (by omega) hbs
 have M := Mem.start hI
 refine enter Tryz.func79 rfl 177 Tryz.ntmps79 [_, _] rfl ?_
 refine wc_seq ?_
 refine wc_region ?_
 refine wl_e (e_box M rfl) rfl rfl ?_
 rintro _ w1 ⟨b2, rfl, M⟩
 refine wl_e (e_box M rfl) rfl rfl ?_
 rintro _ w2 ⟨b3, rfl, M⟩
 refine wl_e (e_alloc M z25) rfl rfl ?_
 rintro _ w3 ⟨b4, rfl, M⟩
 refine wl_nil ?_
 refine wc_seq ?_
 refine wc_region ?_
 refine wl_m M (q_fa fo_25_0 rfl) rfl rfl ?_
 refine wl_m M (q_ldb 2 Tryz.underlying3 rfl rfl rfl rfl) rfl rfl ?_
 refine wl_m M (q_fa fo_25_0 rfl) rfl rfl ?_
 refine wl_m M (q_ldb 1 Tryz.underlying3 rfl rfl rfl rfl) rfl rfl ?_
 refine wl_m M (q_mul rfl rfl (IntWalk.i64_in _ (by omega))) rfl rfl ?_
 refine wl_m M (q_fa fo_25_1 rfl) rfl rfl ?_
 refine wl_m M (q_ldb 2 Tryz.underlying3 rfl rfl rfl rfl) rfl rfl ?_
 refine wl_m M (q_fa fo_25_0 rfl) rfl rfl ?_
 refine wl_m M (q_ldb 1 Tryz.underlying3 rfl rfl rfl rfl) rfl rfl ?_
 refine wl_m M (q_mul rfl rfl (IntWalk.i64_in _ (by omega))) rfl rfl ?_
 refine wl_m M (q_fa fo_25_1 rfl) rfl rfl ?_
 refine wl_m M (q_ldb 1 Tryz.underlying3 rfl rfl rfl rfl) rfl rfl ?_
 refine wl_m M (q_add rfl rfl (IntWalk.i64_in _ (by omega))) rfl rfl ?_
 refine wl_m M (q_build (bd_25_0_1 _ _) ⟨⟨rfl, rfl⟩, ⟨rfl, rfl⟩, trivial⟩) rfl rfl ?_
 refine wl_e (e_alloc M z25) rfl rfl ?_
 rintro _ w4 ⟨b5, rfl, M⟩
 refine wl_e0 (e_stW 0 M rfl rfl rfl sz25 rfl rfl) rfl ?_
 intro _ w5 M
 simp only [sC0, sCS] at M
 refine wl_nil ?_
 refine wc_seq ?_
 refine wc_seq ?_
 replace M := M.nilRow EInt
 replace M := M.nilRow EArc
 refine wc_region ?_
 refine wl_m M (q_fa fo_25_2 rfl) rfl rfl ?_
 refine wl_m M (q_ldb 5 Tryz.underlying22 rfl rfl rfl rfl) rfl rfl ?_
 refine wl_m M (q_lenR Rf1 Tryz.underlying22 rfl) rfl rfl ?_
 refine wl_mv M rfl rfl ?_
 refine wl_nil ?_
 refine wc_block ?_
 refine wc_loop (α := Nat × SV × (List Int)) [7, 9, 35, 36, 37, 38, 39, 40, 41, 42, 43, 44, 45, 46, 47, 48, 49, 50, 51, 52, 53, 54, 55, 56, 57, 58] (fun ((k0, u_f_0, l_f_0) : Nat × SV × (List Int)) => [(35, .int .i64 (k0 : Int))])
   (fun ((k0, u_f_0, l_f_0) : Nat × SV × (List Int)) w' => (k0 ≤ a.finals.length) ∧ (l_f_0 = (a.finals.take k0).flatMap (rawF b)) ∧ Mem w I I (row EArc (sv nilV) [] :: row EInt (sv u_f_0) l_f_0 :: box b5 25 [.int .i64 (a.states * b.states), .int .i64 ((a.start * b.states) + b.start), sv u_f_0, sv nilV] :: box b4 25 [.int .i64 0, .int .i64 0, .slice none 0 0, .slice none 0 0] :: box b3 25 [.int .i64 b.states, .int .i64 b.start, sv fu2, sv au2] :: box b2 25 [.int .i64 a.states, .int .i64 a.start, sv fu1, sv au1] :: []) w')
   (fun ((k0, u_f_0, l_f_0) : Nat × SV × (List Int)) => a.finals.length - k0) (0, nilV, []) ⟨rfl, trivial⟩ ?_ ?_
 ·refine ⟨Nat.zero_le _, rfl, ?_⟩
  exact M
 rintro ⟨k0, u_f_0, l_f_0⟩ jj0 w6 ⟨hk0, hff, M⟩
 refine wc_seq ?_
 refine wc_region ?_
 refine wl_m M (q_lss rfl rfl) rfl rfl ?_
 refine wl_nil ?_
 refine wc_seq ?_
 refine wc_dec rfl (fun ht36 => ?_) (fun ht36 => ?_)
 ·obtain ⟨x0, hx0⟩ : ∃ x_, a.finals[k0]? = some x_ := ⟨_, List.getElem?_eq_getElem (by omega)⟩
  have hll0 := (Rf1).len_le
  have hp0 := hfa x0 (List.mem_of_getElem? hx0)
  have hm3 := mul_b (x := x0) (by omega) hbs
  refine wc_skip ?_
  refine wc_seq ?_
  refine wc_block ?_
  refine wc_seq ?_
  refine wc_region ?_
  refine wl_ix (j := k0) M Rf1 Tryz.underlying22 rfl rfl hx0 rfl (fun b37 o37 p37 => ?_)
  refine wl_m M (q_ldp p37 rfl rfl) rfl rfl ?_
  refine wl_as M rfl rfl ?_
  refine wl_nil ?_
  refine wc_seq ?_
  refine wc_region ?_
  refine wl_m M (q_fa fo_25_2 rfl) rfl rfl ?_
  refine wl_m M (q_ldb 4 Tryz.underlying22 rfl rfl rfl rfl) rfl rfl ?_
  refine wl_m M (q_lenR Rf2 Tryz.underlying22 rfl) rfl rfl ?_
  refine wl_mv M rfl rfl ?_
  refine wl_nil ?_
  refine wc_block ?_
  refine wc_loop (α := Nat × SV × (List Int)) [9, 42, 43, 44, 45, 46, 47, 48, 49, 50, 51, 52, 53, 54, 55, 56, 57] (fun ((k2, u_f_2, l_f_2) : Nat × SV × (List Int)) => [(42, .int .i64 (k2 : Int))])
    (fun ((k2, u_f_2, l_f_2) : Nat × SV × (List Int)) w' => (k2 ≤ b.finals.length) ∧ (l_f_2 = l_f_0 ++ (b.finals.take k2).flatMap (rawF1 b x0)) ∧ Mem w I I (row EArc (sv nilV) [] :: row EInt (sv u_f_2) l_f_2 :: box b5 25 [.int .i64 (a.states * b.states), .int .i64 ((a.start * b.states) + b.start), sv u_f_2, sv nilV] :: box b4 25 [.int .i64 0, .int .i64 0, .slice none 0 0, .slice none 0 0] :: box b3 25 [.int .i64 b.states, .int .i64 b.start, sv fu2, sv au2] :: box b2 25 [.int .i64 a.states, .int .i64 a.start, sv fu1, sv au1] :: []) w')
    (fun ((k2, u_f_2, l_f_2) : Nat × SV × (List Int)) => b.finals.length - k2) (0, u_f_0, l_f_0) ⟨rfl, trivial⟩ ?_ ?_
  ·refine ⟨Nat.zero_le _, (by simp), ?_⟩
   exact M
  rintro ⟨k2, u_f_2, l_f_2⟩ jj2 w7 ⟨hk2, hf2, M⟩
  refine wc_seq ?_
  refine wc_region ?_
  refine wl_m M (q_lss rfl rfl) rfl rfl ?_
  refine wl_nil ?_
  refine wc_seq ?_
  refine wc_dec rfl (fun ht43 => ?_) (fun ht43 => ?_)
  ·obtain ⟨x2, hx2⟩ : ∃ x_, b.finals[k2]? = some x_ := ⟨_, List.getElem?_eq_getElem (by omega)⟩
   have hll2 := (Rf2).len_le
   have hp2 := hfb x2 (List.mem_of_getElem? hx2)
   refine wc_skip ?_
   refine wc_seq ?_
   refine wc_block ?_
   refine wc_seq ?_
   refine wc_region ?_
   refine wl_ix (j := k2) M Rf2 Tryz.underlying22 rfl rfl hx2 rfl (fun b44 o44 p44 => ?_)
   refine wl_m M (q_ldp p44 rfl rfl) rfl rfl ?_
   refine wl_as M rfl rfl ?_
   refine wl_nil ?_
   refine wc_region ?_
   refine wl_m M (q_fa fo_25_2 rfl) rfl rfl ?_
   refine wl_m M (q_ldb 2 Tryz.underlying22 rfl rfl rfl rfl) rfl rfl ?_
   refine wl_mv M rfl rfl ?_
   refine wl_m M (q_fa fo_25_0 rfl) rfl rfl ?_
   refine wl_m M (q_ldb 4 Tryz.underlying3 rfl rfl rfl rfl) rfl rfl ?_
   refine wl_m M (q_mul rfl rfl (IntWalk.i64_in _ (by omega))) rfl rfl ?_
   refine wl_mv M rfl rfl ?_
   refine wl_m M (q_add rfl rfl (IntWalk.i64_in _ (by omega))) rfl rfl ?_
   refine wl_e (e_bsI (E := EInt) (xs := [(x0 * b.states) + x2]) M (bs_22_1 _) ⟨⟨rfl, rfl⟩, trivial⟩ rfl rfl (by decide)) rfl rfl ?_
   rintro _ w8 ⟨u54, J54, rfl, hJ54, R54, M⟩
   have hoJ54 := M.old
   refine wl_e (e_app 1 M rfl R54 Tryz.underlying22 rfl rfl (by have := take_flat_len (rawF_len b) a.finals k0; have := take_flat_len (rawF1_len b x0) b.finals k2; have := Nat.mul_le_mul hal hbl; rw [hf2, hff, List.length_append]; show (_ + 1) * 8 ≤ _; omega)) rfl rfl ?_
   rintro _ w9 ⟨u55, rfl, M⟩
   replace M := M.less hJ54 (fun _ _ => rfl)
   simp only [sC0, sCS] at M
   refine wl_m M (q_fa fo_25_2 rfl) rfl rfl ?_
   refine wl_e0 (e_stb 2 M rfl rfl rfl sz22 rfl rfl) rfl ?_
   intro _ w10 M
   simp only [sC0, sCS] at M
   refine wl_nil ?_
   refine wc_region ?_
   refine wl_m M (q_add rfl rfl (IntWalk.i64_in _ (by omega))) rfl rfl ?_
   refine wl_mv M rfl rfl ?_
   refine wl_nil ?_
   refine ⟨(k2 + 1, u55, l_f_2 ++ [(x0 * b.states) + x2]), ?_, ⟨(by omega), (by rw [take_flat hx2, hf2, List.append_assoc]; rfl), M⟩, ⟨rfl, trivial⟩, unw_look rfl unw_base⟩
   show b.finals.length - (k2 + 1) < b.finals.length - k2
   omega
  have hke2 : k2 = b.finals.length := by omega
  rw [hke2, List.take_length] at hf2
  refine wc_exit rfl ?_
  refine wc_region ?_
  refine wl_m M (q_add rfl rfl (IntWalk.i64_in _ (by omega))) rfl rfl ?_
  refine wl_mv M rfl rfl ?_
  refine wl_nil ?_
  refine ⟨(k0 + 1, u_f_2, l_f_2), ?_, ⟨(by omega), (by rw [take_flat hx0, hf2, hff]; rfl), M⟩, ⟨rfl, trivial⟩, unw_look rfl (unw_hav rfl (unw_look rfl unw_base))⟩
  show a.finals.length - (k0 + 1) < a.finals.length - k0
  omega
 have hke0 : k0 = a.finals.length := by omega
 rw [hke0, List.take_length] at hff
 refine wc_exit rfl ?_
 refine wc_seq ?_
 refine wc_seq ?_
 refine wc_region ?_
 refine wl_m M (q_fa fo_25_3 rfl) rfl rfl ?_
 refine wl_m M (q_ldb 5 Tryz.underlying23 rfl rfl rfl rfl) rfl rfl ?_
 refine wl_m M (q_lenR Ra1 Tryz.underlying23 rfl) rfl rfl ?_
 refine wl_mv M rfl rfl ?_
 refine wl_nil ?_
 refine wc_block ?_
 refine wc_loop (α := Nat × SV × (List Arc)) [11, 12, 14, 62, 63, 64, 65, 66, 67, 68, 69, 70, 71, 72, 73, 74, 75, 76, 77, 78, 79, 80, 81, 82, 83, 84, 85, 86, 87, 88, 89, 90, 91, 92, 93, 94, 95, 96, 97, 98, 99, 100, 101, 102, 103, 104, 105, 106, 107, 108, 109, 110, 111, 112, 113, 114, 115, 116, 117, 118, 119, 120, 121, 122, 123, 124, 125, 126, 127, 128, 129, 130, 131, 132, 133, 134, 135, 136] (fun ((k4, u_a_4, l_a_4) : Nat × SV × (List Arc)) => [(62, .int .i64 (k4 : Int))])
   (fun ((k4, u_a_4, l_a_4) : Nat × SV × (List Arc)) w' => (k4 ≤ a.arcs.length) ∧ (l_a_4 = (a.arcs.take k4).flatMap (rawA b)) ∧ Mem w I I (row EArc (sv u_a_4) l_a_4 :: row EInt (sv u_f_0) l_f_0 :: box b5 25 [.int .i64 (a.states * b.states), .int .i64 ((a.start * b.states) + b.start), sv u_f_0, sv u_a_4] :: box b4 25 [.int .i64 0, .int .i64 0, .slice none 0 0, .slice none 0 0] :: box b3 25 [.int .i64 b.states, .int .i64 b.start, sv fu2, sv au2] :: box b2 25 [.int .i64 a.states, .int .i64 a.start, sv fu1, sv au1] :: []) w')
   (fun ((k4, u_a_4, l_a_4) : Nat × SV × (List Arc)) => a.arcs.length - k4) (0, nilV, []) ⟨rfl, trivial⟩ ?_ ?_
 ·refine ⟨Nat.zero_le _, rfl, ?_⟩
  exact M
 rintro ⟨k4, u_a_4, l_a_4⟩ jj4 w11 ⟨hk4, ha4, M⟩
 refine wc_seq ?_
 refine wc_region ?_
 refine wl_m M (q_lss rfl rfl) rfl rfl ?_
 refine wl_nil ?_
 refine wc_seq ?_
 refine wc_dec rfl (fun ht63 => ?_) (fun ht63 => ?_)
 ·obtain ⟨x4, hx4⟩ : ∃ x_, a.arcs[k4]? = some x_ := ⟨_, List.getElem?_eq_getElem (by omega)⟩
  have hll4 := (Ra1).len_le
  have hp4 := ha.arcs x4 (List.mem_of_getElem? hx4)
  have hm4 := mul_b (x := x4.src) (by omega) hbs
  have hm5 := mul_b (x := x4.dst) (by omega) hbs
  refine wc_skip ?_
  refine wc_seq ?_
  refine wc_block ?_
  refine wc_seq ?_
  refine wc_region ?_
  refine wl_ix (j := k4) M Ra1 Tryz.underlying23 rfl rfl hx4 rfl (fun b64 o64 p64 => ?_)
  refine wl_m M (q_ldp p64 rfl rfl) rfl rfl ?_
  refine wl_e (e_alloc M z51) rfl rfl ?_
  rintro _ w12 ⟨b11, rfl, M⟩
  refine wl_e0 (e_stW 0 M rfl rfl rfl sz51 rfl rfl) rfl ?_
  intro _ w13 M
  simp only [sC0, sCS] at M
  refine wl_nil ?_
  refine wc_seq ?_
  refine wc_seq ?_
  refine wc_region ?_
  refine wl_m M (q_fa fo_51_3 rfl) rfl rfl ?_
  refine wl_m M (q_ldb 0 Tryz.underlying21 rfl rfl rfl rfl) rfl rfl ?_
  refine wl_m M (q_eql rfl rfl) rfl rfl ?_
  refine wl_nil ?_
  refine wc_dec rfl (fun ht68 => ?_) (fun ht68 => ?_)
  ·refine wc_seq ?_
   refine wc_seq ?_
   refine wc_region ?_
   refine wl_as M rfl rfl ?_
   refine wl_nil ?_
   refine wc_block ?_
   refine wc_loop (α := Nat × SV × (List Arc)) [12, 69, 70, 71, 72, 73, 74, 75, 76, 77, 78, 79, 80, 81, 82, 83, 84, 85, 86, 87, 88, 89, 90, 91, 92, 93, 94, 95, 96] (fun ((k6, u_a_6, l_a_6) : Nat × SV × (List Arc)) => [(12, .int .i64 (k6 : Int))])
     (fun ((k6, u_a_6, l_a_6) : Nat × SV × (List Arc)) w' => (k6 ≤ b.states.toNat) ∧ (l_a_6 = l_a_4 ++ (List.range k6).flatMap (rawA0 b x4)) ∧ Mem w I I (box b11 51 [.int .i64 x4.src, .int .i64 x4.dst, .int .i32 x4.inp, .int .i32 x4.out] :: row EArc (sv u_a_6) l_a_6 :: row EInt (sv u_f_0) l_f_0 :: box b5 25 [.int .i64 (a.states * b.states), .int .i64 ((a.start * b.states) + b.start), sv u_f_0, sv u_a_6] :: box b4 25 [.int .i64 0, .int .i64 0, .slice none 0 0, .slice none 0 0] :: box b3 25 [.int .i64 b.states, .int .i64 b.start, sv fu2, sv au2] :: box b2 25 [.int .i64 a.states, .int .i64 a.start, sv fu1, sv au1] :: []) w')
     (fun ((k6, u_a_6, l_a_6) : Nat × SV × (List Arc)) => b.states.toNat - k6) (0, u_a_4, l_a_4) ⟨rfl, trivial⟩ ?_ ?_
   ·refine ⟨Nat.zero_le _, (by simp), ?_⟩
    exact M
   rintro ⟨k6, u_a_6, l_a_6⟩ jj6 w14 ⟨hk6, ha6, M⟩
   refine wc_seq ?_
   refine wc_seq ?_
   refine wc_region ?_
   refine wl_mv M rfl rfl ?_
   refine wl_m M (q_fa fo_25_0 rfl) rfl rfl ?_
   refine wl_m M (q_ldb 5 Tryz.underlying3 rfl rfl rfl rfl) rfl rfl ?_
   refine wl_m M (q_lss rfl rfl) rfl rfl ?_
   refine wl_nil ?_
   refine wc_dec rfl (fun ht72 => ?_) (fun ht72 => ?_)
   ·refine wc_skip ?_
    refine wc_seq ?_
    refine wc_block ?_
    refine wc_region ?_
    refine wl_m M (q_fa fo_25_3 rfl) rfl rfl ?_
    refine wl_m M (q_ldb 3 Tryz.underlying23 rfl rfl rfl rfl) rfl rfl ?_
    refine wl_m M (q_fa fo_51_0 rfl) rfl rfl ?_
    refine wl_m M (q_ldb 0 Tryz.underlying3 rfl rfl rfl rfl) rfl rfl ?_
    refine wl_m M (q_fa fo_25_0 rfl) rfl rfl ?_
    refine wl_m M (q_ldb 5 Tryz.underlying3 rfl rfl rfl rfl) rfl rfl ?_
    refine wl_m M (q_mul rfl rfl (IntWalk.i64_in _ (by omega))) rfl rfl ?_
    refine wl_mv M rfl rfl ?_
    refine wl_m M (q_add rfl rfl (IntWalk.i64_in _ (by omega))) rfl rfl ?_
    refine wl_m M (q_fa fo_51_1 rfl) rfl rfl ?_
    refine wl_m M (q_ldb 0 Tryz.underlying3 rfl rfl rfl rfl) rfl rfl ?_
    refine wl_m M (q_fa fo_25_0 rfl) rfl rfl ?_
    refine wl_m M (q_ldb 5 Tryz.underlying3 rfl rfl rfl rfl) rfl rfl ?_
    refine wl_m M (q_mul rfl rfl (IntWalk.i64_in _ (by omega))) rfl rfl ?_
    refine wl_mv M rfl rfl ?_
    refine wl_m M (q_add rfl rfl (IntWalk.i64_in _ (by omega))) rfl rfl ?_
    refine wl_m M (q_fa fo_51_2 rfl) rfl rfl ?_
    refine wl_m M (q_ldb 0 Tryz.underlying21 rfl rfl rfl rfl) rfl rfl ?_
    refine wl_m M (q_build (bd_51_0_1_2 _ _ _) ⟨⟨rfl, rfl⟩, ⟨rfl, rfl⟩, ⟨rfl, rfl⟩, trivial⟩) rfl rfl ?_
    refine wl_e (e_bsI (E := EArc) (xs := [(Arc.mk ((x4.src * b.states) + (k6 : Int)) ((x4.dst * b.states) + (k6 : Int)) x4.inp 0)]) M (bs_23_1 _ _ _ _) ⟨⟨rfl, rfl⟩, trivial⟩ rfl rfl (by decide)) rfl rfl ?_
    rintro _ w15 ⟨u94, J94, rfl, hJ94, R94, M⟩
    have hoJ94 := M.old
    refine wl_e (e_app 1 M rfl R94 Tryz.underlying23 rfl rfl (by have hB1 := Nat.mul_le_mul ha.alen (show b.states.toNat + b.arcs.length ≤ 4608 by have := hb.alen; have := hb.le; omega); have hB2 := Nat.mul_le_mul hb.alen (show a.states.toNat ≤ 512 by omega); have := take_flat_len (rawA_len b) a.arcs k4; have := flat_len (rawA0_len b x4) (List.range k6); rw [List.length_range] at this; rw [ha6, ha4, List.length_append]; show (_ + 1) * 24 ≤ _; omega)) rfl rfl ?_
    rintro _ w16 ⟨u95, rfl, M⟩
    replace M := M.less hJ94 (fun _ _ => rfl)
    simp only [sC0, sCS] at M
    refine wl_m M (q_fa fo_25_3 rfl) rfl rfl ?_
    refine wl_e0 (e_stb 3 M rfl rfl rfl sz23 rfl rfl) rfl ?_
    intro _ w17 M
    simp only [sC0, sCS] at M
    refine wl_nil ?_
    refine wc_region ?_
    refine wl_mv M rfl rfl ?_
    refine wl_m M (q_add rfl rfl (IntWalk.i64_in _ (by omega))) rfl rfl ?_
    refine wl_as M rfl rfl ?_
    refine wl_nil ?_
    refine ⟨(k6 + 1, u95, l_a_6 ++ [(Arc.mk ((x4.src * b.states) + (k6 : Int)) ((x4.dst * b.states) + (k6 : Int)) x4.inp 0)]), ?_, ⟨(by omega), (by rw [range_flat, ha6, List.append_assoc]; rfl), M⟩, ⟨rfl, trivial⟩, unw_look rfl unw_base⟩
    show b.states.toNat - (k6 + 1) < b.states.toNat - k6
    omega
   have hke6 : k6 = b.states.toNat := by omega
   rw [hke6] at ha6
   refine wc_exit rfl ?_
   refine wc_exit rfl ?_
   refine wc_region ?_
   refine wl_m M (q_add rfl rfl (IntWalk.i64_in _ (by omega))) rfl rfl ?_
   refine wl_mv M rfl rfl ?_
   refine wl_nil ?_
   replace M := M.drop 0
   refine ⟨(k4 + 1, u_a_6, l_a_6), ?_, ⟨(by omega), (by rw [take_flat hx4, ha6, ha4, rawA, if_pos ht68]), M⟩, ⟨rfl, trivial⟩, unw_look rfl (unw_hav rfl (unw_look rfl unw_base))⟩
   show a.arcs.length - (k4 + 1) < a.arcs.length - k4
   omega
  refine wc_skip ?_
  refine wc_seq ?_
  refine wc_region ?_
  refine wl_m M (q_fa fo_25_3 rfl) rfl rfl ?_
  refine wl_m M (q_ldb 5 Tryz.underlying23 rfl rfl rfl rfl) rfl rfl ?_
  refine wl_m M (q_lenR Ra2 Tryz.underlying23 rfl) rfl rfl ?_
  refine wl_mv M rfl rfl ?_
  refine wl_nil ?_
  refine wc_block ?_
  refine wc_loop (α := Nat × SV × (List Arc)) [14, 100, 101, 102, 103, 104, 105, 106, 107, 108, 109, 110, 111, 112, 113, 114, 115, 116, 117, 118, 119, 120, 121, 122, 123, 124, 125, 126, 127, 128, 129, 130, 131, 132, 133, 134, 135] (fun ((k8, u_a_8, l_a_8) : Nat × SV × (List Arc)) => [(100, .int .i64 (k8 : Int))])
    (fun ((k8, u_a_8, l_a_8) : Nat × SV × (List Arc)) w' => (k8 ≤ b.arcs.length) ∧ (l_a_8 = l_a_4 ++ (b.arcs.take k8).flatMap (rawA1 b x4)) ∧ Mem w I I (box b11 51 [.int .i64 x4.src, .int .i64 x4.dst, .int .i32 x4.inp, .int .i32 x4.out] :: row EArc (sv u_a_8) l_a_8 :: row EInt (sv u_f_0) l_f_0 :: box b5 25 [.int .i64 (a.states * b.states), .int .i64 ((a.start * b.states) + b.start), sv u_f_0, sv u_a_8] :: box b4 25 [.int .i64 0, .int .i64 0, .slice none 0 0, .slice none 0 0] :: box b3 25 [.int .i64 b.states, .int .i64 b.start, sv fu2, sv au2] :: box b2 25 [.int .i64 a.states, .int .i64 a.start, sv fu1, sv au1] :: []) w')
    (fun ((k8, u_a_8, l_a_8) : Nat × SV × (List Arc)) => b.arcs.length - k8) (0, u_a_4, l_a_4) ⟨rfl, trivial⟩ ?_ ?_
  ·refine ⟨Nat.zero_le _, (by simp), ?_⟩
   exact M
  rintro ⟨k8, u_a_8, l_a_8⟩ jj8 w18 ⟨hk8, ha8, M⟩
  refine wc_seq ?_
  refine wc_region ?_
  refine wl_m M (q_lss rfl rfl) rfl rfl ?_
  refine wl_nil ?_
  refine wc_seq ?_
  refine wc_dec rfl (fun ht101 => ?_) (fun ht101 => ?_)
  ·obtain ⟨x8, hx8⟩ : ∃ x_, b.arcs[k8]? = some x_ := ⟨_, List.getElem?_eq_getElem (by omega)⟩
   have hll8 := (Ra2).len_le
   have hp8 := hb.arcs x8 (List.mem_of_getElem? hx8)
   refine wc_skip ?_
   refine wc_seq ?_
   refine wc_block ?_
   refine wc_seq ?_
   refine wc_region ?_
   refine wl_ix (j := k8) M Ra2 Tryz.underlying23 rfl rfl hx8 rfl (fun b102 o102 p102 => ?_)
   refine wl_m M (q_ldp p102 rfl rfl) rfl rfl ?_
   refine wl_e (e_alloc M z51) rfl rfl ?_
   rintro _ w19 ⟨b14, rfl, M⟩
   refine wl_e0 (e_stW 0 M rfl rfl rfl sz51 rfl rfl) rfl ?_
   intro _ w20 M
   simp only [sC0, sCS] at M
   refine wl_nil ?_
   refine wc_seq ?_
   refine wc_region ?_
   refine wl_m M (q_fa fo_51_2 rfl) rfl rfl ?_
   refine wl_m M (q_ldb 0 Tryz.underlying21 rfl rfl rfl rfl) rfl rfl ?_
   refine wl_m M (q_fa fo_51_3 rfl) rfl rfl ?_
   refine wl_m M (q_ldb 1 Tryz.underlying21 rfl rfl rfl rfl) rfl rfl ?_
   refine wl_m M (q_eql rfl rfl) rfl rfl ?_
   refine wl_nil ?_
   refine wc_dec rfl (fun ht108 => ?_) (fun ht108 => ?_)
   ·refine wc_region ?_
    refine wl_m M (q_fa fo_25_3 rfl) rfl rfl ?_
    refine wl_m M (q_ldb 4 Tryz.underlying23 rfl rfl rfl rfl) rfl rfl ?_
    refine wl_m M (q_fa fo_51_0 rfl) rfl rfl ?_
    refine wl_m M (q_ldb 1 Tryz.underlying3 rfl rfl rfl rfl) rfl rfl ?_
    refine wl_m M (q_fa fo_25_0 rfl) rfl rfl ?_
    refine wl_m M (q_ldb 6 Tryz.underlying3 rfl rfl rfl rfl) rfl rfl ?_
    refine wl_m M (q_mul rfl rfl (IntWalk.i64_in _ (by omega))) rfl rfl ?_
    refine wl_m M (q_fa fo_51_0 rfl) rfl rfl ?_
    refine wl_m M (q_ldb 0 Tryz.underlying3 rfl rfl rfl rfl) rfl rfl ?_
    refine wl_m M (q_add rfl rfl (IntWalk.i64_in _ (by omega))) rfl rfl ?_
    refine wl_m M (q_fa fo_51_1 rfl) rfl rfl ?_
    refine wl_m M (q_ldb 1 Tryz.underlying3 rfl rfl rfl rfl) rfl rfl ?_
    refine wl_m M (q_fa fo_25_0 rfl) rfl rfl ?_
    refine wl_m M (q_ldb 6 Tryz.underlying3 rfl rfl rfl rfl) rfl rfl ?_
    refine wl_m M (q_mul rfl rfl (IntWalk.i64_in _ (by omega))) rfl rfl ?_
    refine wl_m M (q_fa fo_51_1 rfl) rfl rfl ?_
    refine wl_m M (q_ldb 0 Tryz.underlying3 rfl rfl rfl rfl) rfl rfl ?_
    refine wl_m M (q_add rfl rfl (IntWalk.i64_in _ (by omega))) rfl rfl ?_
    refine wl_m M (q_fa fo_51_2 rfl) rfl rfl ?_
    refine wl_m M (q_ldb 1 Tryz.underlying21 rfl rfl rfl rfl) rfl rfl ?_
    refine wl_m M (q_fa fo_51_3 rfl) rfl rfl ?_
    refine wl_m M (q_ldb 0 Tryz.underlying21 rfl rfl rfl rfl) rfl rfl ?_
    refine wl_m M (q_build (bd_51_0_1_2_3 _ _ _ _) ⟨⟨rfl, rfl⟩, ⟨rfl, rfl⟩, ⟨rfl, rfl⟩, ⟨rfl, rfl⟩, trivial⟩) rfl rfl ?_
    refine wl_e (e_bsI (E := EArc) (xs := [(Arc.mk ((x4.src * b.states) + x8.src) ((x4.dst * b.states) + x8.dst) x4.inp x8.out)]) M (bs_23_1 _ _ _ _) ⟨⟨rfl, rfl⟩, trivial⟩ rfl rfl (by decide)) rfl rfl ?_
    rintro _ w21 ⟨u132, J132, rfl, hJ132, R132, M⟩
    have hoJ132 := M.old
    refine wl_e (e_app 2 M rfl R132 Tryz.underlying23 rfl rfl (by have hB1 := Nat.mul_le_mul ha.alen (show b.states.toNat + b.arcs.length ≤ 4608 by have := hb.alen; have := hb.le; omega); have hB2 := Nat.mul_le_mul hb.alen (show a.states.toNat ≤ 512 by omega); have := take_flat_len (rawA_len b) a.arcs k4; have := take_flat_len (rawA1_len b x4) b.arcs k8; have := hb.alen; rw [ha8, ha4, List.length_append]; show (_ + 1) * 24 ≤ _; omega)) rfl rfl ?_
    rintro _ w22 ⟨u133, rfl, M⟩
    replace M := M.less hJ132 (fun _ _ => rfl)
    simp only [sC0, sCS] at M
    refine wl_m M (q_fa fo_25_3 rfl) rfl rfl ?_
    refine wl_e0 (e_stb 4 M rfl rfl rfl sz23 rfl rfl) rfl ?_
    intro _ w23 M
    simp only [sC0, sCS] at M
    refine wl_nil ?_
    refine wc_region ?_
    refine wl_m M (q_add rfl rfl (IntWalk.i64_in _ (by omega))) rfl rfl ?_
    refine wl_mv M rfl rfl ?_
    refine wl_nil ?_
    replace M := M.drop 0
    refine ⟨(k8 + 1, u133, l_a_8 ++ [(Arc.mk ((x4.src * b.states) + x8.src) ((x4.dst * b.states) + x8.dst) x4.inp x8.out)]), ?_, ⟨(by omega), (by rw [take_flat hx8, ha8, rawA1, if_pos ht108, List.append_assoc]), M⟩, ⟨rfl, trivial⟩, unw_look rfl unw_base⟩
    show b.arcs.length - (k8 + 1) < b.arcs.length - k8
    omega
   refine wc_skip ?_
   refine wc_region ?_
   refine wl_m M (q_add rfl rfl (IntWalk.i64_in _ (by omega))) rfl rfl ?_
   refine wl_mv M rfl rfl ?_
   refine wl_nil ?_
   replace M := M.drop 0
   refine ⟨(k8 + 1, u_a_8, l_a_8), ?_, ⟨(by omega), (by rw [take_flat hx8, ha8, rawA1, if_neg ht108, List.append_nil]), M⟩, ⟨rfl, trivial⟩, unw_look rfl unw_base⟩
   show b.arcs.length - (k8 + 1) < b.arcs.length - k8
   omega
  have hke8 : k8 = b.arcs.length := by omega
  rw [hke8, List.take_length] at ha8
  refine wc_exit rfl ?_
  refine wc_region ?_
  refine wl_m M (q_add rfl rfl (IntWalk.i64_in _ (by omega))) rfl rfl ?_
  refine wl_mv M rfl rfl ?_
  refine wl_nil ?_
  replace M := M.drop 0
  refine ⟨(k4 + 1, u_a_8, l_a_8), ?_, ⟨(by omega), (by rw [take_flat hx4, ha8, ha4, rawA, if_neg ht68]), M⟩, ⟨rfl, trivial⟩, unw_look rfl (unw_hav rfl (unw_look rfl unw_base))⟩
  show a.arcs.length - (k4 + 1) < a.arcs.length - k4
  omega
 have hke4 : k4 = a.arcs.length := by omega
 rw [hke4, List.take_length] at ha4
 refine wc_exit rfl ?_
 refine wc_seq ?_
 refine wc_seq ?_
 refine wc_region ?_
 refine wl_m M (q_fa fo_25_3 rfl) rfl rfl ?_
 refine wl_m M (q_ldb 4 Tryz.underlying23 rfl rfl rfl rfl) rfl rfl ?_
 refine wl_m M (q_lenR Ra2 Tryz.underlying23 rfl) rfl rfl ?_
 refine wl_mv M rfl rfl ?_
 refine wl_nil ?_
 refine wc_block ?_
 refine wc_loop (α := Nat × SV × (List Arc)) [16, 17, 140, 141, 142, 143, 144, 145, 146, 147, 148, 149, 150, 151, 152, 153, 154, 155, 156, 157, 158, 159, 160, 161, 162, 163, 164, 165, 166, 167, 168, 169, 170, 171, 172, 173, 174, 175] (fun ((k10, u_a_10, l_a_10) : Nat × SV × (List Arc)) => [(140, .int .i64 (k10 : Int))])
   (fun ((k10, u_a_10, l_a_10) : Nat × SV × (List Arc)) w' => (k10 ≤ b.arcs.length) ∧ (l_a_10 = a.arcs.flatMap (rawA b) ++ (b.arcs.take k10).flatMap (rawB a b)) ∧ Mem w I I (row EArc (sv u_a_10) l_a_10 :: row EInt (sv u_f_0) l_f_0 :: box b5 25 [.int .i64 (a.states * b.states), .int .i64 ((a.start * b.states) + b.start), sv u_f_0, sv u_a_10] :: box b4 25 [.int .i64 0, .int .i64 0, .slice none 0 0, .slice none 0 0] :: box b3 25 [.int .i64 b.states, .int .i64 b.start, sv fu2, sv au2] :: box b2 25 [.int .i64 a.states, .int .i64 a.start, sv fu1, sv au1] :: []) w')
   (fun ((k10, u_a_10, l_a_10) : Nat × SV × (List Arc)) => b.arcs.length - k10) (0, u_a_4, l_a_4) ⟨rfl, trivial⟩ ?_ ?_
 ·refine ⟨Nat.zero_le _, (by rw [ha4]; simp), ?_⟩
  exact M
 rintro ⟨k10, u_a_10, l_a_10⟩ jj10 w24 ⟨hk10, hb10, M⟩
 refine wc_seq ?_
 refine wc_region ?_
 refine wl_m M (q_lss rfl rfl) rfl rfl ?_
 refine wl_nil ?_
 refine wc_seq ?_
 refine wc_dec rfl (fun ht141 => ?_) (fun ht141 => ?_)
 ·obtain ⟨x10, hx10⟩ : ∃ x_, b.arcs[k10]? = some x_ := ⟨_, List.getElem?_eq_getElem (by omega)⟩
  have hll10 := (Ra2).len_le
  have hp10 := hb.arcs x10 (List.mem_of_getElem? hx10)
  refine wc_skip ?_
  refine wc_seq ?_
  refine wc_block ?_
  refine wc_seq ?_
  refine wc_region ?_
  refine wl_ix (j := k10) M Ra2 Tryz.underlying23 rfl rfl hx10 rfl (fun b142 o142 p142 => ?_)
  refine wl_m M (q_ldp p142 rfl rfl) rfl rfl ?_
  refine wl_e (e_alloc M z51) rfl rfl ?_
  rintro _ w25 ⟨b16, rfl, M⟩
  refine wl_e0 (e_stW 0 M rfl rfl rfl sz51 rfl rfl) rfl ?_
  intro _ w26 M
  simp only [sC0, sCS] at M
  refine wl_nil ?_
  refine wc_seq ?_
  refine wc_seq ?_
  refine wc_region ?_
  refine wl_m M (q_fa fo_51_2 rfl) rfl rfl ?_
  refine wl_m M (q_ldb 0 Tryz.underlying21 rfl rfl rfl rfl) rfl rfl ?_
  refine wl_m M (q_neq rfl rfl) rfl rfl ?_
  refine wl_nil ?_
  refine wc_cond rfl (fun ht146 => ?_) (fun ht146 => ?_)
  ·refine wc_exit rfl ?_
   refine wc_region ?_
   refine wl_m M (q_add rfl rfl (IntWalk.i64_in _ (by omega))) rfl rfl ?_
   refine wl_mv M rfl rfl ?_
   refine wl_nil ?_
   replace M := M.drop 0
   refine ⟨(k10 + 1, u_a_10, l_a_10), ?_, ⟨(by omega), (by rw [take_flat hx10, hb10, rawB, if_neg (nd_t ht146), List.append_nil]), M⟩, ⟨rfl, trivial⟩, unw_look rfl unw_base⟩
   show b.arcs.length - (k10 + 1) < b.arcs.length - k10
   omega
  refine wc_skip ?_
  refine wc_seq ?_
  refine wc_region ?_
  refine wl_as M rfl rfl ?_
  refine wl_nil ?_
  refine wc_block ?_
  refine wc_loop (α := Nat × SV × (List Arc)) [17, 147, 148, 149, 150, 151, 152, 153, 154, 155, 156, 157, 158, 159, 160, 161, 162, 163, 164, 165, 166, 167, 168, 169, 170, 171, 172, 173, 174] (fun ((k12, u_a_12, l_a_12) : Nat × SV × (List Arc)) => [(17, .int .i64 (k12 : Int))])
    (fun ((k12, u_a_12, l_a_12) : Nat × SV × (List Arc)) w' => (k12 ≤ a.states.toNat) ∧ (l_a_12 = l_a_10 ++ (List.range k12).flatMap (rawB1 b x10)) ∧ Mem w I I (box b16 51 [.int .i64 x10.src, .int .i64 x10.dst, .int .i32 x10.inp, .int .i32 x10.out] :: row EArc (sv u_a_12) l_a_12 :: row EInt (sv u_f_0) l_f_0 :: box b5 25 [.int .i64 (a.states * b.states), .int .i64 ((a.start * b.states) + b.start), sv u_f_0, sv u_a_12] :: box b4 25 [.int .i64 0, .int .i64 0, .slice none 0 0, .slice none 0 0] :: box b3 25 [.int .i64 b.states, .int .i64 b.start, sv fu2, sv au2] :: box b2 25 [.int .i64 a.states, .int .i64 a.start, sv fu1, sv au1] :: []) w')
    (fun ((k12, u_a_12, l_a_12) : Nat × SV × (List Arc)) => a.states.toNat - k12) (0, u_a_10, l_a_10) ⟨rfl, trivial⟩ ?_ ?_
  ·refine ⟨Nat.zero_le _, (by simp), ?_⟩
   exact M
  rintro ⟨k12, u_a_12, l_a_12⟩ jj12 w27 ⟨hk12, hb12, M⟩
  refine wc_seq ?_
  refine wc_seq ?_
  refine wc_region ?_
  refine wl_mv M rfl rfl ?_
  refine wl_m M (q_fa fo_25_0 rfl) rfl rfl ?_
  refine wl_m M (q_ldb 6 Tryz.underlying3 rfl rfl rfl rfl) rfl rfl ?_
  refine wl_m M (q_lss rfl rfl) rfl rfl ?_
  refine wl_nil ?_
  refine wc_dec rfl (fun ht150 => ?_) (fun ht150 => ?_)
  ·have hm6 := mul_b (x := (k12 : Int)) (by omega) hbs
   refine wc_skip ?_
   refine wc_seq ?_
   refine wc_block ?_
   refine wc_region ?_
   refine wl_m M (q_fa fo_25_3 rfl) rfl rfl ?_
   refine wl_m M (q_ldb 3 Tryz.underlying23 rfl rfl rfl rfl) rfl rfl ?_
   refine wl_mv M rfl rfl ?_
   refine wl_m M (q_fa fo_25_0 rfl) rfl rfl ?_
   refine wl_m M (q_ldb 5 Tryz.underlying3 rfl rfl rfl rfl) rfl rfl ?_
   refine wl_m M (q_mul rfl rfl (IntWalk.i64_in _ (by omega))) rfl rfl ?_
   refine wl_m M (q_fa fo_51_0 rfl) rfl rfl ?_
   refine wl_m M (q_ldb 0 Tryz.underlying3 rfl rfl rfl rfl) rfl rfl ?_
   refine wl_m M (q_add rfl rfl (IntWalk.i64_in _ (by omega))) rfl rfl ?_
   refine wl_mv M rfl rfl ?_
   refine wl_m M (q_fa fo_25_0 rfl) rfl rfl ?_
   refine wl_m M (q_ldb 5 Tryz.underlying3 rfl rfl rfl rfl) rfl rfl ?_
   refine wl_m M (q_mul rfl rfl (IntWalk.i64_in _ (by omega))) rfl rfl ?_
   refine wl_m M (q_fa fo_51_1 rfl) rfl rfl ?_
   refine wl_m M (q_ldb 0 Tryz.underlying3 rfl rfl rfl rfl) rfl rfl ?_
   refine wl_m M (q_add rfl rfl (IntWalk.i64_in _ (by omega))) rfl rfl ?_
   refine wl_m M (q_fa fo_51_3 rfl) rfl rfl ?_
   refine wl_m M (q_ldb 0 Tryz.underlying21 rfl rfl rfl rfl) rfl rfl ?_
   refine wl_m M (q_build (bd_51_0_1_3 _ _ _) ⟨⟨rfl, rfl⟩, ⟨rfl, rfl⟩, ⟨rfl, rfl⟩, trivial⟩) rfl rfl ?_
   refine wl_e (e_bsI (E := EArc) (xs := [(Arc.mk (((k12 : Int) * b.states) + x10.src) (((k12 : Int) * b.states) + x10.dst) 0 x10.out)]) M (bs_23_1 _ _ _ _) ⟨⟨rfl, rfl⟩, trivial⟩ rfl rfl (by decide)) rfl rfl ?_
   rintro _ w28 ⟨u172, J172, rfl, hJ172, R172, M⟩
   have hoJ172 := M.old
   refine wl_e (e_app 1 M rfl R172 Tryz.underlying23 rfl rfl (by have hB1 := Nat.mul_le_mul ha.alen (show b.states.toNat + b.arcs.length ≤ 4608 by have := hb.alen; have := hb.le; omega); have hB2 := Nat.mul_le_mul hb.alen (show a.states.toNat ≤ 512 by omega); have := flat_len (rawA_len b) a.arcs; have := take_flat_len (rawB_len a b) b.arcs k10; have := flat_len (rawB1_len b x10) (List.range k12); rw [List.length_range] at this; rw [hb12, hb10, List.length_append, List.length_append]; show (_ + 1) * 24 ≤ _; omega)) rfl rfl ?_
   rintro _ w29 ⟨u173, rfl, M⟩
   replace M := M.less hJ172 (fun _ _ => rfl)
   simp only [sC0, sCS] at M
   refine wl_m M (q_fa fo_25_3 rfl) rfl rfl ?_
   refine wl_e0 (e_stb 3 M rfl rfl rfl sz23 rfl rfl) rfl ?_
   intro _ w30 M
   simp only [sC0, sCS] at M
   refine wl_nil ?_
   refine wc_region ?_
   refine wl_mv M rfl rfl ?_
   refine wl_m M (q_add rfl rfl (IntWalk.i64_in _ (by omega))) rfl rfl ?_
   refine wl_as M rfl rfl ?_
   refine wl_nil ?_
   refine ⟨(k12 + 1, u173, l_a_12 ++ [(Arc.mk (((k12 : Int) * b.states) + x10.src) (((k12 : Int) * b.states) + x10.dst) 0 x10.out)]), ?_, ⟨(by omega), (by rw [range_flat, hb12, List.append_assoc]; rfl), M⟩, ⟨rfl, trivial⟩, unw_look rfl unw_base⟩
   show a.states.toNat - (k12 + 1) < a.states.toNat - k12
   omega
  have hke12 : k12 = a.states.toNat := by omega
  rw [hke12] at hb12
  refine wc_exit rfl ?_
  refine wc_region ?_
  refine wl_m M (q_add rfl rfl (IntWalk.i64_in _ (by omega))) rfl rfl ?_
  refine wl_mv M rfl rfl ?_
  refine wl_nil ?_
  replace M := M.drop 0
  refine ⟨(k10 + 1, u_a_12, l_a_12), ?_, ⟨(by omega), (by rw [take_flat hx10, hb12, hb10, rawB, if_pos (nd_f ht146), List.append_assoc]), M⟩, ⟨rfl, trivial⟩, unw_look rfl (unw_hav rfl (unw_look rfl unw_base))⟩
  show b.arcs.length - (k10 + 1) < b.arcs.length - k10
  omega
 have hke10 : k10 = b.arcs.length := by omega
 rw [hke10, List.take_length] at hb10
 refine wc_exit rfl ?_
 refine wc_seq ?_
 refine wc_region ?_
 refine wl_m M (q_ldbA 2 Tryz.underlying25 rfl sz25 rfl rfl rfl rfl) rfl rfl ?_
 refine wl_e0 (e_stW 3 M rfl rfl rfl sz25 rfl rfl) rfl ?_
 intro _ w31 M
 simp only [sC0, sCS] at M
 refine wl_nil ?_
 refine wc_ret ?_
 obtain ⟨K1, M, hK1, Rk1⟩ := M.frzRow 1 rfl
 obtain ⟨K2, M, hK2, Rk2⟩ := M.frzRow 0 rfl
 rw [hff] at Rk1; rw [hb10] at Rk2
 exact outc rfl rfl (load_boxA M 1 Tryz.underlying25 rfl sz25 rfl rfl rfl) ⟨_, K2, rfl, (M.grow : Grow w I _ K2), _, _, rfl, Rk1.mono hK2, Rk2⟩
end Go.Proofs.YtmjieefhjmiagaaGreatDoor.G
