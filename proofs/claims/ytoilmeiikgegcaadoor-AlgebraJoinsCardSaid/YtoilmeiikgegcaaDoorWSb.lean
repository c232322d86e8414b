/- Walks of the program's functions. -/
import Derived.Test.YtoilmeiikgegcaaDoorWSa
set_option linter.all false
namespace Go.Proofs.YtoilmeiikgegcaaDoor.G
open Go Go.RowKit
theorem star_c (a : Tra) {v1 : Value} {I : Heap} {w : World} (hI : hle I (hp w)) (R1 : a.rd I v1) :
    Calls A 23 #[v1] w (Ret w I fun r I' => ∃ (v' : Value) (u : Tra) (e : Int), r = .tuple #[v', .int .i64 e] ∧ u.rd I' v' ∧ (u, e) = StaS a) := by
 obtain ⟨fu1, au1, rfl, Rf1, Ra1⟩ := R1
 have M := Mem.start hI
 refine enter Tryd.func23 rfl 47 Tryd.ntmps23 [_] rfl ?_
 refine wc_seq ?_
 refine wc_region ?_
 refine wl_e (e_box M rfl) rfl rfl ?_
 rintro _ w1 ⟨b1, rfl, M⟩
 refine wl_e (e_alloc M z29) rfl rfl ?_
 rintro _ w2 ⟨b2, rfl, M⟩
 refine wl_as M rfl rfl ?_
 refine wl_nil ?_
 refine wc_seq ?_
 refine wc_seq ?_
 refine wc_region ?_
 refine wl_m M (q_ldbA 1 Tryd.underlying29 rfl sz29 rfl rfl rfl rfl) rfl rfl ?_
 refine wl_e (e_callC M (valid_c a M.imm ⟨_, _, rfl, Rf1, Ra1⟩) Tryd.func39 rfl rfl) rfl rfl ?_
 rintro _ w3 ⟨J8, hJ8, rfl, M⟩
 replace M := M.less hJ8 (fun _ _ => rfl)
 refine wl_m M (q_not rfl) rfl rfl ?_
 refine wl_nil ?_
 refine wc_cond rfl (fun ht9 => ?_) (fun ht9 => ?_)
 ·refine wc_seq ?_
  refine wc_region ?_
  refine wl_m M (q_build (bd_29) trivial) rfl rfl ?_
  refine wl_e0 (e_stW 0 M rfl rfl rfl sz29 rfl rfl) rfl ?_
  intro _ w4 M
  simp only [sC0, sCS] at M
  refine wl_as M rfl rfl ?_
  refine wl_nil ?_
  refine wc_ret ?_
  exact outc2 rfl rfl (load_boxA M 0 Tryd.underlying29 rfl sz29 rfl rfl rfl) rfl ⟨_, _, rfl, M.grow, _, zeroTra, 1, rfl, ⟨nilV, nilV, rfl, rdSl_nil _, rdSl_nil _⟩, (sta_bad ht9).symm⟩
 have hva : validT a = true := by simpa using ht9
 obtain ⟨m, hsa, hma, hla, rga, lba⟩ := valid_all hva
 have hfa := valid_fin hva
 have hsta := rga.start
 refine wc_skip ?_
 refine wc_seq ?_
 replace M := M.nilRow EArc
 refine wc_region ?_
 refine wl_m M (q_fa fo_29_0 rfl) rfl rfl ?_
 refine wl_m M (q_ldb 2 Tryd.underlying3 rfl rfl rfl rfl) rfl rfl ?_
 refine wl_m M (q_add rfl rfl (IntWalk.i64_in _ (by omega))) rfl rfl ?_
 refine wl_e (e_bsI (E := EInt) (xs := [0]) M (bs_26_1 _) ⟨⟨rfl, rfl⟩, trivial⟩ rfl rfl (by decide)) rfl rfl ?_
 rintro _ w5 ⟨u14, J14, rfl, hJ14, R14, M⟩
 have hoJ14 := M.old
 refine wl_m M (q_build (bd_29_0_2 _ _) ⟨⟨rfl, rfl⟩, ⟨rfl, rfl⟩, trivial⟩) rfl rfl ?_
 refine wl_e (e_alloc M z29) rfl rfl ?_
 rintro _ w6 ⟨b4, rfl, M⟩
 refine wl_e0 (e_stW 0 M rfl rfl rfl sz29 rfl rfl) rfl ?_
 intro _ w7 M
 simp only [sC0, sCS] at M
 refine wl_nil ?_
 refine wc_seq ?_
 refine wc_region ?_
 refine wl_m M (q_fa fo_29_3 rfl) rfl rfl ?_
 refine wl_m M (q_ldb 0 Tryd.underlying27 rfl rfl rfl rfl) rfl rfl ?_
 refine wl_m M (q_fa fo_29_1 rfl) rfl rfl ?_
 refine wl_m M (q_ldb 3 Tryd.underlying3 rfl rfl rfl rfl) rfl rfl ?_
 refine wl_m M (q_add rfl rfl (IntWalk.i64_in _ (by omega))) rfl rfl ?_
 refine wl_m M (q_build (bd_52_1 _) ⟨⟨rfl, rfl⟩, trivial⟩) rfl rfl ?_
 refine wl_e (e_bsI (E := EArc) (xs := [(Arc.mk 0 (1 + a.start) 0 0)]) M (bs_27_1 _ _ _ _) ⟨⟨rfl, rfl⟩, trivial⟩ rfl rfl (by decide)) rfl rfl ?_
 rintro _ w8 ⟨u22, J22, rfl, hJ22, R22, M⟩
 have hoJ22 := M.old
 refine wl_e (e_app 1 M rfl R22 Tryd.underlying27 rfl rfl (by show (_ + _) * 24 ≤ _; simp only [List.length_cons, List.length_nil]; omega)) rfl rfl ?_
 rintro _ w9 ⟨u23, rfl, M⟩
 replace M := M.less hJ22 hoJ14
 simp only [sC0, sCS] at M
 refine wl_m M (q_fa fo_29_3 rfl) rfl rfl ?_
 refine wl_e0 (e_stb 0 M rfl rfl rfl sz27 rfl rfl) rfl ?_
 intro _ w10 M
 simp only [sC0, sCS] at M
 refine wl_nil ?_
 refine wc_seq ?_
 refine wc_region ?_
 refine wl_m M (q_ldbA 3 Tryd.underlying29 rfl sz29 rfl rfl rfl rfl) rfl rfl ?_
 refine wl_e (e_callR Tryd.func50 rfl (vs := [.pointer (some ⟨b4, 0, none⟩), .agg #[.int .i64 a.states, .int .i64 a.start, sv fu1, sv au1], .int .i64 1]) rfl (moved_c (ua := u23) (ys := [] ++ [(Arc.mk 0 (1 + a.start) 0 0)]) (a := a) 1 (by omega) (fun x hx => by have := rga.arcs x hx; omega) (by first | omega | (simp only [List.length_append, List.length_cons, List.length_nil, List.length_map]; omega) | (show 0 + _ ≤ _; omega)) ⟨_, _, rfl, (Rf1.mono hJ14), (Ra1.mono hJ14)⟩ M)) rfl rfl ?_
 rintro _ w11 ⟨un, M⟩
 refine wl_nil ?_
 refine wc_seq ?_
 refine wc_seq ?_
 refine wc_region ?_
 refine wl_m M (q_fa fo_29_2 rfl) rfl rfl ?_
 refine wl_m M (q_ldb 3 Tryd.underlying26 rfl rfl rfl rfl) rfl rfl ?_
 refine wl_m M (q_lenR (Rf1.mono hJ14) Tryd.underlying26 rfl) rfl rfl ?_
 refine wl_mv M rfl rfl ?_
 refine wl_nil ?_
 refine wc_block ?_
 refine wc_loop (α := Nat × SV × (List Arc)) [6, 30, 31, 32, 33, 34, 35, 36, 37, 38, 39, 40, 41, 42] (fun ((k0, u_a_0, l_a_0) : Nat × SV × (List Arc)) => [(30, .int .i64 (k0 : Int))])
   (fun ((k0, u_a_0, l_a_0) : Nat × SV × (List Arc)) w' => (k0 ≤ a.finals.length) ∧ (l_a_0 = ([epsA 0 (1 + a.start)] ++ a.arcs.map (shA 1)) ++ (a.finals.take k0).map fun f => epsA (1 + f) 0) ∧ Mem w I J14 (box b4 29 [.int .i64 (1 + a.states), .int .i64 0, sv u14, sv u_a_0] :: row EArc (sv u_a_0) l_a_0 :: box b2 29 [.int .i64 0, .int .i64 0, .slice none 0 0, .slice none 0 0] :: box b1 29 [.int .i64 a.states, .int .i64 a.start, sv fu1, sv au1] :: []) w')
   (fun ((k0, u_a_0, l_a_0) : Nat × SV × (List Arc)) => a.finals.length - k0) (0, un, ([] ++ [(Arc.mk 0 (1 + a.start) 0 0)]) ++ a.arcs.map (shA 1)) ⟨rfl, trivial⟩ ?_ ?_
 ·refine ⟨Nat.zero_le _, (by simp [epsA]), ?_⟩
  exact M
 rintro ⟨k0, u_a_0, l_a_0⟩ jj0 w12 ⟨hk0, haa, M⟩
 have hoJ14 := M.old
 refine wc_seq ?_
 refine wc_region ?_
 refine wl_m M (q_lss rfl rfl) rfl rfl ?_
 refine wl_nil ?_
 refine wc_seq ?_
 refine wc_dec rfl (fun ht31 => ?_) (fun ht31 => ?_)
 ·obtain ⟨x0, hx0⟩ : ∃ x_, a.finals[k0]? = some x_ := ⟨_, List.getElem?_eq_getElem (by omega)⟩
  have hll0 := ((Rf1.mono hJ14)).len_le
  have hx0r := rga.fin x0 (List.mem_of_getElem? hx0)
  refine wc_skip ?_
  refine wc_seq ?_
  refine wc_block ?_
  refine wc_seq ?_
  refine wc_region ?_
  refine wl_ix (j := k0) M (Rf1.mono hJ14) Tryd.underlying26 rfl rfl hx0 rfl (fun b32 o32 p32 => ?_)
  refine wl_m M (q_ldp p32 rfl rfl) rfl rfl ?_
  refine wl_as M rfl rfl ?_
  refine wl_nil ?_
  refine wc_region ?_
  refine wl_m M (q_fa fo_29_3 rfl) rfl rfl ?_
  refine wl_m M (q_ldb 0 Tryd.underlying27 rfl rfl rfl rfl) rfl rfl ?_
  refine wl_mv M rfl rfl ?_
  refine wl_m M (q_add rfl rfl (IntWalk.i64_in _ (by omega))) rfl rfl ?_
  refine wl_m M (q_build (bd_52_0 _) ⟨⟨rfl, rfl⟩, trivial⟩) rfl rfl ?_
  refine wl_e (e_bsI (E := EArc) (xs := [(Arc.mk (1 + x0) 0 0 0)]) M (bs_27_1 _ _ _ _) ⟨⟨rfl, rfl⟩, trivial⟩ rfl rfl (by decide)) rfl rfl ?_
  rintro _ w13 ⟨u39, J39, rfl, hJ39, R39, M⟩
  have hoJ39 := M.old
  refine wl_e (e_app 1 M rfl R39 Tryd.underlying27 rfl rfl (by rw [haa]; simp only [List.length_append, List.length_cons, List.length_nil, List.length_map, List.length_take]; show (_ + 1) * 24 ≤ _; omega)) rfl rfl ?_
  rintro _ w14 ⟨u40, rfl, M⟩
  replace M := M.less hJ39 hoJ14
  simp only [sC0, sCS] at M
  refine wl_m M (q_fa fo_29_3 rfl) rfl rfl ?_
  refine wl_e0 (e_stb 0 M rfl rfl rfl sz27 rfl rfl) rfl ?_
  intro _ w15 M
  simp only [sC0, sCS] at M
  refine wl_nil ?_
  refine wc_region ?_
  refine wl_m M (q_add rfl rfl (IntWalk.i64_in _ (by omega))) rfl rfl ?_
  refine wl_mv M rfl rfl ?_
  refine wl_nil ?_
  refine ⟨(k0 + 1, u40, l_a_0 ++ [(Arc.mk (1 + x0) 0 0 0)]), ?_, ⟨(by omega), (by rw [take_snoc hx0, List.map_append, ← List.append_assoc, ← haa]; rfl), M⟩, ⟨rfl, trivial⟩, unw_look rfl unw_base⟩
  show a.finals.length - (k0 + 1) < a.finals.length - k0
  omega
 have hke0 : k0 = a.finals.length := by omega
 refine wc_exit rfl ?_
 refine wc_seq ?_
 rw [hke0, List.take_length] at haa
 subst haa
 obtain ⟨I9, M, hI9, Rm⟩ := M.frzRow 1 rfl
 have hoI9 := M.old
 simp only [List.eraseIdx_cons_zero, List.eraseIdx_cons_succ] at M
 refine wc_region ?_
 refine wl_m M (q_ldbA 0 Tryd.underlying29 rfl sz29 rfl rfl rfl rfl) rfl rfl ?_
 refine wl_e (e_callC M (finish_c (t := (staT a)) (m := 1 + m) (by show 1 + a.states = _; omega) (by omega) (sta_rng rga hsa) (by show (staT a).arcs.length ≤ _; simp only [uniT, conT, staT, revT, List.length_append, List.length_cons, List.length_nil, List.length_map]; omega) (by show (staT a).finals.length ≤ _; simp only [uniT, conT, staT, revT, List.length_append, List.length_cons, List.length_nil, List.length_map]; omega) M.imm ⟨_, _, rfl, (R14.mono hI9), Rm⟩) Tryd.func43 rfl rfl) rfl rfl ?_
 rintro _ w16 ⟨J44, hJ44, ⟨_, rfl, ⟨fu44, au44, rfl, Rf44, Ra44⟩⟩, M⟩
 have hoJ44 := M.old
 refine wl_m M (q_ext rfl rfl) rfl rfl ?_
 refine wl_m M (q_ext rfl rfl) rfl rfl ?_
 refine wl_e0 (e_stW 1 M rfl rfl rfl sz29 rfl rfl) rfl ?_
 intro _ w17 M
 simp only [sC0, sCS] at M
 refine wl_as M rfl rfl ?_
 refine wl_nil ?_
 refine wc_ret ?_
 exact outc2 rfl rfl (load_boxA M 1 Tryd.underlying29 rfl sz29 rfl rfl rfl) rfl ⟨_, _, rfl, M.grow, _, (FinS (staT a) (1 + m)).1, (FinS (staT a) (1 + m)).2, rfl, ⟨_, _, rfl, Rf44, Ra44⟩, (sta_ok hva hsa).symm⟩
theorem reverse_c (a : Tra) {v1 : Value} {I : Heap} {w : World} (hI : hle I (hp w)) (R1 : a.rd I v1) :
    Calls A 32 #[v1] w (Ret w I fun r I' => ∃ (v' : Value) (u : Tra) (e : Int), r = .tuple #[v', .int .i64 e] ∧ u.rd I' v' ∧ (u, e) = RevS a) := by
 obtain ⟨fu1, au1, rfl, Rf1, Ra1⟩ := R1
 have M := Mem.start hI
 refine enter Tryd.func32 rfl 65 Tryd.ntmps32 [_] rfl ?_
 refine wc_seq ?_
 refine wc_region ?_
 refine wl_e (e_box M rfl) rfl rfl ?_
 rintro _ w1 ⟨b1, rfl, M⟩
 refine wl_e (e_alloc M z29) rfl rfl ?_
 rintro _ w2 ⟨b2, rfl, M⟩
 refine wl_as M rfl rfl ?_
 refine wl_nil ?_
 refine wc_seq ?_
 refine wc_seq ?_
 refine wc_region ?_
 refine wl_m M (q_ldbA 1 Tryd.underlying29 rfl sz29 rfl rfl rfl rfl) rfl rfl ?_
 refine wl_e (e_callC M (valid_c a M.imm ⟨_, _, rfl, Rf1, Ra1⟩) Tryd.func39 rfl rfl) rfl rfl ?_
 rintro _ w3 ⟨J10, hJ10, rfl, M⟩
 replace M := M.less hJ10 (fun _ _ => rfl)
 refine wl_m M (q_not rfl) rfl rfl ?_
 refine wl_nil ?_
 refine wc_cond rfl (fun ht11 => ?_) (fun ht11 => ?_)
 ·refine wc_seq ?_
  refine wc_region ?_
  refine wl_m M (q_build (bd_29) trivial) rfl rfl ?_
  refine wl_e0 (e_stW 0 M rfl rfl rfl sz29 rfl rfl) rfl ?_
  intro _ w4 M
  simp only [sC0, sCS] at M
  refine wl_as M rfl rfl ?_
  refine wl_nil ?_
  refine wc_ret ?_
  exact outc2 rfl rfl (load_boxA M 0 Tryd.underlying29 rfl sz29 rfl rfl rfl) rfl ⟨_, _, rfl, M.grow, _, zeroTra, 1, rfl, ⟨nilV, nilV, rfl, rdSl_nil _, rdSl_nil _⟩, (rev_bad ht11).symm⟩
 have hva : validT a = true := by simpa using ht11
 obtain ⟨m, hsa, hma, hla, rga, lba⟩ := valid_all hva
 have hfa := valid_fin hva
 have hsta := rga.start
 refine wc_skip ?_
 refine wc_seq ?_
 replace M := M.nilRow EArc
 refine wc_region ?_
 refine wl_m M (q_fa fo_29_0 rfl) rfl rfl ?_
 refine wl_m M (q_ldb 2 Tryd.underlying3 rfl rfl rfl rfl) rfl rfl ?_
 refine wl_m M (q_add rfl rfl (IntWalk.i64_in _ (by omega))) rfl rfl ?_
 refine wl_m M (q_fa fo_29_1 rfl) rfl rfl ?_
 refine wl_m M (q_ldb 2 Tryd.underlying3 rfl rfl rfl rfl) rfl rfl ?_
 refine wl_m M (q_add rfl rfl (IntWalk.i64_in _ (by omega))) rfl rfl ?_
 refine wl_e (e_bsI (E := EInt) (xs := [1 + a.start]) M (bs_26_1 _) ⟨⟨rfl, rfl⟩, trivial⟩ rfl rfl (by decide)) rfl rfl ?_
 rintro _ w5 ⟨u19, J19, rfl, hJ19, R19, M⟩
 have hoJ19 := M.old
 refine wl_m M (q_build (bd_29_0_2 _ _) ⟨⟨rfl, rfl⟩, ⟨rfl, rfl⟩, trivial⟩) rfl rfl ?_
 refine wl_e (e_alloc M z29) rfl rfl ?_
 rintro _ w6 ⟨b4, rfl, M⟩
 refine wl_e0 (e_stW 0 M rfl rfl rfl sz29 rfl rfl) rfl ?_
 intro _ w7 M
 simp only [sC0, sCS] at M
 refine wl_nil ?_
 refine wc_seq ?_
 refine wc_seq ?_
 refine wc_region ?_
 refine wl_m M (q_fa fo_29_2 rfl) rfl rfl ?_
 refine wl_m M (q_ldb 3 Tryd.underlying26 rfl rfl rfl rfl) rfl rfl ?_
 refine wl_m M (q_lenR (Rf1.mono hJ19) Tryd.underlying26 rfl) rfl rfl ?_
 refine wl_mv M rfl rfl ?_
 refine wl_nil ?_
 refine wc_block ?_
 refine wc_loop (α := Nat × SV × (List Arc)) [6, 24, 25, 26, 27, 28, 29, 30, 31, 32, 33, 34, 35, 36] (fun ((k0, u_a_0, l_a_0) : Nat × SV × (List Arc)) => [(24, .int .i64 (k0 : Int))])
   (fun ((k0, u_a_0, l_a_0) : Nat × SV × (List Arc)) w' => (k0 ≤ a.finals.length) ∧ (l_a_0 = (a.finals.take k0).map fun f => epsA 0 (1 + f)) ∧ Mem w I J19 (box b4 29 [.int .i64 (1 + a.states), .int .i64 0, sv u19, sv u_a_0] :: row EArc (sv u_a_0) l_a_0 :: box b2 29 [.int .i64 0, .int .i64 0, .slice none 0 0, .slice none 0 0] :: box b1 29 [.int .i64 a.states, .int .i64 a.start, sv fu1, sv au1] :: []) w')
   (fun ((k0, u_a_0, l_a_0) : Nat × SV × (List Arc)) => a.finals.length - k0) (0, nilV, []) ⟨rfl, trivial⟩ ?_ ?_
 ·refine ⟨Nat.zero_le _, rfl, ?_⟩
  exact M
 rintro ⟨k0, u_a_0, l_a_0⟩ jj0 w8 ⟨hk0, haa, M⟩
 have hoJ19 := M.old
 refine wc_seq ?_
 refine wc_region ?_
 refine wl_m M (q_lss rfl rfl) rfl rfl ?_
 refine wl_nil ?_
 refine wc_seq ?_
 refine wc_dec rfl (fun ht25 => ?_) (fun ht25 => ?_)
 ·obtain ⟨x0, hx0⟩ : ∃ x_, a.finals[k0]? = some x_ := ⟨_, List.getElem?_eq_getElem (by omega)⟩
  have hll0 := ((Rf1.mono hJ19)).len_le
  have hx0r := rga.fin x0 (List.mem_of_getElem? hx0)
  refine wc_skip ?_
  refine wc_seq ?_
  refine wc_block ?_
  refine wc_seq ?_
  refine wc_region ?_
  refine wl_ix (j := k0) M (Rf1.mono hJ19) Tryd.underlying26 rfl rfl hx0 rfl (fun b26 o26 p26 => ?_)
  refine wl_m M (q_ldp p26 rfl rfl) rfl rfl ?_
  refine wl_as M rfl rfl ?_
  refine wl_nil ?_
  refine wc_region ?_
  refine wl_m M (q_fa fo_29_3 rfl) rfl rfl ?_
  refine wl_m M (q_ldb 0 Tryd.underlying27 rfl rfl rfl rfl) rfl rfl ?_
  refine wl_mv M rfl rfl ?_
  refine wl_m M (q_add rfl rfl (IntWalk.i64_in _ (by omega))) rfl rfl ?_
  refine wl_m M (q_build (bd_52_1 _) ⟨⟨rfl, rfl⟩, trivial⟩) rfl rfl ?_
  refine wl_e (e_bsI (E := EArc) (xs := [(Arc.mk 0 (1 + x0) 0 0)]) M (bs_27_1 _ _ _ _) ⟨⟨rfl, rfl⟩, trivial⟩ rfl rfl (by decide)) rfl rfl ?_
  rintro _ w9 ⟨u33, J33, rfl, hJ33, R33, M⟩
  have hoJ33 := M.old
  refine wl_e (e_app 1 M rfl R33 Tryd.underlying27 rfl rfl (by rw [haa]; simp only [List.length_map, List.length_take]; show (_ + 1) * 24 ≤ _; omega)) rfl rfl ?_
  rintro _ w10 ⟨u34, rfl, M⟩
  replace M := M.less hJ33 hoJ19
  simp only [sC0, sCS] at M
  refine wl_m M (q_fa fo_29_3 rfl) rfl rfl ?_
  refine wl_e0 (e_stb 0 M rfl rfl rfl sz27 rfl rfl) rfl ?_
  intro _ w11 M
  simp only [sC0, sCS] at M
  refine wl_nil ?_
  refine wc_region ?_
  refine wl_m M (q_add rfl rfl (IntWalk.i64_in _ (by omega))) rfl rfl ?_
  refine wl_mv M rfl rfl ?_
  refine wl_nil ?_
  refine ⟨(k0 + 1, u34, l_a_0 ++ [(Arc.mk 0 (1 + x0) 0 0)]), ?_, ⟨(by omega), (by rw [take_snoc hx0, List.map_append, ← haa]; rfl), M⟩, ⟨rfl, trivial⟩, unw_look rfl unw_base⟩
  show a.finals.length - (k0 + 1) < a.finals.length - k0
  omega
 have hke0 : k0 = a.finals.length := by omega
 rw [hke0, List.take_length] at haa
 refine wc_exit rfl ?_
 refine wc_seq ?_
 refine wc_seq ?_
 refine wc_region ?_
 refine wl_m M (q_fa fo_29_3 rfl) rfl rfl ?_
 refine wl_m M (q_ldb 3 Tryd.underlying27 rfl rfl rfl rfl) rfl rfl ?_
 refine wl_m M (q_lenR (Ra1.mono hJ19) Tryd.underlying27 rfl) rfl rfl ?_
 refine wl_mv M rfl rfl ?_
 refine wl_nil ?_
 refine wc_block ?_
 refine wc_loop (α := Nat × SV × (List Arc)) [8, 40, 41, 42, 43, 44, 45, 46, 47, 48, 49, 50, 51, 52, 53, 54, 55, 56, 57, 58, 59, 60] (fun ((k2, u_a_2, l_a_2) : Nat × SV × (List Arc)) => [(40, .int .i64 (k2 : Int))])
   (fun ((k2, u_a_2, l_a_2) : Nat × SV × (List Arc)) w' => (k2 ≤ a.arcs.length) ∧ (l_a_2 = (a.finals.map fun f => epsA 0 (1 + f)) ++ (a.arcs.take k2).map revA) ∧ Mem w I J19 (box b4 29 [.int .i64 (1 + a.states), .int .i64 0, sv u19, sv u_a_2] :: row EArc (sv u_a_2) l_a_2 :: box b2 29 [.int .i64 0, .int .i64 0, .slice none 0 0, .slice none 0 0] :: box b1 29 [.int .i64 a.states, .int .i64 a.start, sv fu1, sv au1] :: []) w')
   (fun ((k2, u_a_2, l_a_2) : Nat × SV × (List Arc)) => a.arcs.length - k2) (0, u_a_0, l_a_0) ⟨rfl, trivial⟩ ?_ ?_
 ·refine ⟨Nat.zero_le _, (by simp [haa]), ?_⟩
  exact M
 rintro ⟨k2, u_a_2, l_a_2⟩ jj2 w12 ⟨hk2, haa2, M⟩
 have hoJ19 := M.old
 refine wc_seq ?_
 refine wc_region ?_
 refine wl_m M (q_lss rfl rfl) rfl rfl ?_
 refine wl_nil ?_
 refine wc_seq ?_
 refine wc_dec rfl (fun ht41 => ?_) (fun ht41 => ?_)
 ·obtain ⟨x2, hx2⟩ : ∃ x_, a.arcs[k2]? = some x_ := ⟨_, List.getElem?_eq_getElem (by omega)⟩
  have hll2 := ((Ra1.mono hJ19)).len_le
  have hx2r := rga.arcs x2 (List.mem_of_getElem? hx2)
  refine wc_skip ?_
  refine wc_seq ?_
  refine wc_block ?_
  refine wc_seq ?_
  refine wc_region ?_
  refine wl_ix (j := k2) M (Ra1.mono hJ19) Tryd.underlying27 rfl rfl hx2 rfl (fun b42 o42 p42 => ?_)
  refine wl_m M (q_ldp p42 rfl rfl) rfl rfl ?_
  refine wl_e (e_alloc M z52) rfl rfl ?_
  rintro _ w13 ⟨b8, rfl, M⟩
  refine wl_e0 (e_stW 0 M rfl rfl rfl sz52 rfl rfl) rfl ?_
  intro _ w14 M
  simp only [sC0, sCS] at M
  refine wl_nil ?_
  refine wc_region ?_
  refine wl_m M (q_fa fo_29_3 rfl) rfl rfl ?_
  refine wl_m M (q_ldb 1 Tryd.underlying27 rfl rfl rfl rfl) rfl rfl ?_
  refine wl_m M (q_fa fo_52_1 rfl) rfl rfl ?_
  refine wl_m M (q_ldb 0 Tryd.underlying3 rfl rfl rfl rfl) rfl rfl ?_
  refine wl_m M (q_add rfl rfl (IntWalk.i64_in _ (by omega))) rfl rfl ?_
  refine wl_m M (q_fa fo_52_0 rfl) rfl rfl ?_
  refine wl_m M (q_ldb 0 Tryd.underlying3 rfl rfl rfl rfl) rfl rfl ?_
  refine wl_m M (q_add rfl rfl (IntWalk.i64_in _ (by omega))) rfl rfl ?_
  refine wl_m M (q_fa fo_52_2 rfl) rfl rfl ?_
  refine wl_m M (q_ldb 0 Tryd.underlying21 rfl rfl rfl rfl) rfl rfl ?_
  refine wl_m M (q_fa fo_52_3 rfl) rfl rfl ?_
  refine wl_m M (q_ldb 0 Tryd.underlying21 rfl rfl rfl rfl) rfl rfl ?_
  refine wl_m M (q_build (bd_52_0_1_2_3 _ _ _ _) ⟨⟨rfl, rfl⟩, ⟨rfl, rfl⟩, ⟨rfl, rfl⟩, ⟨rfl, rfl⟩, trivial⟩) rfl rfl ?_
  refine wl_e (e_bsI (E := EArc) (xs := [(Arc.mk (1 + x2.dst) (1 + x2.src) x2.inp x2.out)]) M (bs_27_1 _ _ _ _) ⟨⟨rfl, rfl⟩, trivial⟩ rfl rfl (by decide)) rfl rfl ?_
  rintro _ w15 ⟨u57, J57, rfl, hJ57, R57, M⟩
  have hoJ57 := M.old
  refine wl_e (e_app 2 M rfl R57 Tryd.underlying27 rfl rfl (by rw [haa2]; simp only [List.length_append, List.length_map, List.length_take]; show (_ + 1) * 24 ≤ _; omega)) rfl rfl ?_
  rintro _ w16 ⟨u58, rfl, M⟩
  replace M := M.less hJ57 hoJ19
  simp only [sC0, sCS] at M
  refine wl_m M (q_fa fo_29_3 rfl) rfl rfl ?_
  refine wl_e0 (e_stb 1 M rfl rfl rfl sz27 rfl rfl) rfl ?_
  intro _ w17 M
  simp only [sC0, sCS] at M
  refine wl_nil ?_
  refine wc_region ?_
  refine wl_m M (q_add rfl rfl (IntWalk.i64_in _ (by omega))) rfl rfl ?_
  refine wl_mv M rfl rfl ?_
  refine wl_nil ?_
  replace M := M.drop 0
  refine ⟨(k2 + 1, u58, l_a_2 ++ [(Arc.mk (1 + x2.dst) (1 + x2.src) x2.inp x2.out)]), ?_, ⟨(by omega), (by rw [take_snoc hx2, List.map_append, ← List.append_assoc, ← haa2]; rfl), M⟩, ⟨rfl, trivial⟩, unw_look rfl unw_base⟩
  show a.arcs.length - (k2 + 1) < a.arcs.length - k2
  omega
 have hke2 : k2 = a.arcs.length := by omega
 refine wc_exit rfl ?_
 refine wc_seq ?_
 rw [hke2, List.take_length] at haa2
 subst haa2
 obtain ⟨I9, M, hI9, Rm⟩ := M.frzRow 1 rfl
 have hoI9 := M.old
 simp only [List.eraseIdx_cons_zero, List.eraseIdx_cons_succ] at M
 refine wc_region ?_
 refine wl_m M (q_ldbA 0 Tryd.underlying29 rfl sz29 rfl rfl rfl rfl) rfl rfl ?_
 refine wl_e (e_callC M (finish_c (t := (revT a)) (m := 1 + m) (by show 1 + a.states = _; omega) (by omega) (rev_rng rga hsa) (by show (revT a).arcs.length ≤ _; simp only [uniT, conT, staT, revT, List.length_append, List.length_cons, List.length_nil, List.length_map]; omega) (by show (revT a).finals.length ≤ _; simp only [uniT, conT, staT, revT, List.length_append, List.length_cons, List.length_nil, List.length_map]; omega) M.imm ⟨_, _, rfl, (R19.mono hI9), Rm⟩) Tryd.func43 rfl rfl) rfl rfl ?_
 rintro _ w18 ⟨J62, hJ62, ⟨_, rfl, ⟨fu62, au62, rfl, Rf62, Ra62⟩⟩, M⟩
 have hoJ62 := M.old
 refine wl_m M (q_ext rfl rfl) rfl rfl ?_
 refine wl_m M (q_ext rfl rfl) rfl rfl ?_
 refine wl_e0 (e_stW 1 M rfl rfl rfl sz29 rfl rfl) rfl ?_
 intro _ w19 M
 simp only [sC0, sCS] at M
 refine wl_as M rfl rfl ?_
 refine wl_nil ?_
 refine wc_ret ?_
 exact outc2 rfl rfl (load_boxA M 1 Tryd.underlying29 rfl sz29 rfl rfl rfl) rfl ⟨_, _, rfl, M.grow, _, (FinS (revT a) (1 + m)).1, (FinS (revT a) (1 + m)).2, rfl, ⟨_, _, rfl, Rf62, Ra62⟩, (rev_ok hva hsa).symm⟩
end Go.Proofs.YtoilmeiikgegcaaDoor.G
