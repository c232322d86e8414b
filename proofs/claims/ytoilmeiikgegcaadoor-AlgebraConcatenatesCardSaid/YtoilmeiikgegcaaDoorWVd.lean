/- Walks of the program's functions. -/
import Derived.Test.YtoilmeiikgegcaaDoorWVc
import Derived.Test.YtoilmeiikgegcaaDoorGInv
set_option linter.all false
namespace Go.Proofs.YtoilmeiikgegcaaDoor.G
open Go Go.RowKit
theorem invArc_c (x : Arc) {I : Heap} {w : World} (hI : hle I (hp w)) : Calls A 52 #[EArc.val x] w (Ret w I fun r _ => r = EArc.val (swA x)) := by
 have M := Mem.start hI
 refine enter Tryd.func52 rfl 10 Tryd.ntmps52 [_] rfl ?_
 refine wc_seq ?_
 refine wc_region ?_
 refine wl_e (e_box M rfl) rfl rfl ?_
 rintro _ w1 ⟨b1, rfl, M⟩
 refine wl_e (e_alloc M z52) rfl rfl ?_
 rintro _ w2 ⟨b2, rfl, M⟩
 refine wl_nil ?_
 refine wc_seq ?_
 refine wc_region ?_
 refine wl_m M (q_fa fo_52_3 rfl) rfl rfl ?_
 refine wl_m M (q_ldb 1 Tryd.underlying21 rfl rfl rfl rfl) rfl rfl ?_
 refine wl_m M (q_fa fo_52_2 rfl) rfl rfl ?_
 refine wl_m M (q_ldb 1 Tryd.underlying21 rfl rfl rfl rfl) rfl rfl ?_
 refine wl_m M (q_fa fo_52_2 rfl) rfl rfl ?_
 refine wl_e0 (e_stb 1 M rfl rfl rfl sz21 rfl rfl) rfl ?_
 intro _ w3 M
 simp only [sC0, sCS] at M
 refine wl_m M (q_fa fo_52_3 rfl) rfl rfl ?_
 refine wl_e0 (e_stb 1 M rfl rfl rfl sz21 rfl rfl) rfl ?_
 intro _ w4 M
 simp only [sC0, sCS] at M
 refine wl_nil ?_
 refine wc_seq ?_
 refine wc_region ?_
 refine wl_m M (q_ldbA 1 Tryd.underlying52 rfl sz52 rfl rfl rfl rfl) rfl rfl ?_
 refine wl_e0 (e_stW 0 M rfl rfl rfl sz52 rfl rfl) rfl ?_
 intro _ w5 M
 simp only [sC0, sCS] at M
 refine wl_nil ?_
 refine wc_ret ?_
 exact outc rfl rfl (load_boxA M 0 Tryd.underlying52 rfl sz52 rfl rfl rfl) ⟨_, _, rfl, M.grow, rfl⟩
theorem changedInv_c (t : Tra) {v : Value} {I : Heap} {w : World} (hI : hle I (hp w)) (R : t.rd I v) :
    Calls A 51 #[v, .func (.func 52) #[] #[]] w (Ret w I fun r I' => ∃ v', r = .tuple #[v', .int .i64 (InvS t).2] ∧ (InvS t).1.rd I' v') := by
 obtain ⟨fu1, au1, rfl, Rf1, Ra1⟩ := R
 have M := Mem.start hI
 refine enter Tryd.func51 rfl 40 Tryd.ntmps51 [_, _] rfl ?_
 refine wc_seq ?_
 refine wc_region ?_
 refine wl_e (e_box M rfl) rfl rfl ?_
 rintro _ w1 ⟨b2, rfl, M⟩
 refine wl_e (e_alloc M z29) rfl rfl ?_
 rintro _ w2 ⟨b4, rfl, M⟩
 refine wl_as M rfl rfl ?_
 refine wl_nil ?_
 refine wc_seq ?_
 refine wc_seq ?_
 refine wc_region ?_
 refine wl_m M (q_ldbA 1 Tryd.underlying29 rfl sz29 rfl rfl rfl rfl) rfl rfl ?_
 refine wl_e (e_callC M (valid_c t M.imm ⟨_, _, rfl, Rf1, Ra1⟩) Tryd.func39 rfl rfl) rfl rfl ?_
 rintro _ w3 ⟨J10, hJ10, rfl, M⟩
 replace M := M.less hJ10 (fun _ _ => rfl)
 refine wl_m M (q_not rfl) rfl rfl ?_
 refine wl_nil ?_
 refine wc_cond rfl (fun ht11 => ?_) (fun ht11 => ?_)
 ·refine wc_seq ?_
  refine wc_region ?_
  refine wl_m M (q_build (bd_29) trivial) rfl rfl ?_
  refine wl_e0 (e_stW 0 M rfl rfl rfl sz29 rfl rfl) rfl ?_
  intro _ w4 M
  simp only [sC0, sCS] at M
  refine wl_as M rfl rfl ?_
  refine wl_nil ?_
  refine wc_ret ?_
  exact outc2 rfl rfl (load_boxA M 0 Tryd.underlying29 rfl sz29 rfl rfl rfl) rfl ⟨_, _, rfl, M.grow, _, by rw [inv_bad ht11], by rw [inv_bad ht11]; exact ⟨nilV, nilV, rfl, rdSl_nil _, rdSl_nil _⟩⟩
 have hv : validT t = true := by simpa using ht11
 obtain ⟨m, ha, hrf⟩ := valid_rng hv
 have hfl := valid_fl hv
 have hal := ha.alen
 have hmle := ha.le
 refine wc_skip ?_
 refine wc_seq ?_
 refine wc_region ?_
 refine wl_m M (q_fa fo_29_0 rfl) rfl rfl ?_
 refine wl_m M (q_ldb 1 Tryd.underlying3 rfl rfl rfl rfl) rfl rfl ?_
 refine wl_m M (q_fa fo_29_1 rfl) rfl rfl ?_
 refine wl_m M (q_ldb 1 Tryd.underlying3 rfl rfl rfl rfl) rfl rfl ?_
 refine wl_m M (q_fa fo_29_2 rfl) rfl rfl ?_
 refine wl_m M (q_ldb 1 Tryd.underlying26 rfl rfl rfl rfl) rfl rfl ?_
 refine wl_m M (q_build (bd_29_0_1_2 _ _ _) ⟨⟨rfl, rfl⟩, ⟨rfl, rfl⟩, ⟨rfl, rfl⟩, trivial⟩) rfl rfl ?_
 refine wl_e (e_alloc M z29) rfl rfl ?_
 rintro _ w5 ⟨b6, rfl, M⟩
 refine wl_e0 (e_stW 0 M rfl rfl rfl sz29 rfl rfl) rfl ?_
 intro _ w6 M
 simp only [sC0, sCS] at M
 refine wl_nil ?_
 refine wc_seq ?_
 refine wc_seq ?_
 replace M := M.nilRow EArc
 refine wc_region ?_
 refine wl_m M (q_fa fo_29_3 rfl) rfl rfl ?_
 refine wl_m M (q_ldb 3 Tryd.underlying27 rfl rfl rfl rfl) rfl rfl ?_
 refine wl_m M (q_lenR Ra1 Tryd.underlying27 rfl) rfl rfl ?_
 refine wl_mv M rfl rfl ?_
 refine wl_nil ?_
 refine wc_block ?_
 refine wc_loop (α := Nat × SV × (List Arc)) [8, 23, 24, 25, 26, 27, 28, 29, 30, 31, 32, 33, 34, 35] (fun ((k0, u_a_0, l_a_0) : Nat × SV × (List Arc)) => [(23, .int .i64 (k0 : Int))])
   (fun ((k0, u_a_0, l_a_0) : Nat × SV × (List Arc)) w' => (k0 ≤ t.arcs.length) ∧ (l_a_0 = (t.arcs.take k0).map swA) ∧ Mem w I I (row EArc (sv u_a_0) l_a_0 :: box b6 29 [.int .i64 t.states, .int .i64 t.start, sv fu1, sv u_a_0] :: box b4 29 [.int .i64 0, .int .i64 0, .slice none 0 0, .slice none 0 0] :: box b2 29 [.int .i64 t.states, .int .i64 t.start, sv fu1, sv au1] :: []) w')
   (fun ((k0, u_a_0, l_a_0) : Nat × SV × (List Arc)) => t.arcs.length - k0) (0, nilV, []) ⟨rfl, trivial⟩ ?_ ?_
 ·refine ⟨Nat.zero_le _, rfl, ?_⟩
  exact M
 rintro ⟨k0, u_a_0, l_a_0⟩ jj0 w7 ⟨hk0, haa, M⟩
 refine wc_seq ?_
 refine wc_region ?_
 refine wl_m M (q_lss rfl rfl) rfl rfl ?_
 refine wl_nil ?_
 refine wc_seq ?_
 refine wc_dec rfl (fun ht24 => ?_) (fun ht24 => ?_)
 ·obtain ⟨x0, hx0⟩ : ∃ x_, t.arcs[k0]? = some x_ := ⟨_, List.getElem?_eq_getElem (by omega)⟩
  have hll0 := (Ra1).len_le
  refine wc_skip ?_
  refine wc_seq ?_
  refine wc_block ?_
  refine wc_seq ?_
  refine wc_region ?_
  refine wl_ix (j := k0) M Ra1 Tryd.underlying27 rfl rfl hx0 rfl (fun b25 o25 p25 => ?_)
  refine wl_m M (q_ldp p25 rfl rfl) rfl rfl ?_
  refine wl_e (e_alloc M z52) rfl rfl ?_
  rintro _ w8 ⟨b8, rfl, M⟩
  refine wl_e0 (e_stW 0 M rfl rfl rfl sz52 rfl rfl) rfl ?_
  intro _ w9 M
  simp only [sC0, sCS] at M
  refine wl_nil ?_
  refine wc_draws (fun w' => Mem w I I (box b8 52 [.int .i64 x0.src, .int .i64 x0.dst, .int .i32 x0.inp, .int .i32 x0.out] :: box b6 29 [.int .i64 t.states, .int .i64 t.start, sv fu1, sv u_a_0] :: box b4 29 [.int .i64 0, .int .i64 0, .slice none 0 0, .slice none 0 0] :: box b2 29 [.int .i64 t.states, .int .i64 t.start, sv fu1, sv au1] :: []) w' ∧ True) [8] fol ?_
  replace M := M.drew
  have hS := (⟨(M.drop 1), trivial⟩ : _ ∧ _)
  refine wa_q 0 rfl (by kernel_rfl) (q_fa fo_29_3 rfl) hS rfl rfl ?_
  refine wa_q 1 rfl (by kernel_rfl) ((q_ldb 1 Tryd.underlying27 rfl rfl rfl rfl).mono fun _ h => h.1) hS rfl rfl ?_
  refine wa_q 2 rfl (by kernel_rfl) (q_move rfl) hS rfl rfl ?_
  refine wa_q 3 rfl (by kernel_rfl) ((q_ldbA 0 Tryd.underlying52 rfl sz52 rfl rfl rfl rfl).mono fun _ h => h.1) hS rfl rfl ?_
  refine wa_e 4 rfl (by kernel_rfl) (e_callVC (vs := [.agg #[.int .i64 x0.src, .int .i64 x0.dst, .int .i32 x0.inp, .int .i32 x0.out]]) (caps := []) M (invArc_c x0 M.imm) Tryd.func52 rfl rfl rfl) rfl rfl ?_
  rintro _ w10 ⟨J31, hJ31, rfl, M⟩
  have hS := (⟨((M.less hJ31 (fun _ _ => rfl)).drop 1), trivial⟩ : _ ∧ _)
  refine ⟨fun _ => hS, ?_⟩
  replace M := M.less hJ31 (fun _ _ => rfl)
  refine wa_e 5 rfl (by kernel_rfl) (e_bsI (E := EArc) (xs := [(swA x0)]) M (bs_27_1 _ _ _ _) ⟨⟨rfl, rfl⟩, trivial⟩ rfl rfl (by decide)) rfl rfl ?_
  rintro _ w11 ⟨u32, J32, rfl, hJ32, R32, M⟩
  have hoJ32 := M.old
  have hS := (⟨((M.less hJ32 (fun _ _ => rfl)).drop 1), trivial⟩ : _ ∧ _)
  refine ⟨fun _ => hS, ?_⟩
  refine wa_e 6 rfl (by kernel_rfl) (e_app 1 M rfl R32 Tryd.underlying27 rfl rfl (by rw [haa, List.length_map, List.length_take]; show (_ + 1) * 24 ≤ _; omega)) rfl rfl ?_
  rintro _ w12 ⟨u33, rfl, M⟩
  simp only [sC0, sCS] at M
  have hS := (⟨((M.less hJ32 (fun _ _ => rfl)).drop 1), trivial⟩ : _ ∧ _)
  refine ⟨fun _ => hS, ?_⟩
  replace M := M.less hJ32 (fun _ _ => rfl)
  refine wa_q 7 rfl (by kernel_rfl) (q_fa fo_29_3 rfl) hS rfl rfl ?_
  refine wa_e0 8 rfl (by kernel_rfl) (e_stb 2 M rfl rfl rfl sz27 rfl rfl) rfl ?_
  intro _ w13 M
  simp only [sC0, sCS] at M
  refine ⟨nofun, ?_⟩
  refine wa_done (by kernel_rfl) ?_
  refine wc_region ?_
  refine wl_m M (q_add rfl rfl (IntWalk.i64_in _ (by omega))) rfl rfl ?_
  refine wl_mv M rfl rfl ?_
  refine wl_nil ?_
  replace M := M.drop 0
  refine ⟨(k0 + 1, u33, l_a_0 ++ [(swA x0)]), ?_, ⟨(by omega), (by rw [take_snoc hx0, List.map_append, haa]; rfl), M⟩, ⟨rfl, trivial⟩, unw_look rfl unw_base⟩
  show t.arcs.length - (k0 + 1) < t.arcs.length - k0
  omega
 have hke0 : k0 = t.arcs.length := by omega
 refine wc_exit rfl ?_
 refine wc_seq ?_
 rw [hke0, List.take_length] at haa
 subst haa
 obtain ⟨I9, M, hI9, Rn⟩ := M.frzRow 0 rfl
 have hoI9 := M.old
 simp only [List.eraseIdx_cons_zero, List.eraseIdx_cons_succ] at M
 refine wc_region ?_
 refine wl_m M (q_ldbA 0 Tryd.underlying29 rfl sz29 rfl rfl rfl rfl) rfl rfl ?_
 refine wl_e (e_callC M (finish_c (t := invT t) (m := m) ha.st (by omega) (inv_rng (ha.rng hrf)) (by show (t.arcs.map swA).length ≤ _; rw [List.length_map]; omega) (by show t.finals.length ≤ _; omega) M.imm ⟨_, _, rfl, (Rf1.mono hI9), Rn⟩) Tryd.func43 rfl rfl) rfl rfl ?_
 rintro _ w14 ⟨J37, hJ37, ⟨_, rfl, ⟨fu37, au37, rfl, Rf37, Ra37⟩⟩, M⟩
 have hoJ37 := M.old
 refine wl_m M (q_ext rfl rfl) rfl rfl ?_
 refine wl_m M (q_ext rfl rfl) rfl rfl ?_
 refine wl_e0 (e_stW 1 M rfl rfl rfl sz29 rfl rfl) rfl ?_
 intro _ w15 M
 simp only [sC0, sCS] at M
 refine wl_as M rfl rfl ?_
 refine wl_nil ?_
 refine wc_ret ?_
 exact outc2 rfl rfl (load_boxA M 1 Tryd.underlying29 rfl sz29 rfl rfl rfl) rfl ⟨_, _, rfl, M.grow, _, by rw [inv_ok hv ha.st], by rw [inv_ok hv ha.st]; exact ⟨_, _, rfl, Rf37, Ra37⟩⟩
theorem invert_c (t : Tra) {v : Value} {I : Heap} {w : World} (hI : hle I (hp w)) (R : t.rd I v) :
    Calls A 25 #[v] w (Ret w I fun r I' => ∃ (v' : Value) (u : Tra) (e : Int), r = .tuple #[v', .int .i64 e] ∧ u.rd I' v' ∧ (u, e) = InvS t) := by
 obtain ⟨fu1, au1, rfl, Rf1, Ra1⟩ := R
 have M := Mem.start hI
 refine enter Tryd.func25 rfl 8 Tryd.ntmps25 [_] rfl ?_
 refine wc_seq ?_
 refine wc_region ?_
 refine wl_e (e_box M rfl) rfl rfl ?_
 rintro _ w1 ⟨b1, rfl, M⟩
 refine wl_e (e_alloc M z29) rfl rfl ?_
 rintro _ w2 ⟨b2, rfl, M⟩
 refine wl_as M rfl rfl ?_
 refine wl_nil ?_
 refine wc_seq ?_
 refine wc_region ?_
 refine wl_m M (q_ldbA 1 Tryd.underlying29 rfl sz29 rfl rfl rfl rfl) rfl rfl ?_
 refine wl_e (e_callC M (changedInv_c t M.imm ⟨_, _, rfl, Rf1, Ra1⟩) Tryd.func51 rfl rfl) rfl rfl ?_
 rintro _ w3 ⟨J5, hJ5, ⟨_, rfl, ⟨fu5, au5, rfl, Rf5, Ra5⟩⟩, M⟩
 have hoJ5 := M.old
 refine wl_m M (q_ext rfl rfl) rfl rfl ?_
 refine wl_m M (q_ext rfl rfl) rfl rfl ?_
 refine wl_e0 (e_stW 0 M rfl rfl rfl sz29 rfl rfl) rfl ?_
 intro _ w4 M
 simp only [sC0, sCS] at M
 refine wl_as M rfl rfl ?_
 refine wl_nil ?_
 refine wc_ret ?_
 exact outc2 rfl rfl (load_boxA M 0 Tryd.underlying29 rfl sz29 rfl rfl rfl) rfl ⟨_, _, rfl, M.grow, _, (InvS t).1, (InvS t).2, rfl, ⟨_, _, rfl, Rf5, Ra5⟩, rfl⟩
end Go.Proofs.YtoilmeiikgegcaaDoor.G
