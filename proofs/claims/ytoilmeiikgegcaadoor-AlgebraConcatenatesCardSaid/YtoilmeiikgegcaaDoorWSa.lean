/- Walks of the program's functions. -/
import Derived.Test.YtoilmeiikgegcaaDoorWVc
import Derived.Test.YtoilmeiikgegcaaDoorGAsl
set_option linter.all false
namespace Go.Proofs.YtoilmeiikgegcaaDoor.G
open Go Go.RowKit
theorem moved_c {a : Tra} {w0 w : World} {I0 I : Heap} {Lt : List Res} {bt : Nat} {st sa : Int} {fv : Value} {ua : SV} {ys : List Arc} (k : Int) (hk : 0 ≤ k ∧ k ≤ 1073741824) (ha : ∀ x ∈ a.arcs, (0 ≤ x.src ∧ x.src ≤ 1073741824) ∧ 0 ≤ x.dst ∧ x.dst ≤ 1073741824) (hl : ys.length + a.arcs.length ≤ 1073741824) {v : Value} (R : a.rd I v) (M : Mem w0 I0 I (box bt 29 [.int .i64 st, .int .i64 sa, fv, sv ua] :: row EArc (sv ua) ys :: Lt) w) :
    Calls A 50 #[.pointer (some ⟨bt, 0, none⟩), v, .int .i64 k] w (fun e w' => ∃ vv, e = .returned vv ∧ ∃ ua' : SV, Mem w0 I0 I (box bt 29 [.int .i64 st, .int .i64 sa, fv, sv ua'] :: row EArc (sv ua') (ys ++ a.arcs.map (shA k)) :: Lt) w') := by
 obtain ⟨fu1, au1, rfl, Rf1, Ra1⟩ := R
 have hoI := M.old
 refine enter Tryd.func50 rfl 36 Tryd.ntmps50 [_, _, _] rfl ?_
 refine wc_seq ?_
 refine wc_region ?_
 refine wl_e (e_box M rfl) rfl rfl ?_
 rintro _ w1 ⟨b4, rfl, M⟩
 refine wl_nil ?_
 refine wc_seq ?_
 refine wc_region ?_
 refine wl_m M (q_fa fo_29_3 rfl) rfl rfl ?_
 refine wl_m M (q_ldb 0 Tryd.underlying27 rfl rfl rfl rfl) rfl rfl ?_
 refine wl_m M (q_lenR Ra1 Tryd.underlying27 rfl) rfl rfl ?_
 refine wl_mv M rfl rfl ?_
 refine wl_nil ?_
 refine wc_block ?_
 refine wc_loop (α := Nat × SV × (List Arc)) [7, 11, 12, 13, 14, 15, 16, 17, 18, 19, 20, 21, 22, 23, 24, 25, 26, 27, 28, 29, 30, 31, 32, 33, 34, 35] (fun ((k0, u_a_0, l_a_0) : Nat × SV × (List Arc)) => [(11, .int .i64 (k0 : Int))])
   (fun ((k0, u_a_0, l_a_0) : Nat × SV × (List Arc)) w' => (k0 ≤ a.arcs.length) ∧ (l_a_0 = ys ++ (a.arcs.take k0).map (shA k)) ∧ Mem w0 I0 I (box b4 29 [.int .i64 a.states, .int .i64 a.start, sv fu1, sv au1] :: box bt 29 [.int .i64 st, .int .i64 sa, fv, sv u_a_0] :: row EArc (sv u_a_0) l_a_0 :: Lt) w')
   (fun ((k0, u_a_0, l_a_0) : Nat × SV × (List Arc)) => a.arcs.length - k0) (0, ua, ys) ⟨rfl, trivial⟩ ?_ ?_
 ·refine ⟨Nat.zero_le _, (by simp), ?_⟩
  exact M
 rintro ⟨k0, u_a_0, l_a_0⟩ jj0 w2 ⟨hk0, haa, M⟩
 refine wc_seq ?_
 refine wc_region ?_
 refine wl_m M (q_lss rfl rfl) rfl rfl ?_
 refine wl_nil ?_
 refine wc_seq ?_
 refine wc_dec rfl (fun ht12 => ?_) (fun ht12 => ?_)
 ·obtain ⟨x0, hx0⟩ : ∃ x_, a.arcs[k0]? = some x_ := ⟨_, List.getElem?_eq_getElem (by omega)⟩
  have hll0 := (Ra1).len_le
  have hx0r := ha x0 (List.mem_of_getElem? hx0)
  refine wc_skip ?_
  refine wc_seq ?_
  refine wc_block ?_
  refine wc_seq ?_
  refine wc_region ?_
  refine wl_ix (j := k0) M Ra1 Tryd.underlying27 rfl rfl hx0 rfl (fun b13 o13 p13 => ?_)
  refine wl_m M (q_ldp p13 rfl rfl) rfl rfl ?_
  refine wl_e (e_alloc M z52) rfl rfl ?_
  rintro _ w3 ⟨b7, rfl, M⟩
  refine wl_e0 (e_stW 0 M rfl rfl rfl sz52 rfl rfl) rfl ?_
  intro _ w4 M
  simp only [sC0, sCS] at M
  refine wl_nil ?_
  refine wc_seq ?_
  refine wc_region ?_
  refine wl_m M (q_fa fo_52_0 rfl) rfl rfl ?_
  refine wl_m M (q_ldb 0 Tryd.underlying3 rfl rfl rfl rfl) rfl rfl ?_
  refine wl_mv M rfl rfl ?_
  refine wl_m M (q_add rfl rfl (IntWalk.i64_in _ (by omega))) rfl rfl ?_
  refine wl_m M (q_fa fo_52_0 rfl) rfl rfl ?_
  refine wl_e0 (e_stb 0 M rfl rfl rfl sz3 rfl rfl) rfl ?_
  intro _ w5 M
  simp only [sC0, sCS] at M
  refine wl_nil ?_
  refine wc_seq ?_
  refine wc_region ?_
  refine wl_m M (q_fa fo_52_1 rfl) rfl rfl ?_
  refine wl_m M (q_ldb 0 Tryd.underlying3 rfl rfl rfl rfl) rfl rfl ?_
  refine wl_mv M rfl rfl ?_
  refine wl_m M (q_add rfl rfl (IntWalk.i64_in _ (by omega))) rfl rfl ?_
  refine wl_m M (q_fa fo_52_1 rfl) rfl rfl ?_
  refine wl_e0 (e_stb 0 M rfl rfl rfl sz3 rfl rfl) rfl ?_
  intro _ w6 M
  simp only [sC0, sCS] at M
  refine wl_nil ?_
  refine wc_draws (fun w' => Mem w0 I0 I (box b7 52 [.int .i64 (x0.src + k), .int .i64 (x0.dst + k), .int .i32 x0.inp, .int .i32 x0.out] :: box b4 29 [.int .i64 a.states, .int .i64 a.start, sv fu1, sv au1] :: box bt 29 [.int .i64 st, .int .i64 sa, fv, sv u_a_0] :: Lt) w' ∧ True) [10] fol ?_
  replace M := M.drew
  have hS := (⟨(M.drop 3), trivial⟩ : _ ∧ _)
  refine wa_q 0 rfl (by kernel_rfl) (q_move rfl) hS rfl rfl ?_
  refine wa_q 1 rfl (by kernel_rfl) (q_move rfl) hS rfl rfl ?_
  refine wa_q 2 rfl (by kernel_rfl) (q_nilCheck rfl) hS rfl rfl ?_
  refine wa_q 3 rfl (by kernel_rfl) (q_fa fo_29_3 rfl) hS rfl rfl ?_
  refine wa_q 4 rfl (by kernel_rfl) ((q_ldb 2 Tryd.underlying27 rfl rfl rfl rfl).mono fun _ h => h.1) hS rfl rfl ?_
  refine wa_q 5 rfl (by kernel_rfl) ((q_ldbA 0 Tryd.underlying52 rfl sz52 rfl rfl rfl rfl).mono fun _ h => h.1) hS rfl rfl ?_
  refine wa_e 6 rfl (by kernel_rfl) (e_bsI (E := EArc) (xs := [(Arc.mk (x0.src + k) (x0.dst + k) x0.inp x0.out)]) M (bs_27_1 _ _ _ _) ⟨⟨rfl, rfl⟩, trivial⟩ rfl rfl (by decide)) rfl rfl ?_
  rintro _ w7 ⟨u31, J31, rfl, hJ31, R31, M⟩
  have hoJ31 := M.old
  have hS := (⟨((M.less hJ31 hoI).drop 3), trivial⟩ : _ ∧ _)
  refine ⟨fun _ => hS, ?_⟩
  refine wa_e 7 rfl (by kernel_rfl) (e_app 3 M rfl R31 Tryd.underlying27 rfl rfl (by rw [haa, List.length_append, List.length_map, List.length_take]; show (_ + 1) * 24 ≤ _; omega)) rfl rfl ?_
  rintro _ w8 ⟨u32, rfl, M⟩
  simp only [sC0, sCS] at M
  have hS := (⟨((M.less hJ31 hoI).drop 3), trivial⟩ : _ ∧ _)
  refine ⟨fun _ => hS, ?_⟩
  replace M := M.less hJ31 hoI
  refine wa_q1 (S1 := fun _ => True) 8 rfl (by kernel_rfl) (q_nilCheck rfl) trivial rfl rfl (fun _ => hS) ?_
  refine wa_q 9 rfl (by kernel_rfl) (q_fa fo_29_3 rfl) hS rfl rfl ?_
  refine wa_e0 10 rfl (by kernel_rfl) (e_stb 2 M rfl rfl rfl sz27 rfl rfl) rfl ?_
  intro _ w9 M
  simp only [sC0, sCS] at M
  refine ⟨nofun, ?_⟩
  refine wa_done (by kernel_rfl) ?_
  refine wc_region ?_
  refine wl_m M (q_add rfl rfl (IntWalk.i64_in _ (by omega))) rfl rfl ?_
  refine wl_mv M rfl rfl ?_
  refine wl_nil ?_
  replace M := M.drop 0
  refine ⟨(k0 + 1, u32, l_a_0 ++ [(Arc.mk (x0.src + k) (x0.dst + k) x0.inp x0.out)]), ?_, ⟨(by omega), (by rw [take_snoc hx0, List.map_append, ← List.append_assoc, ← haa]; rfl), M⟩, ⟨rfl, trivial⟩, unw_look rfl unw_base⟩
  show a.arcs.length - (k0 + 1) < a.arcs.length - k0
  omega
 have hke0 : k0 = a.arcs.length := by omega
 rw [hke0, List.take_length] at haa
 refine wc_exit rfl ?_
 replace M := M.drop 0
 rw [haa] at M
 exact out0 rfl ⟨_, rfl, _, M⟩
theorem union_c (a b : Tra) {v1 v2 : Value} {I : Heap} {w : World} (hI : hle I (hp w)) (R1 : a.rd I v1) (R2 : b.rd I v2) :
    Calls A 22 #[v1, v2] w (Ret w I fun r I' => ∃ (v' : Value) (u : Tra) (e : Int), r = .tuple #[v', .int .i64 e] ∧ u.rd I' v' ∧ (u, e) = UniS a b) := by
 obtain ⟨fu1, au1, rfl, Rf1, Ra1⟩ := R1
 obtain ⟨fu2, au2, rfl, Rf2, Ra2⟩ := R2
 have M := Mem.start hI
 refine enter Tryd.func22 rfl 87 Tryd.ntmps22 [_, _] rfl ?_
 refine wc_seq ?_
 refine wc_region ?_
 refine wl_e (e_box M rfl) rfl rfl ?_
 rintro _ w1 ⟨b2, rfl, M⟩
 refine wl_e (e_box M rfl) rfl rfl ?_
 rintro _ w2 ⟨b3, rfl, M⟩
 refine wl_e (e_alloc M z29) rfl rfl ?_
 rintro _ w3 ⟨b4, rfl, M⟩
 refine wl_as M rfl rfl ?_
 refine wl_nil ?_
 refine wc_seq ?_
 refine wc_seq ?_
 refine wc_join (α := Unit) [11, 12, 13, 14, 15, 16, 17, 18] (fun _ => [(18, .bool ((!(validT a)) || (!(validT b))))]) (fun _ w' => Mem w I I (box b4 29 [.int .i64 0, .int .i64 0, .slice none 0 0, .slice none 0 0] :: box b3 29 [.int .i64 b.states, .int .i64 b.start, sv fu2, sv au2] :: box b2 29 [.int .i64 a.states, .int .i64 a.start, sv fu1, sv au1] :: []) w') ?_ ?_
 ·refine wc_region ?_
  refine wl_m M (q_ldbA 2 Tryd.underlying29 rfl sz29 rfl rfl rfl rfl) rfl rfl ?_
  refine wl_e (e_callC M (valid_c a M.imm ⟨_, _, rfl, Rf1, Ra1⟩) Tryd.func39 rfl rfl) rfl rfl ?_
  rintro _ w4 ⟨J12, hJ12, rfl, M⟩
  replace M := M.less hJ12 (fun _ _ => rfl)
  refine wl_m M (q_not rfl) rfl rfl ?_
  refine wl_mv M rfl rfl ?_
  rcases Bool.eq_false_or_eq_true (!(validT a)) with hg14 | hg14
  ·refine wl_m M (q_off 3 rfl rfl rfl hg14) rfl rfl ?_
   refine wl_m M (q_off 3 rfl rfl rfl hg14) rfl rfl ?_
   refine wl_m M (q_off 3 rfl rfl rfl hg14) rfl rfl ?_
   refine wl_m M (q_pickT rfl hg14 rfl) rfl rfl ?_
   refine wl_nil ?_
   exact ⟨(), M, ⟨(show some (Value.bool true) = some (Value.bool ((!(validT a)) || (!(validT b)))) from by first | (simp only [hg14, Bool.true_or, Bool.false_or, Bool.true_and, Bool.false_and, Bool.or_true, Bool.or_false, Bool.and_true, Bool.and_false]; done) | simp_all), trivial⟩, unw_take 8 rfl rfl⟩
  refine wl_m M (q_guard 3 rfl rfl rfl hg14 (q_ldbA 1 Tryd.underlying29 rfl sz29 rfl rfl rfl rfl)) rfl rfl ?_
  refine wl_e (e_guard 3 rfl rfl rfl hg14 (e_callC M (valid_c b M.imm ⟨_, _, rfl, Rf2, Ra2⟩) Tryd.func39 rfl rfl)) rfl rfl ?_
  rintro _ w5 ⟨J16, hJ16, rfl, M⟩
  replace M := M.less hJ16 (fun _ _ => rfl)
  refine wl_m M (q_guard 3 rfl rfl rfl hg14 (q_not rfl)) rfl rfl ?_
  refine wl_m M (q_pickF rfl hg14 rfl) rfl rfl ?_
  refine wl_nil ?_
  exact ⟨(), M, ⟨(show some (Value.bool (!(validT b))) = some (Value.bool ((!(validT a)) || (!(validT b)))) from by first | (simp only [hg14, Bool.true_or, Bool.false_or, Bool.true_and, Bool.false_and, Bool.or_true, Bool.or_false, Bool.and_true, Bool.and_false]; done) | simp_all), trivial⟩, unw_take 8 rfl rfl⟩
 rintro _ jr1 w6 M
 refine wc_cond rfl (fun ht18 => ?_) (fun ht18 => ?_)
 ·refine wc_seq ?_
  refine wc_region ?_
  refine wl_m M (q_build (bd_29) trivial) rfl rfl ?_
  refine wl_e0 (e_stW 0 M rfl rfl rfl sz29 rfl rfl) rfl ?_
  intro _ w7 M
  simp only [sC0, sCS] at M
  refine wl_as M rfl rfl ?_
  refine wl_nil ?_
  refine wc_ret ?_
  exact outc2 rfl rfl (load_boxA M 0 Tryd.underlying29 rfl sz29 rfl rfl rfl) rfl ⟨_, _, rfl, M.grow, _, zeroTra, 1, rfl, ⟨nilV, nilV, rfl, rdSl_nil _, rdSl_nil _⟩, (uni_bad ht18).symm⟩
 have hva : validT a = true := by simpa using (Bool.or_eq_false_iff.1 ht18).1
 have hvb : validT b = true := by simpa using (Bool.or_eq_false_iff.1 ht18).2
 obtain ⟨m, hsa, hma, hla, rga, lba⟩ := valid_all hva
 have hfa := valid_fin hva
 have hsta := rga.start
 obtain ⟨n, hsb, hmb, hlb, rgb, lbb⟩ := valid_all hvb
 have hfb := valid_fin hvb
 have hstb := rgb.start
 refine wc_skip ?_
 refine wc_seq ?_
 replace M := M.nilRow EInt
 replace M := M.nilRow EArc
 refine wc_region ?_
 refine wl_m M (q_fa fo_29_0 rfl) rfl rfl ?_
 refine wl_m M (q_ldb 4 Tryd.underlying3 rfl rfl rfl rfl) rfl rfl ?_
 refine wl_m M (q_add rfl rfl (IntWalk.i64_in _ (by omega))) rfl rfl ?_
 refine wl_m M (q_fa fo_29_0 rfl) rfl rfl ?_
 refine wl_m M (q_ldb 3 Tryd.underlying3 rfl rfl rfl rfl) rfl rfl ?_
 refine wl_m M (q_add rfl rfl (IntWalk.i64_in _ (by omega))) rfl rfl ?_
 refine wl_m M (q_build (bd_29_0 _) ⟨⟨rfl, rfl⟩, trivial⟩) rfl rfl ?_
 refine wl_e (e_alloc M z29) rfl rfl ?_
 rintro _ w8 ⟨b6, rfl, M⟩
 refine wl_e0 (e_stW 0 M rfl rfl rfl sz29 rfl rfl) rfl ?_
 intro _ w9 M
 simp only [sC0, sCS] at M
 refine wl_nil ?_
 refine wc_seq ?_
 refine wc_region ?_
 refine wl_m M (q_fa fo_29_3 rfl) rfl rfl ?_
 refine wl_m M (q_ldb 0 Tryd.underlying27 rfl rfl rfl rfl) rfl rfl ?_
 refine wl_m M (q_fa fo_29_1 rfl) rfl rfl ?_
 refine wl_m M (q_ldb 5 Tryd.underlying3 rfl rfl rfl rfl) rfl rfl ?_
 refine wl_m M (q_add rfl rfl (IntWalk.i64_in _ (by omega))) rfl rfl ?_
 refine wl_m M (q_build (bd_52_1 _) ⟨⟨rfl, rfl⟩, trivial⟩) rfl rfl ?_
 refine wl_m M (q_fa fo_29_0 rfl) rfl rfl ?_
 refine wl_m M (q_ldb 5 Tryd.underlying3 rfl rfl rfl rfl) rfl rfl ?_
 refine wl_m M (q_add rfl rfl (IntWalk.i64_in _ (by omega))) rfl rfl ?_
 refine wl_m M (q_fa fo_29_1 rfl) rfl rfl ?_
 refine wl_m M (q_ldb 4 Tryd.underlying3 rfl rfl rfl rfl) rfl rfl ?_
 refine wl_m M (q_add rfl rfl (IntWalk.i64_in _ (by omega))) rfl rfl ?_
 refine wl_m M (q_build (bd_52_1 _) ⟨⟨rfl, rfl⟩, trivial⟩) rfl rfl ?_
 refine wl_e (e_bsI (E := EArc) (xs := [(Arc.mk 0 (1 + a.start) 0 0), (Arc.mk 0 ((1 + a.states) + b.start) 0 0)]) M (bs_27_2 _ _ _ _ _ _ _ _) ⟨⟨rfl, rfl⟩, ⟨rfl, rfl⟩, trivial⟩ rfl rfl (by decide)) rfl rfl ?_
 rintro _ w10 ⟨u40, J40, rfl, hJ40, R40, M⟩
 have hoJ40 := M.old
 refine wl_e (e_app 1 M rfl R40 Tryd.underlying27 rfl rfl (by show (_ + _) * 24 ≤ _; simp only [List.length_cons, List.length_nil]; omega)) rfl rfl ?_
 rintro _ w11 ⟨u41, rfl, M⟩
 replace M := M.less hJ40 (fun _ _ => rfl)
 simp only [sC0, sCS] at M
 refine wl_m M (q_fa fo_29_3 rfl) rfl rfl ?_
 refine wl_e0 (e_stb 0 M rfl rfl rfl sz27 rfl rfl) rfl ?_
 intro _ w12 M
 simp only [sC0, sCS] at M
 refine wl_nil ?_
 refine wc_seq ?_
 refine wc_region ?_
 refine wl_m M (q_ldbA 5 Tryd.underlying29 rfl sz29 rfl rfl rfl rfl) rfl rfl ?_
 refine wl_e (e_callR Tryd.func50 rfl (vs := [.pointer (some ⟨b6, 0, none⟩), .agg #[.int .i64 a.states, .int .i64 a.start, sv fu1, sv au1], .int .i64 1]) rfl (moved_c (ua := u41) (ys := [] ++ [(Arc.mk 0 (1 + a.start) 0 0), (Arc.mk 0 ((1 + a.states) + b.start) 0 0)]) (a := a) 1 (by omega) (fun x hx => by have := rga.arcs x hx; omega) (by first | omega | (simp only [List.length_append, List.length_cons, List.length_nil, List.length_map]; omega) | (show 0 + _ ≤ _; omega)) ⟨_, _, rfl, Rf1, Ra1⟩ M)) rfl rfl ?_
 rintro _ w13 ⟨un, M⟩
 refine wl_nil ?_
 refine wc_seq ?_
 refine wc_region ?_
 refine wl_m M (q_ldbA 4 Tryd.underlying29 rfl sz29 rfl rfl rfl rfl) rfl rfl ?_
 refine wl_m M (q_fa fo_29_0 rfl) rfl rfl ?_
 refine wl_m M (q_ldb 5 Tryd.underlying3 rfl rfl rfl rfl) rfl rfl ?_
 refine wl_m M (q_add rfl rfl (IntWalk.i64_in _ (by omega))) rfl rfl ?_
 refine wl_e (e_callR Tryd.func50 rfl (vs := [.pointer (some ⟨b6, 0, none⟩), .agg #[.int .i64 b.states, .int .i64 b.start, sv fu2, sv au2], .int .i64 (1 + a.states)]) rfl (moved_c (ua := un) (ys := ([] ++ [(Arc.mk 0 (1 + a.start) 0 0), (Arc.mk 0 ((1 + a.states) + b.start) 0 0)]) ++ a.arcs.map (shA 1)) (a := b) (1 + a.states) (by omega) (fun x hx => by have := rgb.arcs x hx; omega) (by first | omega | (simp only [List.length_append, List.length_cons, List.length_nil, List.length_map]; omega) | (show 0 + _ ≤ _; omega)) ⟨_, _, rfl, Rf2, Ra2⟩ M)) rfl rfl ?_
 rintro _ w14 ⟨un, M⟩
 refine wl_nil ?_
 refine wc_seq ?_
 refine wc_seq ?_
 refine wc_region ?_
 refine wl_m M (q_fa fo_29_2 rfl) rfl rfl ?_
 refine wl_m M (q_ldb 5 Tryd.underlying26 rfl rfl rfl rfl) rfl rfl ?_
 refine wl_m M (q_lenR Rf1 Tryd.underlying26 rfl) rfl rfl ?_
 refine wl_mv M rfl rfl ?_
 refine wl_nil ?_
 refine wc_block ?_
 refine wc_loop (α := Nat × SV × (List Int)) [8, 53, 54, 55, 56, 57, 58, 59, 60, 61, 62, 63, 64] (fun ((k0, u_f_0, l_f_0) : Nat × SV × (List Int)) => [(53, .int .i64 (k0 : Int))])
   (fun ((k0, u_f_0, l_f_0) : Nat × SV × (List Int)) w' => (k0 ≤ a.finals.length) ∧ (l_f_0 = (a.finals.take k0).map (1 + ·)) ∧ Mem w I I (box b6 29 [.int .i64 ((1 + a.states) + b.states), .int .i64 0, sv u_f_0, sv un] :: row EArc (sv un) ((([] ++ [(Arc.mk 0 (1 + a.start) 0 0), (Arc.mk 0 ((1 + a.states) + b.start) 0 0)]) ++ a.arcs.map (shA 1)) ++ b.arcs.map (shA (1 + a.states))) :: row EInt (sv u_f_0) l_f_0 :: box b4 29 [.int .i64 0, .int .i64 0, .slice none 0 0, .slice none 0 0] :: box b3 29 [.int .i64 b.states, .int .i64 b.start, sv fu2, sv au2] :: box b2 29 [.int .i64 a.states, .int .i64 a.start, sv fu1, sv au1] :: []) w')
   (fun ((k0, u_f_0, l_f_0) : Nat × SV × (List Int)) => a.finals.length - k0) (0, nilV, []) ⟨rfl, trivial⟩ ?_ ?_
 ·refine ⟨Nat.zero_le _, rfl, ?_⟩
  exact M
 rintro ⟨k0, u_f_0, l_f_0⟩ jj0 w15 ⟨hk0, hff, M⟩
 refine wc_seq ?_
 refine wc_region ?_
 refine wl_m M (q_lss rfl rfl) rfl rfl ?_
 refine wl_nil ?_
 refine wc_seq ?_
 refine wc_dec rfl (fun ht54 => ?_) (fun ht54 => ?_)
 ·obtain ⟨x0, hx0⟩ : ∃ x_, a.finals[k0]? = some x_ := ⟨_, List.getElem?_eq_getElem (by omega)⟩
  have hll0 := (Rf1).len_le
  have hx0r := rga.fin x0 (List.mem_of_getElem? hx0)
  refine wc_skip ?_
  refine wc_seq ?_
  refine wc_block ?_
  refine wc_seq ?_
  refine wc_region ?_
  refine wl_ix (j := k0) M Rf1 Tryd.underlying26 rfl rfl hx0 rfl (fun b55 o55 p55 => ?_)
  refine wl_m M (q_ldp p55 rfl rfl) rfl rfl ?_
  refine wl_as M rfl rfl ?_
  refine wl_nil ?_
  refine wc_region ?_
  refine wl_m M (q_fa fo_29_2 rfl) rfl rfl ?_
  refine wl_m M (q_ldb 0 Tryd.underlying26 rfl rfl rfl rfl) rfl rfl ?_
  refine wl_mv M rfl rfl ?_
  refine wl_m M (q_add rfl rfl (IntWalk.i64_in _ (by omega))) rfl rfl ?_
  refine wl_e (e_bsI (E := EInt) (xs := [1 + x0]) M (bs_26_1 _) ⟨⟨rfl, rfl⟩, trivial⟩ rfl rfl (by decide)) rfl rfl ?_
  rintro _ w16 ⟨u61, J61, rfl, hJ61, R61, M⟩
  have hoJ61 := M.old
  refine wl_e (e_app 2 M rfl R61 Tryd.underlying26 rfl rfl (by rw [hff, List.length_map, List.length_take]; show (_ + 1) * 8 ≤ _; omega)) rfl rfl ?_
  rintro _ w17 ⟨u62, rfl, M⟩
  replace M := M.less hJ61 (fun _ _ => rfl)
  simp only [sC0, sCS] at M
  refine wl_m M (q_fa fo_29_2 rfl) rfl rfl ?_
  refine wl_e0 (e_stb 0 M rfl rfl rfl sz26 rfl rfl) rfl ?_
  intro _ w18 M
  simp only [sC0, sCS] at M
  refine wl_nil ?_
  refine wc_region ?_
  refine wl_m M (q_add rfl rfl (IntWalk.i64_in _ (by omega))) rfl rfl ?_
  refine wl_mv M rfl rfl ?_
  refine wl_nil ?_
  refine ⟨(k0 + 1, u62, l_f_0 ++ [1 + x0]), ?_, ⟨(by omega), (by rw [take_snoc hx0, List.map_append, ← hff]; rfl), M⟩, ⟨rfl, trivial⟩, unw_look rfl unw_base⟩
  show a.finals.length - (k0 + 1) < a.finals.length - k0
  omega
 have hke0 : k0 = a.finals.length := by omega
 rw [hke0, List.take_length] at hff
 refine wc_exit rfl ?_
 refine wc_seq ?_
 refine wc_seq ?_
 refine wc_region ?_
 refine wl_m M (q_fa fo_29_2 rfl) rfl rfl ?_
 refine wl_m M (q_ldb 4 Tryd.underlying26 rfl rfl rfl rfl) rfl rfl ?_
 refine wl_m M (q_lenR Rf2 Tryd.underlying26 rfl) rfl rfl ?_
 refine wl_mv M rfl rfl ?_
 refine wl_nil ?_
 refine wc_block ?_
 refine wc_loop (α := Nat × SV × (List Int)) [10, 68, 69, 70, 71, 72, 73, 74, 75, 76, 77, 78, 79, 80, 81, 82] (fun ((k2, u_f_2, l_f_2) : Nat × SV × (List Int)) => [(68, .int .i64 (k2 : Int))])
   (fun ((k2, u_f_2, l_f_2) : Nat × SV × (List Int)) w' => (k2 ≤ b.finals.length) ∧ (l_f_2 = a.finals.map (1 + ·) ++ (b.finals.take k2).map (1 + a.states + ·)) ∧ Mem w I I (box b6 29 [.int .i64 ((1 + a.states) + b.states), .int .i64 0, sv u_f_2, sv un] :: row EArc (sv un) ((([] ++ [(Arc.mk 0 (1 + a.start) 0 0), (Arc.mk 0 ((1 + a.states) + b.start) 0 0)]) ++ a.arcs.map (shA 1)) ++ b.arcs.map (shA (1 + a.states))) :: row EInt (sv u_f_2) l_f_2 :: box b4 29 [.int .i64 0, .int .i64 0, .slice none 0 0, .slice none 0 0] :: box b3 29 [.int .i64 b.states, .int .i64 b.start, sv fu2, sv au2] :: box b2 29 [.int .i64 a.states, .int .i64 a.start, sv fu1, sv au1] :: []) w')
   (fun ((k2, u_f_2, l_f_2) : Nat × SV × (List Int)) => b.finals.length - k2) (0, u_f_0, l_f_0) ⟨rfl, trivial⟩ ?_ ?_
 ·refine ⟨Nat.zero_le _, (by simp [hff]), ?_⟩
  exact M
 rintro ⟨k2, u_f_2, l_f_2⟩ jj2 w19 ⟨hk2, hff2, M⟩
 refine wc_seq ?_
 refine wc_region ?_
 refine wl_m M (q_lss rfl rfl) rfl rfl ?_
 refine wl_nil ?_
 refine wc_seq ?_
 refine wc_dec rfl (fun ht69 => ?_) (fun ht69 => ?_)
 ·obtain ⟨x2, hx2⟩ : ∃ x_, b.finals[k2]? = some x_ := ⟨_, List.getElem?_eq_getElem (by omega)⟩
  have hll2 := (Rf2).len_le
  have hx2r := rgb.fin x2 (List.mem_of_getElem? hx2)
  refine wc_skip ?_
  refine wc_seq ?_
  refine wc_block ?_
  refine wc_seq ?_
  refine wc_region ?_
  refine wl_ix (j := k2) M Rf2 Tryd.underlying26 rfl rfl hx2 rfl (fun b70 o70 p70 => ?_)
  refine wl_m M (q_ldp p70 rfl rfl) rfl rfl ?_
  refine wl_as M rfl rfl ?_
  refine wl_nil ?_
  refine wc_region ?_
  refine wl_m M (q_fa fo_29_2 rfl) rfl rfl ?_
  refine wl_m M (q_ldb 0 Tryd.underlying26 rfl rfl rfl rfl) rfl rfl ?_
  refine wl_m M (q_fa fo_29_0 rfl) rfl rfl ?_
  refine wl_m M (q_ldb 5 Tryd.underlying3 rfl rfl rfl rfl) rfl rfl ?_
  refine wl_m M (q_add rfl rfl (IntWalk.i64_in _ (by omega))) rfl rfl ?_
  refine wl_mv M rfl rfl ?_
  refine wl_m M (q_add rfl rfl (IntWalk.i64_in _ (by omega))) rfl rfl ?_
  refine wl_e (e_bsI (E := EInt) (xs := [(1 + a.states) + x2]) M (bs_26_1 _) ⟨⟨rfl, rfl⟩, trivial⟩ rfl rfl (by decide)) rfl rfl ?_
  rintro _ w20 ⟨u79, J79, rfl, hJ79, R79, M⟩
  have hoJ79 := M.old
  refine wl_e (e_app 2 M rfl R79 Tryd.underlying26 rfl rfl (by rw [hff2, List.length_append, List.length_map, List.length_map, List.length_take]; show (_ + 1) * 8 ≤ _; omega)) rfl rfl ?_
  rintro _ w21 ⟨u80, rfl, M⟩
  replace M := M.less hJ79 (fun _ _ => rfl)
  simp only [sC0, sCS] at M
  refine wl_m M (q_fa fo_29_2 rfl) rfl rfl ?_
  refine wl_e0 (e_stb 0 M rfl rfl rfl sz26 rfl rfl) rfl ?_
  intro _ w22 M
  simp only [sC0, sCS] at M
  refine wl_nil ?_
  refine wc_region ?_
  refine wl_m M (q_add rfl rfl (IntWalk.i64_in _ (by omega))) rfl rfl ?_
  refine wl_mv M rfl rfl ?_
  refine wl_nil ?_
  refine ⟨(k2 + 1, u80, l_f_2 ++ [(1 + a.states) + x2]), ?_, ⟨(by omega), (by rw [take_snoc hx2, List.map_append, ← List.append_assoc, ← hff2]; rfl), M⟩, ⟨rfl, trivial⟩, unw_look rfl unw_base⟩
  show b.finals.length - (k2 + 1) < b.finals.length - k2
  omega
 have hke2 : k2 = b.finals.length := by omega
 refine wc_exit rfl ?_
 refine wc_seq ?_
 rw [hke2, List.take_length] at hff2
 subst hff2
 obtain ⟨I8, M, hI8, Rn⟩ := M.frzRow 2 rfl
 have hoI8 := M.old
 simp only [List.eraseIdx_cons_zero, List.eraseIdx_cons_succ] at M
 obtain ⟨I9, M, hI9, Rm⟩ := M.frzRow 1 rfl
 have hoI9 := M.old
 simp only [List.eraseIdx_cons_zero, List.eraseIdx_cons_succ] at M
 refine wc_region ?_
 refine wl_m M (q_ldbA 0 Tryd.underlying29 rfl sz29 rfl rfl rfl rfl) rfl rfl ?_
 refine wl_e (e_callC M (finish_c (t := (uniT a b)) (m := 1 + m + n) (by show 1 + a.states + b.states = _; omega) (by omega) (uni_rng rga rgb hsa hsb) (by show (uniT a b).arcs.length ≤ _; simp only [uniT, conT, staT, revT, List.length_append, List.length_cons, List.length_nil, List.length_map]; omega) (by show (uniT a b).finals.length ≤ _; simp only [uniT, conT, staT, revT, List.length_append, List.length_cons, List.length_nil, List.length_map]; omega) M.imm ⟨_, _, rfl, (Rn.mono hI9), Rm⟩) Tryd.func43 rfl rfl) rfl rfl ?_
 rintro _ w23 ⟨J84, hJ84, ⟨_, rfl, ⟨fu84, au84, rfl, Rf84, Ra84⟩⟩, M⟩
 have hoJ84 := M.old
 refine wl_m M (q_ext rfl rfl) rfl rfl ?_
 refine wl_m M (q_ext rfl rfl) rfl rfl ?_
 refine wl_e0 (e_stW 1 M rfl rfl rfl sz29 rfl rfl) rfl ?_
 intro _ w24 M
 simp only [sC0, sCS] at M
 refine wl_as M rfl rfl ?_
 refine wl_nil ?_
 refine wc_ret ?_
 exact outc2 rfl rfl (load_boxA M 1 Tryd.underlying29 rfl sz29 rfl rfl rfl) rfl ⟨_, _, rfl, M.grow, _, (FinS (uniT a b) (1 + m + n)).1, (FinS (uniT a b) (1 + m + n)).2, rfl, ⟨_, _, rfl, Rf84, Ra84⟩, (uni_ok hva hvb hsa hsb).symm⟩
theorem concat_c (a b : Tra) {v1 v2 : Value} {I : Heap} {w : World} (hI : hle I (hp w)) (R1 : a.rd I v1) (R2 : b.rd I v2) :
    Calls A 36 #[v1, v2] w (Ret w I fun r I' => ∃ (v' : Value) (u : Tra) (e : Int), r = .tuple #[v', .int .i64 e] ∧ u.rd I' v' ∧ (u, e) = ConS a b) := by
 obtain ⟨fu1, au1, rfl, Rf1, Ra1⟩ := R1
 obtain ⟨fu2, au2, rfl, Rf2, Ra2⟩ := R2
 have M := Mem.start hI
 refine enter Tryd.func36 rfl 75 Tryd.ntmps36 [_, _] rfl ?_
 refine wc_seq ?_
 refine wc_region ?_
 refine wl_e (e_box M rfl) rfl rfl ?_
 rintro _ w1 ⟨b2, rfl, M⟩
 refine wl_e (e_box M rfl) rfl rfl ?_
 rintro _ w2 ⟨b3, rfl, M⟩
 refine wl_e (e_alloc M z29) rfl rfl ?_
 rintro _ w3 ⟨b4, rfl, M⟩
 refine wl_as M rfl rfl ?_
 refine wl_nil ?_
 refine wc_seq ?_
 refine wc_seq ?_
 refine wc_join (α := Unit) [11, 12, 13, 14, 15, 16, 17, 18] (fun _ => [(18, .bool ((!(validT a)) || (!(validT b))))]) (fun _ w' => Mem w I I (box b4 29 [.int .i64 0, .int .i64 0, .slice none 0 0, .slice none 0 0] :: box b3 29 [.int .i64 b.states, .int .i64 b.start, sv fu2, sv au2] :: box b2 29 [.int .i64 a.states, .int .i64 a.start, sv fu1, sv au1] :: []) w') ?_ ?_
 ·refine wc_region ?_
  refine wl_m M (q_ldbA 2 Tryd.underlying29 rfl sz29 rfl rfl rfl rfl) rfl rfl ?_
  refine wl_e (e_callC M (valid_c a M.imm ⟨_, _, rfl, Rf1, Ra1⟩) Tryd.func39 rfl rfl) rfl rfl ?_
  rintro _ w4 ⟨J12, hJ12, rfl, M⟩
  replace M := M.less hJ12 (fun _ _ => rfl)
  refine wl_m M (q_not rfl) rfl rfl ?_
  refine wl_mv M rfl rfl ?_
  rcases Bool.eq_false_or_eq_true (!(validT a)) with hg14 | hg14
  ·refine wl_m M (q_off 3 rfl rfl rfl hg14) rfl rfl ?_
   refine wl_m M (q_off 3 rfl rfl rfl hg14) rfl rfl ?_
   refine wl_m M (q_off 3 rfl rfl rfl hg14) rfl rfl ?_
   refine wl_m M (q_pickT rfl hg14 rfl) rfl rfl ?_
   refine wl_nil ?_
   exact ⟨(), M, ⟨(show some (Value.bool true) = some (Value.bool ((!(validT a)) || (!(validT b)))) from by first | (simp only [hg14, Bool.true_or, Bool.false_or, Bool.true_and, Bool.false_and, Bool.or_true, Bool.or_false, Bool.and_true, Bool.and_false]; done) | simp_all), trivial⟩, unw_take 8 rfl rfl⟩
  refine wl_m M (q_guard 3 rfl rfl rfl hg14 (q_ldbA 1 Tryd.underlying29 rfl sz29 rfl rfl rfl rfl)) rfl rfl ?_
  refine wl_e (e_guard 3 rfl rfl rfl hg14 (e_callC M (valid_c b M.imm ⟨_, _, rfl, Rf2, Ra2⟩) Tryd.func39 rfl rfl)) rfl rfl ?_
  rintro _ w5 ⟨J16, hJ16, rfl, M⟩
  replace M := M.less hJ16 (fun _ _ => rfl)
  refine wl_m M (q_guard 3 rfl rfl rfl hg14 (q_not rfl)) rfl rfl ?_
  refine wl_m M (q_pickF rfl hg14 rfl) rfl rfl ?_
  refine wl_nil ?_
  exact ⟨(), M, ⟨(show some (Value.bool (!(validT b))) = some (Value.bool ((!(validT a)) || (!(validT b)))) from by first | (simp only [hg14, Bool.true_or, Bool.false_or, Bool.true_and, Bool.false_and, Bool.or_true, Bool.or_false, Bool.and_true, Bool.and_false]; done) | simp_all), trivial⟩, unw_take 8 rfl rfl⟩
 rintro _ jr1 w6 M
 refine wc_cond rfl (fun ht18 => ?_) (fun ht18 => ?_)
 ·refine wc_seq ?_
  refine wc_region ?_
  refine wl_m M (q_build (bd_29) trivial) rfl rfl ?_
  refine wl_e0 (e_stW 0 M rfl rfl rfl sz29 rfl rfl) rfl ?_
  intro _ w7 M
  simp only [sC0, sCS] at M
  refine wl_as M rfl rfl ?_
  refine wl_nil ?_
  refine wc_ret ?_
  exact outc2 rfl rfl (load_boxA M 0 Tryd.underlying29 rfl sz29 rfl rfl rfl) rfl ⟨_, _, rfl, M.grow, _, zeroTra, 1, rfl, ⟨nilV, nilV, rfl, rdSl_nil _, rdSl_nil _⟩, (con_bad ht18).symm⟩
 have hva : validT a = true := by simpa using (Bool.or_eq_false_iff.1 ht18).1
 have hvb : validT b = true := by simpa using (Bool.or_eq_false_iff.1 ht18).2
 obtain ⟨m, hsa, hma, hla, rga, lba⟩ := valid_all hva
 have hfa := valid_fin hva
 have hsta := rga.start
 obtain ⟨n, hsb, hmb, hlb, rgb, lbb⟩ := valid_all hvb
 have hfb := valid_fin hvb
 have hstb := rgb.start
 refine wc_skip ?_
 refine wc_seq ?_
 replace M := M.nilRow EInt
 replace M := M.nilRow EArc
 refine wc_region ?_
 refine wl_m M (q_fa fo_29_0 rfl) rfl rfl ?_
 refine wl_m M (q_ldb 4 Tryd.underlying3 rfl rfl rfl rfl) rfl rfl ?_
 refine wl_m M (q_fa fo_29_0 rfl) rfl rfl ?_
 refine wl_m M (q_ldb 3 Tryd.underlying3 rfl rfl rfl rfl) rfl rfl ?_
 refine wl_m M (q_add rfl rfl (IntWalk.i64_in _ (by omega))) rfl rfl ?_
 refine wl_m M (q_fa fo_29_1 rfl) rfl rfl ?_
 refine wl_m M (q_ldb 4 Tryd.underlying3 rfl rfl rfl rfl) rfl rfl ?_
 refine wl_m M (q_build (bd_29_0_1 _ _) ⟨⟨rfl, rfl⟩, ⟨rfl, rfl⟩, trivial⟩) rfl rfl ?_
 refine wl_e (e_alloc M z29) rfl rfl ?_
 rintro _ w8 ⟨b6, rfl, M⟩
 refine wl_e0 (e_stW 0 M rfl rfl rfl sz29 rfl rfl) rfl ?_
 intro _ w9 M
 simp only [sC0, sCS] at M
 refine wl_nil ?_
 refine wc_seq ?_
 refine wc_region ?_
 refine wl_m M (q_ldbA 5 Tryd.underlying29 rfl sz29 rfl rfl rfl rfl) rfl rfl ?_
 refine wl_e (e_callR Tryd.func50 rfl (vs := [.pointer (some ⟨b6, 0, none⟩), .agg #[.int .i64 a.states, .int .i64 a.start, sv fu1, sv au1], .int .i64 0]) rfl (moved_c (ua := nilV) (ys := []) (a := a) 0 (by omega) (fun x hx => by have := rga.arcs x hx; omega) (by first | omega | (simp only [List.length_append, List.length_cons, List.length_nil, List.length_map]; omega) | (show 0 + _ ≤ _; omega)) ⟨_, _, rfl, Rf1, Ra1⟩ M)) rfl rfl ?_
 rintro _ w10 ⟨un, M⟩
 refine wl_nil ?_
 refine wc_seq ?_
 refine wc_region ?_
 refine wl_m M (q_ldbA 4 Tryd.underlying29 rfl sz29 rfl rfl rfl rfl) rfl rfl ?_
 refine wl_m M (q_fa fo_29_0 rfl) rfl rfl ?_
 refine wl_m M (q_ldb 5 Tryd.underlying3 rfl rfl rfl rfl) rfl rfl ?_
 refine wl_e (e_callR Tryd.func50 rfl (vs := [.pointer (some ⟨b6, 0, none⟩), .agg #[.int .i64 b.states, .int .i64 b.start, sv fu2, sv au2], .int .i64 a.states]) rfl (moved_c (ua := un) (ys := [] ++ a.arcs.map (shA 0)) (a := b) a.states (by omega) (fun x hx => by have := rgb.arcs x hx; omega) (by first | omega | (simp only [List.length_append, List.length_cons, List.length_nil, List.length_map]; omega) | (show 0 + _ ≤ _; omega)) ⟨_, _, rfl, Rf2, Ra2⟩ M)) rfl rfl ?_
 rintro _ w11 ⟨un, M⟩
 refine wl_nil ?_
 refine wc_seq ?_
 refine wc_seq ?_
 refine wc_region ?_
 refine wl_m M (q_fa fo_29_2 rfl) rfl rfl ?_
 refine wl_m M (q_ldb 5 Tryd.underlying26 rfl rfl rfl rfl) rfl rfl ?_
 refine wl_m M (q_lenR Rf1 Tryd.underlying26 rfl) rfl rfl ?_
 refine wl_mv M rfl rfl ?_
 refine wl_nil ?_
 refine wc_block ?_
 refine wc_loop (α := Nat × SV × (List Arc)) [8, 37, 38, 39, 40, 41, 42, 43, 44, 45, 46, 47, 48, 49, 50, 51, 52, 53] (fun ((k0, u_a_0, l_a_0) : Nat × SV × (List Arc)) => [(37, .int .i64 (k0 : Int))])
   (fun ((k0, u_a_0, l_a_0) : Nat × SV × (List Arc)) w' => (k0 ≤ a.finals.length) ∧ (l_a_0 = (a.arcs.map (shA 0) ++ b.arcs.map (shA a.states)) ++ (a.finals.take k0).map fun f => epsA f (a.states + b.start)) ∧ Mem w I I (box b6 29 [.int .i64 (a.states + b.states), .int .i64 a.start, sv nilV, sv u_a_0] :: row EArc (sv u_a_0) l_a_0 :: row EInt (sv nilV) [] :: box b4 29 [.int .i64 0, .int .i64 0, .slice none 0 0, .slice none 0 0] :: box b3 29 [.int .i64 b.states, .int .i64 b.start, sv fu2, sv au2] :: box b2 29 [.int .i64 a.states, .int .i64 a.start, sv fu1, sv au1] :: []) w')
   (fun ((k0, u_a_0, l_a_0) : Nat × SV × (List Arc)) => a.finals.length - k0) (0, un, ([] ++ a.arcs.map (shA 0)) ++ b.arcs.map (shA a.states)) ⟨rfl, trivial⟩ ?_ ?_
 ·refine ⟨Nat.zero_le _, (by simp), ?_⟩
  exact M
 rintro ⟨k0, u_a_0, l_a_0⟩ jj0 w12 ⟨hk0, haa, M⟩
 refine wc_seq ?_
 refine wc_region ?_
 refine wl_m M (q_lss rfl rfl) rfl rfl ?_
 refine wl_nil ?_
 refine wc_seq ?_
 refine wc_dec rfl (fun ht38 => ?_) (fun ht38 => ?_)
 ·obtain ⟨x0, hx0⟩ : ∃ x_, a.finals[k0]? = some x_ := ⟨_, List.getElem?_eq_getElem (by omega)⟩
  have hll0 := (Rf1).len_le
  have hx0r := rga.fin x0 (List.mem_of_getElem? hx0)
  refine wc_skip ?_
  refine wc_seq ?_
  refine wc_block ?_
  refine wc_seq ?_
  refine wc_region ?_
  refine wl_ix (j := k0) M Rf1 Tryd.underlying26 rfl rfl hx0 rfl (fun b39 o39 p39 => ?_)
  refine wl_m M (q_ldp p39 rfl rfl) rfl rfl ?_
  refine wl_as M rfl rfl ?_
  refine wl_nil ?_
  refine wc_region ?_
  refine wl_m M (q_fa fo_29_3 rfl) rfl rfl ?_
  refine wl_m M (q_ldb 0 Tryd.underlying27 rfl rfl rfl rfl) rfl rfl ?_
  refine wl_mv M rfl rfl ?_
  refine wl_m M (q_fa fo_29_0 rfl) rfl rfl ?_
  refine wl_m M (q_ldb 5 Tryd.underlying3 rfl rfl rfl rfl) rfl rfl ?_
  refine wl_m M (q_fa fo_29_1 rfl) rfl rfl ?_
  refine wl_m M (q_ldb 4 Tryd.underlying3 rfl rfl rfl rfl) rfl rfl ?_
  refine wl_m M (q_add rfl rfl (IntWalk.i64_in _ (by omega))) rfl rfl ?_
  refine wl_m M (q_build (bd_52_0_1 _ _) ⟨⟨rfl, rfl⟩, ⟨rfl, rfl⟩, trivial⟩) rfl rfl ?_
  refine wl_e (e_bsI (E := EArc) (xs := [(Arc.mk x0 (a.states + b.start) 0 0)]) M (bs_27_1 _ _ _ _) ⟨⟨rfl, rfl⟩, trivial⟩ rfl rfl (by decide)) rfl rfl ?_
  rintro _ w13 ⟨u50, J50, rfl, hJ50, R50, M⟩
  have hoJ50 := M.old
  refine wl_e (e_app 1 M rfl R50 Tryd.underlying27 rfl rfl (by rw [haa]; simp only [List.length_append, List.length_map, List.length_take]; show (_ + 1) * 24 ≤ _; omega)) rfl rfl ?_
  rintro _ w14 ⟨u51, rfl, M⟩
  replace M := M.less hJ50 (fun _ _ => rfl)
  simp only [sC0, sCS] at M
  refine wl_m M (q_fa fo_29_3 rfl) rfl rfl ?_
  refine wl_e0 (e_stb 0 M rfl rfl rfl sz27 rfl rfl) rfl ?_
  intro _ w15 M
  simp only [sC0, sCS] at M
  refine wl_nil ?_
  refine wc_region ?_
  refine wl_m M (q_add rfl rfl (IntWalk.i64_in _ (by omega))) rfl rfl ?_
  refine wl_mv M rfl rfl ?_
  refine wl_nil ?_
  refine ⟨(k0 + 1, u51, l_a_0 ++ [(Arc.mk x0 (a.states + b.start) 0 0)]), ?_, ⟨(by omega), (by rw [take_snoc hx0, List.map_append, ← List.append_assoc, ← haa]; rfl), M⟩, ⟨rfl, trivial⟩, unw_look rfl unw_base⟩
  show a.finals.length - (k0 + 1) < a.finals.length - k0
  omega
 have hke0 : k0 = a.finals.length := by omega
 refine wc_exit rfl ?_
 refine wc_seq ?_
 refine wc_seq ?_
 refine wc_region ?_
 refine wl_m M (q_fa fo_29_2 rfl) rfl rfl ?_
 refine wl_m M (q_ldb 4 Tryd.underlying26 rfl rfl rfl rfl) rfl rfl ?_
 refine wl_m M (q_lenR Rf2 Tryd.underlying26 rfl) rfl rfl ?_
 refine wl_mv M rfl rfl ?_
 refine wl_nil ?_
 refine wc_block ?_
 refine wc_loop (α := Nat × SV × (List Int)) [10, 57, 58, 59, 60, 61, 62, 63, 64, 65, 66, 67, 68, 69, 70] (fun ((k2, u_f_2, l_f_2) : Nat × SV × (List Int)) => [(57, .int .i64 (k2 : Int))])
   (fun ((k2, u_f_2, l_f_2) : Nat × SV × (List Int)) w' => (k2 ≤ b.finals.length) ∧ (l_f_2 = (b.finals.take k2).map (a.states + ·)) ∧ Mem w I I (box b6 29 [.int .i64 (a.states + b.states), .int .i64 a.start, sv u_f_2, sv u_a_0] :: row EArc (sv u_a_0) l_a_0 :: row EInt (sv u_f_2) l_f_2 :: box b4 29 [.int .i64 0, .int .i64 0, .slice none 0 0, .slice none 0 0] :: box b3 29 [.int .i64 b.states, .int .i64 b.start, sv fu2, sv au2] :: box b2 29 [.int .i64 a.states, .int .i64 a.start, sv fu1, sv au1] :: []) w')
   (fun ((k2, u_f_2, l_f_2) : Nat × SV × (List Int)) => b.finals.length - k2) (0, nilV, []) ⟨rfl, trivial⟩ ?_ ?_
 ·refine ⟨Nat.zero_le _, rfl, ?_⟩
  exact M
 rintro ⟨k2, u_f_2, l_f_2⟩ jj2 w16 ⟨hk2, hff2, M⟩
 refine wc_seq ?_
 refine wc_region ?_
 refine wl_m M (q_lss rfl rfl) rfl rfl ?_
 refine wl_nil ?_
 refine wc_seq ?_
 refine wc_dec rfl (fun ht58 => ?_) (fun ht58 => ?_)
 ·obtain ⟨x2, hx2⟩ : ∃ x_, b.finals[k2]? = some x_ := ⟨_, List.getElem?_eq_getElem (by omega)⟩
  have hll2 := (Rf2).len_le
  have hx2r := rgb.fin x2 (List.mem_of_getElem? hx2)
  refine wc_skip ?_
  refine wc_seq ?_
  refine wc_block ?_
  refine wc_seq ?_
  refine wc_region ?_
  refine wl_ix (j := k2) M Rf2 Tryd.underlying26 rfl rfl hx2 rfl (fun b59 o59 p59 => ?_)
  refine wl_m M (q_ldp p59 rfl rfl) rfl rfl ?_
  refine wl_as M rfl rfl ?_
  refine wl_nil ?_
  refine wc_region ?_
  refine wl_m M (q_fa fo_29_2 rfl) rfl rfl ?_
  refine wl_m M (q_ldb 0 Tryd.underlying26 rfl rfl rfl rfl) rfl rfl ?_
  refine wl_m M (q_fa fo_29_0 rfl) rfl rfl ?_
  refine wl_m M (q_ldb 5 Tryd.underlying3 rfl rfl rfl rfl) rfl rfl ?_
  refine wl_mv M rfl rfl ?_
  refine wl_m M (q_add rfl rfl (IntWalk.i64_in _ (by omega))) rfl rfl ?_
  refine wl_e (e_bsI (E := EInt) (xs := [a.states + x2]) M (bs_26_1 _) ⟨⟨rfl, rfl⟩, trivial⟩ rfl rfl (by decide)) rfl rfl ?_
  rintro _ w17 ⟨u67, J67, rfl, hJ67, R67, M⟩
  have hoJ67 := M.old
  refine wl_e (e_app 2 M rfl R67 Tryd.underlying26 rfl rfl (by rw [hff2, List.length_map, List.length_take]; show (_ + 1) * 8 ≤ _; omega)) rfl rfl ?_
  rintro _ w18 ⟨u68, rfl, M⟩
  replace M := M.less hJ67 (fun _ _ => rfl)
  simp only [sC0, sCS] at M
  refine wl_m M (q_fa fo_29_2 rfl) rfl rfl ?_
  refine wl_e0 (e_stb 0 M rfl rfl rfl sz26 rfl rfl) rfl ?_
  intro _ w19 M
  simp only [sC0, sCS] at M
  refine wl_nil ?_
  refine wc_region ?_
  refine wl_m M (q_add rfl rfl (IntWalk.i64_in _ (by omega))) rfl rfl ?_
  refine wl_mv M rfl rfl ?_
  refine wl_nil ?_
  refine ⟨(k2 + 1, u68, l_f_2 ++ [a.states + x2]), ?_, ⟨(by omega), (by rw [take_snoc hx2, List.map_append, ← hff2]; rfl), M⟩, ⟨rfl, trivial⟩, unw_look rfl unw_base⟩
  show b.finals.length - (k2 + 1) < b.finals.length - k2
  omega
 have hke2 : k2 = b.finals.length := by omega
 refine wc_exit rfl ?_
 refine wc_seq ?_
 rw [hke2, List.take_length] at hff2
 subst hff2
 rw [hke0, List.take_length] at haa
 subst haa
 obtain ⟨I8, M, hI8, Rn⟩ := M.frzRow 2 rfl
 have hoI8 := M.old
 simp only [List.eraseIdx_cons_zero, List.eraseIdx_cons_succ] at M
 obtain ⟨I9, M, hI9, Rm⟩ := M.frzRow 1 rfl
 have hoI9 := M.old
 simp only [List.eraseIdx_cons_zero, List.eraseIdx_cons_succ] at M
 refine wc_region ?_
 refine wl_m M (q_ldbA 0 Tryd.underlying29 rfl sz29 rfl rfl rfl rfl) rfl rfl ?_
 refine wl_e (e_callC M (finish_c (t := (conT a b)) (m := m + n) (by show a.states + b.states = _; omega) (by omega) (con_rng rga rgb hsa hsb) (by show (conT a b).arcs.length ≤ _; simp only [uniT, conT, staT, revT, List.length_append, List.length_cons, List.length_nil, List.length_map]; omega) (by show (conT a b).finals.length ≤ _; simp only [uniT, conT, staT, revT, List.length_append, List.length_cons, List.length_nil, List.length_map]; omega) M.imm ⟨_, _, rfl, (Rn.mono hI9), Rm⟩) Tryd.func43 rfl rfl) rfl rfl ?_
 rintro _ w20 ⟨J72, hJ72, ⟨_, rfl, ⟨fu72, au72, rfl, Rf72, Ra72⟩⟩, M⟩
 have hoJ72 := M.old
 refine wl_m M (q_ext rfl rfl) rfl rfl ?_
 refine wl_m M (q_ext rfl rfl) rfl rfl ?_
 refine wl_e0 (e_stW 1 M rfl rfl rfl sz29 rfl rfl) rfl ?_
 intro _ w21 M
 simp only [sC0, sCS] at M
 refine wl_as M rfl rfl ?_
 refine wl_nil ?_
 refine wc_ret ?_
 exact outc2 rfl rfl (load_boxA M 1 Tryd.underlying29 rfl sz29 rfl rfl rfl) rfl ⟨_, _, rfl, M.grow, _, (FinS (conT a b) (m + n)).1, (FinS (conT a b) (m + n)).2, rfl, ⟨_, _, rfl, Rf72, Ra72⟩, (con_ok hva hvb hsa hsb).symm⟩
theorem star_c (a : Tra) {v1 : Value} {I : Heap} {w : World} (hI : hle I (hp w)) (R1 : a.rd I v1) :
    Calls A 23 #[v1] w (Ret w I fun r I' => ∃ (v' : Value) (u : Tra) (e : Int), r = .tuple #[v', .int .i64 e] ∧ u.rd I' v' ∧ (u, e) = StaS a) := by
 obtain ⟨fu1, au1, rfl, Rf1, Ra1⟩ := R1
 have M := Mem.start hI
 refine enter Tryd.func23 rfl 47 Tryd.ntmps23 [_] rfl ?_
 refine wc_seq ?_
 refine wc_region ?_
 refine wl_e (e_box M rfl) rfl rfl ?_
 rintro _ w1 ⟨b1, rfl, M⟩
 refine wl_e (e_alloc M z29) rfl rfl ?_
 rintro _ w2 ⟨b2, rfl, M⟩
 refine wl_as M rfl rfl ?_
 refine wl_nil ?_
 refine wc_seq ?_
 refine wc_seq ?_
 refine wc_region ?_
 refine wl_m M (q_ldbA 1 Tryd.underlying29 rfl sz29 rfl rfl rfl rfl) rfl rfl ?_
 refine wl_e (e_callC M (valid_c a M.imm ⟨_, _, rfl, Rf1, Ra1⟩) Tryd.func39 rfl rfl) rfl rfl ?_
 rintro _ w3 ⟨J8, hJ8, rfl, M⟩
 replace M := M.less hJ8 (fun _ _ => rfl)
 refine wl_m M (q_not rfl) rfl rfl ?_
 refine wl_nil ?_
 refine wc_cond rfl (fun ht9 => ?_) (fun ht9 => ?_)
 ·refine wc_seq ?_
  refine wc_region ?_
  refine wl_m M (q_build (bd_29) trivial) rfl rfl ?_
  refine wl_e0 (e_stW 0 M rfl rfl rfl sz29 rfl rfl) rfl ?_
  intro _ w4 M
  simp only [sC0, sCS] at M
  refine wl_as M rfl rfl ?_
  refine wl_nil ?_
  refine wc_ret ?_
  exact outc2 rfl rfl (load_boxA M 0 Tryd.underlying29 rfl sz29 rfl rfl rfl) rfl ⟨_, _, rfl, M.grow, _, zeroTra, 1, rfl, ⟨nilV, nilV, rfl, rdSl_nil _, rdSl_nil _⟩, (sta_bad ht9).symm⟩
 have hva : validT a = true := by simpa using ht9
 obtain ⟨m, hsa, hma, hla, rga, lba⟩ := valid_all hva
 have hfa := valid_fin hva
 have hsta := rga.start
 refine wc_skip ?_
 refine wc_seq ?_
 replace M := M.nilRow EArc
 refine wc_region ?_
 refine wl_m M (q_fa fo_29_0 rfl) rfl rfl ?_
 refine wl_m M (q_ldb 2 Tryd.underlying3 rfl rfl rfl rfl) rfl rfl ?_
 refine wl_m M (q_add rfl rfl (IntWalk.i64_in _ (by omega))) rfl rfl ?_
 refine wl_e (e_bsI (E := EInt) (xs := [0]) M (bs_26_1 _) ⟨⟨rfl, rfl⟩, trivial⟩ rfl rfl (by decide)) rfl rfl ?_
 rintro _ w5 ⟨u14, J14, rfl, hJ14, R14, M⟩
 have hoJ14 := M.old
 refine wl_m M (q_build (bd_29_0_2 _ _) ⟨⟨rfl, rfl⟩, ⟨rfl, rfl⟩, trivial⟩) rfl rfl ?_
 refine wl_e (e_alloc M z29) rfl rfl ?_
 rintro _ w6 ⟨b4, rfl, M⟩
 refine wl_e0 (e_stW 0 M rfl rfl rfl sz29 rfl rfl) rfl ?_
 intro _ w7 M
 simp only [sC0, sCS] at M
 refine wl_nil ?_
 refine wc_seq ?_
 refine wc_region ?_
 refine wl_m M (q_fa fo_29_3 rfl) rfl rfl ?_
 refine wl_m M (q_ldb 0 Tryd.underlying27 rfl rfl rfl rfl) rfl rfl ?_
 refine wl_m M (q_fa fo_29_1 rfl) rfl rfl ?_
 refine wl_m M (q_ldb 3 Tryd.underlying3 rfl rfl rfl rfl) rfl rfl ?_
 refine wl_m M (q_add rfl rfl (IntWalk.i64_in _ (by omega))) rfl rfl ?_
 refine wl_m M (q_build (bd_52_1 _) ⟨⟨rfl, rfl⟩, trivial⟩) rfl rfl ?_
 refine wl_e (e_bsI (E := EArc) (xs := [(Arc.mk 0 (1 + a.start) 0 0)]) M (bs_27_1 _ _ _ _) ⟨⟨rfl, rfl⟩, trivial⟩ rfl rfl (by decide)) rfl rfl ?_
 rintro _ w8 ⟨u22, J22, rfl, hJ22, R22, M⟩
 have hoJ22 := M.old
 refine wl_e (e_app 1 M rfl R22 Tryd.underlying27 rfl rfl (by show (_ + _) * 24 ≤ _; simp only [List.length_cons, List.length_nil]; omega)) rfl rfl ?_
 rintro _ w9 ⟨u23, rfl, M⟩
 replace M := M.less hJ22 hoJ14
 simp only [sC0, sCS] at M
 refine wl_m M (q_fa fo_29_3 rfl) rfl rfl ?_
 refine wl_e0 (e_stb 0 M rfl rfl rfl sz27 rfl rfl) rfl ?_
 intro _ w10 M
 simp only [sC0, sCS] at M
 refine wl_nil ?_
 refine wc_seq ?_
 refine wc_region ?_
 refine wl_m M (q_ldbA 3 Tryd.underlying29 rfl sz29 rfl rfl rfl rfl) rfl rfl ?_
 refine wl_e (e_callR Tryd.func50 rfl (vs := [.pointer (some ⟨b4, 0, none⟩), .agg #[.int .i64 a.states, .int .i64 a.start, sv fu1, sv au1], .int .i64 1]) rfl (moved_c (ua := u23) (ys := [] ++ [(Arc.mk 0 (1 + a.start) 0 0)]) (a := a) 1 (by omega) (fun x hx => by have := rga.arcs x hx; omega) (by first | omega | (simp only [List.length_append, List.length_cons, List.length_nil, List.length_map]; omega) | (show 0 + _ ≤ _; omega)) ⟨_, _, rfl, (Rf1.mono hJ14), (Ra1.mono hJ14)⟩ M)) rfl rfl ?_
 rintro _ w11 ⟨un, M⟩
 refine wl_nil ?_
 refine wc_seq ?_
 refine wc_seq ?_
 refine wc_region ?_
 refine wl_m M (q_fa fo_29_2 rfl) rfl rfl ?_
 refine wl_m M (q_ldb 3 Tryd.underlying26 rfl rfl rfl rfl) rfl rfl ?_
 refine wl_m M (q_lenR (Rf1.mono hJ14) Tryd.underlying26 rfl) rfl rfl ?_
 refine wl_mv M rfl rfl ?_
 refine wl_nil ?_
 refine wc_block ?_
 refine wc_loop (α := Nat × SV × (List Arc)) [6, 30, 31, 32, 33, 34, 35, 36, 37, 38, 39, 40, 41, 42] (fun ((k0, u_a_0, l_a_0) : Nat × SV × (List Arc)) => [(30, .int .i64 (k0 : Int))])
   (fun ((k0, u_a_0, l_a_0) : Nat × SV × (List Arc)) w' => (k0 ≤ a.finals.length) ∧ (l_a_0 = ([epsA 0 (1 + a.start)] ++ a.arcs.map (shA 1)) ++ (a.finals.take k0).map fun f => epsA (1 + f) 0) ∧ Mem w I J14 (box b4 29 [.int .i64 (1 + a.states), .int .i64 0, sv u14, sv u_a_0] :: row EArc (sv u_a_0) l_a_0 :: box b2 29 [.int .i64 0, .int .i64 0, .slice none 0 0, .slice none 0 0] :: box b1 29 [.int .i64 a.states, .int .i64 a.start, sv fu1, sv au1] :: []) w')
   (fun ((k0, u_a_0, l_a_0) : Nat × SV × (List Arc)) => a.finals.length - k0) (0, un, ([] ++ [(Arc.mk 0 (1 + a.start) 0 0)]) ++ a.arcs.map (shA 1)) ⟨rfl, trivial⟩ ?_ ?_
 ·refine ⟨Nat.zero_le _, (by simp [epsA]), ?_⟩
  exact M
 rintro ⟨k0, u_a_0, l_a_0⟩ jj0 w12 ⟨hk0, haa, M⟩
 have hoJ14 := M.old
 refine wc_seq ?_
 refine wc_region ?_
 refine wl_m M (q_lss rfl rfl) rfl rfl ?_
 refine wl_nil ?_
 refine wc_seq ?_
 refine wc_dec rfl (fun ht31 => ?_) (fun ht31 => ?_)
 ·obtain ⟨x0, hx0⟩ : ∃ x_, a.finals[k0]? = some x_ := ⟨_, List.getElem?_eq_getElem (by omega)⟩
  have hll0 := ((Rf1.mono hJ14)).len_le
  have hx0r := rga.fin x0 (List.mem_of_getElem? hx0)
  refine wc_skip ?_
  refine wc_seq ?_
  refine wc_block ?_
  refine wc_seq ?_
  refine wc_region ?_
  refine wl_ix (j := k0) M (Rf1.mono hJ14) Tryd.underlying26 rfl rfl hx0 rfl (fun b32 o32 p32 => ?_)
  refine wl_m M (q_ldp p32 rfl rfl) rfl rfl ?_
  refine wl_as M rfl rfl ?_
  refine wl_nil ?_
  refine wc_region ?_
  refine wl_m M (q_fa fo_29_3 rfl) rfl rfl ?_
  refine wl_m M (q_ldb 0 Tryd.underlying27 rfl rfl rfl rfl) rfl rfl ?_
  refine wl_mv M rfl rfl ?_
  refine wl_m M (q_add rfl rfl (IntWalk.i64_in _ (by omega))) rfl rfl ?_
  refine wl_m M (q_build (bd_52_0 _) ⟨⟨rfl, rfl⟩, trivial⟩) rfl rfl ?_
  refine wl_e (e_bsI (E := EArc) (xs := [(Arc.mk (1 + x0) 0 0 0)]) M (bs_27_1 _ _ _ _) ⟨⟨rfl, rfl⟩, trivial⟩ rfl rfl (by decide)) rfl rfl ?_
  rintro _ w13 ⟨u39, J39, rfl, hJ39, R39, M⟩
  have hoJ39 := M.old
  refine wl_e (e_app 1 M rfl R39 Tryd.underlying27 rfl rfl (by rw [haa]; simp only [List.length_append, List.length_cons, List.length_nil, List.length_map, List.length_take]; show (_ + 1) * 24 ≤ _; omega)) rfl rfl ?_
  rintro _ w14 ⟨u40, rfl, M⟩
  replace M := M.less hJ39 hoJ14
  simp only [sC0, sCS] at M
  refine wl_m M (q_fa fo_29_3 rfl) rfl rfl ?_
  refine wl_e0 (e_stb 0 M rfl rfl rfl sz27 rfl rfl) rfl ?_
  intro _ w15 M
  simp only [sC0, sCS] at M
  refine wl_nil ?_
  refine wc_region ?_
  refine wl_m M (q_add rfl rfl (IntWalk.i64_in _ (by omega))) rfl rfl ?_
  refine wl_mv M rfl rfl ?_
  refine wl_nil ?_
  refine ⟨(k0 + 1, u40, l_a_0 ++ [(Arc.mk (1 + x0) 0 0 0)]), ?_, ⟨(by omega), (by rw [take_snoc hx0, List.map_append, ← List.append_assoc, ← haa]; rfl), M⟩, ⟨rfl, trivial⟩, unw_look rfl unw_base⟩
  show a.finals.length - (k0 + 1) < a.finals.length - k0
  omega
 have hke0 : k0 = a.finals.length := by omega
 refine wc_exit rfl ?_
 refine wc_seq ?_
 rw [hke0, List.take_length] at haa
 subst haa
 obtain ⟨I9, M, hI9, Rm⟩ := M.frzRow 1 rfl
 have hoI9 := M.old
 simp only [List.eraseIdx_cons_zero, List.eraseIdx_cons_succ] at M
 refine wc_region ?_
 refine wl_m M (q_ldbA 0 Tryd.underlying29 rfl sz29 rfl rfl rfl rfl) rfl rfl ?_
 refine wl_e (e_callC M (finish_c (t := (staT a)) (m := 1 + m) (by show 1 + a.states = _; omega) (by omega) (sta_rng rga hsa) (by show (staT a).arcs.length ≤ _; simp only [uniT, conT, staT, revT, List.length_append, List.length_cons, List.length_nil, List.length_map]; omega) (by show (staT a).finals.length ≤ _; simp only [uniT, conT, staT, revT, List.length_append, List.length_cons, List.length_nil, List.length_map]; omega) M.imm ⟨_, _, rfl, (R14.mono hI9), Rm⟩) Tryd.func43 rfl rfl) rfl rfl ?_
 rintro _ w16 ⟨J44, hJ44, ⟨_, rfl, ⟨fu44, au44, rfl, Rf44, Ra44⟩⟩, M⟩
 have hoJ44 := M.old
 refine wl_m M (q_ext rfl rfl) rfl rfl ?_
 refine wl_m M (q_ext rfl rfl) rfl rfl ?_
 refine wl_e0 (e_stW 1 M rfl rfl rfl sz29 rfl rfl) rfl ?_
 intro _ w17 M
 simp only [sC0, sCS] at M
 refine wl_as M rfl rfl ?_
 refine wl_nil ?_
 refine wc_ret ?_
 exact outc2 rfl rfl (load_boxA M 1 Tryd.underlying29 rfl sz29 rfl rfl rfl) rfl ⟨_, _, rfl, M.grow, _, (FinS (staT a) (1 + m)).1, (FinS (staT a) (1 + m)).2, rfl, ⟨_, _, rfl, Rf44, Ra44⟩, (sta_ok hva hsa).symm⟩
theorem reverse_c (a : Tra) {v1 : Value} {I : Heap} {w : World} (hI : hle I (hp w)) (R1 : a.rd I v1) :
    Calls A 32 #[v1] w (Ret w I fun r I' => ∃ (v' : Value) (u : Tra) (e : Int), r = .tuple #[v', .int .i64 e] ∧ u.rd I' v' ∧ (u, e) = RevS a) := by
 obtain ⟨fu1, au1, rfl, Rf1, Ra1⟩ := R1
 have M := Mem.start hI
 refine enter Tryd.func32 rfl 65 Tryd.ntmps32 [_] rfl ?_
 refine wc_seq ?_
 refine wc_region ?_
 refine wl_e (e_box M rfl) rfl rfl ?_
 rintro _ w1 ⟨b1, rfl, M⟩
 refine wl_e (e_alloc M z29) rfl rfl ?_
 rintro _ w2 ⟨b2, rfl, M⟩
 refine wl_as M rfl rfl ?_
 refine wl_nil ?_
 refine wc_seq ?_
 refine wc_seq ?_
 refine wc_region ?_
 refine wl_m M (q_ldbA 1 Tryd.underlying29 rfl sz29 rfl rfl rfl rfl) rfl rfl ?_
 refine wl_e (e_callC M (valid_c a M.imm ⟨_, _, rfl, Rf1, Ra1⟩) Tryd.func39 rfl rfl) rfl rfl ?_
 rintro _ w3 ⟨J10, hJ10, rfl, M⟩
 replace M := M.less hJ10 (fun _ _ => rfl)
 refine wl_m M (q_not rfl) rfl rfl ?_
 refine wl_nil ?_
 refine wc_cond rfl (fun ht11 => ?_) (fun ht11 => ?_)
 ·refine wc_seq ?_
  refine wc_region ?_
  refine wl_m M (q_build (bd_29) trivial) rfl rfl ?_
  refine wl_e0 (e_stW 0 M rfl rfl rfl sz29 rfl rfl) rfl ?_
  intro _ w4 M
  simp only [sC0, sCS] at M
  refine wl_as M rfl rfl ?_
  refine wl_nil ?_
  refine wc_ret ?_
  exact outc2 rfl rfl (load_boxA M 0 Tryd.underlying29 rfl sz29 rfl rfl rfl) rfl ⟨_, _, rfl, M.grow, _, zeroTra, 1, rfl, ⟨nilV, nilV, rfl, rdSl_nil _, rdSl_nil _⟩, (rev_bad ht11).symm⟩
 have hva : validT a = true := by simpa using ht11
 obtain ⟨m, hsa, hma, hla, rga, lba⟩ := valid_all hva
 have hfa := valid_fin hva
 have hsta := rga.start
 refine wc_skip ?_
 refine wc_seq ?_
 replace M := M.nilRow EArc
 refine wc_region ?_
 refine wl_m M (q_fa fo_29_0 rfl) rfl rfl ?_
 refine wl_m M (q_ldb 2 Tryd.underlying3 rfl rfl rfl rfl) rfl rfl ?_
 refine wl_m M (q_add rfl rfl (IntWalk.i64_in _ (by omega))) rfl rfl ?_
 refine wl_m M (q_fa fo_29_1 rfl) rfl rfl ?_
 refine wl_m M (q_ldb 2 Tryd.underlying3 rfl rfl rfl rfl) rfl rfl ?_
 refine wl_m M (q_add rfl rfl (IntWalk.i64_in _ (by omega))) rfl rfl ?_
 refine wl_e (e_bsI (E := EInt) (xs := [1 + a.start]) M (bs_26_1 _) ⟨⟨rfl, rfl⟩, trivial⟩ rfl rfl (by decide)) rfl rfl ?_
 rintro _ w5 ⟨u19, J19, rfl, hJ19, R19, M⟩
 have hoJ19 := M.old
 refine wl_m M (q_build (bd_29_0_2 _ _) ⟨⟨rfl, rfl⟩, ⟨rfl, rfl⟩, trivial⟩) rfl rfl ?_
 refine wl_e (e_alloc M z29) rfl rfl ?_
 rintro _ w6 ⟨b4, rfl, M⟩
 refine wl_e0 (e_stW 0 M rfl rfl rfl sz29 rfl rfl) rfl ?_
 intro _ w7 M
 simp only [sC0, sCS] at M
 refine wl_nil ?_
 refine wc_seq ?_
 refine wc_seq ?_
 refine wc_region ?_
 refine wl_m M (q_fa fo_29_2 rfl) rfl rfl ?_
 refine wl_m M (q_ldb 3 Tryd.underlying26 rfl rfl rfl rfl) rfl rfl ?_
 refine wl_m M (q_lenR (Rf1.mono hJ19) Tryd.underlying26 rfl) rfl rfl ?_
 refine wl_mv M rfl rfl ?_
 refine wl_nil ?_
 refine wc_block ?_
 refine wc_loop (α := Nat × SV × (List Arc)) [6, 24, 25, 26, 27, 28, 29, 30, 31, 32, 33, 34, 35, 36] (fun ((k0, u_a_0, l_a_0) : Nat × SV × (List Arc)) => [(24, .int .i64 (k0 : Int))])
   (fun ((k0, u_a_0, l_a_0) : Nat × SV × (List Arc)) w' => (k0 ≤ a.finals.length) ∧ (l_a_0 = (a.finals.take k0).map fun f => epsA 0 (1 + f)) ∧ Mem w I J19 (box b4 29 [.int .i64 (1 + a.states), .int .i64 0, sv u19, sv u_a_0] :: row EArc (sv u_a_0) l_a_0 :: box b2 29 [.int .i64 0, .int .i64 0, .slice none 0 0, .slice none 0 0] :: box b1 29 [.int .i64 a.states, .int .i64 a.start, sv fu1, sv au1] :: []) w')
   (fun ((k0, u_a_0, l_a_0) : Nat × SV × (List Arc)) => a.finals.length - k0) (0, nilV, []) ⟨rfl, trivial⟩ ?_ ?_
 ·refine ⟨Nat.zero_le _, rfl, ?_⟩
  exact M
 rintro ⟨k0, u_a_0, l_a_0⟩ jj0 w8 ⟨hk0, haa, M⟩
 have hoJ19 := M.old
 refine wc_seq ?_
 refine wc_region ?_
 refine wl_m M (q_lss rfl rfl) rfl rfl ?_
 refine wl_nil ?_
 refine wc_seq ?_
 refine wc_dec rfl (fun ht25 => ?_) (fun ht25 => ?_)
 ·obtain ⟨x0, hx0⟩ : ∃ x_, a.finals[k0]? = some x_ := ⟨_, List.getElem?_eq_getElem (by omega)⟩
  have hll0 := ((Rf1.mono hJ19)).len_le
  have hx0r := rga.fin x0 (List.mem_of_getElem? hx0)
  refine wc_skip ?_
  refine wc_seq ?_
  refine wc_block ?_
  refine wc_seq ?_
  refine wc_region ?_
  refine wl_ix (j := k0) M (Rf1.mono hJ19) Tryd.underlying26 rfl rfl hx0 rfl (fun b26 o26 p26 => ?_)
  refine wl_m M (q_ldp p26 rfl rfl) rfl rfl ?_
  refine wl_as M rfl rfl ?_
  refine wl_nil ?_
  refine wc_region ?_
  refine wl_m M (q_fa fo_29_3 rfl) rfl rfl ?_
  refine wl_m M (q_ldb 0 Tryd.underlying27 rfl rfl rfl rfl) rfl rfl ?_
  refine wl_mv M rfl rfl ?_
  refine wl_m M (q_add rfl rfl (IntWalk.i64_in _ (by omega))) rfl rfl ?_
  refine wl_m M (q_build (bd_52_1 _) ⟨⟨rfl, rfl⟩, trivial⟩) rfl rfl ?_
  refine wl_e (e_bsI (E := EArc) (xs := [(Arc.mk 0 (1 + x0) 0 0)]) M (bs_27_1 _ _ _ _) ⟨⟨rfl, rfl⟩, trivial⟩ rfl rfl (by decide)) rfl rfl ?_
  rintro _ w9 ⟨u33, J33, rfl, hJ33, R33, M⟩
  have hoJ33 := M.old
  refine wl_e (e_app 1 M rfl R33 Tryd.underlying27 rfl rfl (by rw [haa]; simp only [List.length_map, List.length_take]; show (_ + 1) * 24 ≤ _; omega)) rfl rfl ?_
  rintro _ w10 ⟨u34, rfl, M⟩
  replace M := M.less hJ33 hoJ19
  simp only [sC0, sCS] at M
  refine wl_m M (q_fa fo_29_3 rfl) rfl rfl ?_
  refine wl_e0 (e_stb 0 M rfl rfl rfl sz27 rfl rfl) rfl ?_
  intro _ w11 M
  simp only [sC0, sCS] at M
  refine wl_nil ?_
  refine wc_region ?_
  refine wl_m M (q_add rfl rfl (IntWalk.i64_in _ (by omega))) rfl rfl ?_
  refine wl_mv M rfl rfl ?_
  refine wl_nil ?_
  refine ⟨(k0 + 1, u34, l_a_0 ++ [(Arc.mk 0 (1 + x0) 0 0)]), ?_, ⟨(by omega), (by rw [take_snoc hx0, List.map_append, ← haa]; rfl), M⟩, ⟨rfl, trivial⟩, unw_look rfl unw_base⟩
  show a.finals.length - (k0 + 1) < a.finals.length - k0
  omega
 have hke0 : k0 = a.finals.length := by omega
 rw [hke0, List.take_length] at haa
 refine wc_exit rfl ?_
 refine wc_seq ?_
 refine wc_seq ?_
 refine wc_region ?_
 refine wl_m M (q_fa fo_29_3 rfl) rfl rfl ?_
 refine wl_m M (q_ldb 3 Tryd.underlying27 rfl rfl rfl rfl) rfl rfl ?_
 refine wl_m M (q_lenR (Ra1.mono hJ19) Tryd.underlying27 rfl) rfl rfl ?_
 refine wl_mv M rfl rfl ?_
 refine wl_nil ?_
 refine wc_block ?_
 refine wc_loop (α := Nat × SV × (List Arc)) [8, 40, 41, 42, 43, 44, 45, 46, 47, 48, 49, 50, 51, 52, 53, 54, 55, 56, 57, 58, 59, 60] (fun ((k2, u_a_2, l_a_2) : Nat × SV × (List Arc)) => [(40, .int .i64 (k2 : Int))])
   (fun ((k2, u_a_2, l_a_2) : Nat × SV × (List Arc)) w' => (k2 ≤ a.arcs.length) ∧ (l_a_2 = (a.finals.map fun f => epsA 0 (1 + f)) ++ (a.arcs.take k2).map revA) ∧ Mem w I J19 (box b4 29 [.int .i64 (1 + a.states), .int .i64 0, sv u19, sv u_a_2] :: row EArc (sv u_a_2) l_a_2 :: box b2 29 [.int .i64 0, .int .i64 0, .slice none 0 0, .slice none 0 0] :: box b1 29 [.int .i64 a.states, .int .i64 a.start, sv fu1, sv au1] :: []) w')
   (fun ((k2, u_a_2, l_a_2) : Nat × SV × (List Arc)) => a.arcs.length - k2) (0, u_a_0, l_a_0) ⟨rfl, trivial⟩ ?_ ?_
 ·refine ⟨Nat.zero_le _, (by simp [haa]), ?_⟩
  exact M
 rintro ⟨k2, u_a_2, l_a_2⟩ jj2 w12 ⟨hk2, haa2, M⟩
 have hoJ19 := M.old
 refine wc_seq ?_
 refine wc_region ?_
 refine wl_m M (q_lss rfl rfl) rfl rfl ?_
 refine wl_nil ?_
 refine wc_seq ?_
 refine wc_dec rfl (fun ht41 => ?_) (fun ht41 => ?_)
 ·obtain ⟨x2, hx2⟩ : ∃ x_, a.arcs[k2]? = some x_ := ⟨_, List.getElem?_eq_getElem (by omega)⟩
  have hll2 := ((Ra1.mono hJ19)).len_le
  have hx2r := rga.arcs x2 (List.mem_of_getElem? hx2)
  refine wc_skip ?_
  refine wc_seq ?_
  refine wc_block ?_
  refine wc_seq ?_
  refine wc_region ?_
  refine wl_ix (j := k2) M (Ra1.mono hJ19) Tryd.underlying27 rfl rfl hx2 rfl (fun b42 o42 p42 => ?_)
  refine wl_m M (q_ldp p42 rfl rfl) rfl rfl ?_
  refine wl_e (e_alloc M z52) rfl rfl ?_
  rintro _ w13 ⟨b8, rfl, M⟩
  refine wl_e0 (e_stW 0 M rfl rfl rfl sz52 rfl rfl) rfl ?_
  intro _ w14 M
  simp only [sC0, sCS] at M
  refine wl_nil ?_
  refine wc_region ?_
  refine wl_m M (q_fa fo_29_3 rfl) rfl rfl ?_
  refine wl_m M (q_ldb 1 Tryd.underlying27 rfl rfl rfl rfl) rfl rfl ?_
  refine wl_m M (q_fa fo_52_1 rfl) rfl rfl ?_
  refine wl_m M (q_ldb 0 Tryd.underlying3 rfl rfl rfl rfl) rfl rfl ?_
  refine wl_m M (q_add rfl rfl (IntWalk.i64_in _ (by omega))) rfl rfl ?_
  refine wl_m M (q_fa fo_52_0 rfl) rfl rfl ?_
  refine wl_m M (q_ldb 0 Tryd.underlying3 rfl rfl rfl rfl) rfl rfl ?_
  refine wl_m M (q_add rfl rfl (IntWalk.i64_in _ (by omega))) rfl rfl ?_
  refine wl_m M (q_fa fo_52_2 rfl) rfl rfl ?_
  refine wl_m M (q_ldb 0 Tryd.underlying21 rfl rfl rfl rfl) rfl rfl ?_
  refine wl_m M (q_fa fo_52_3 rfl) rfl rfl ?_
  refine wl_m M (q_ldb 0 Tryd.underlying21 rfl rfl rfl rfl) rfl rfl ?_
  refine wl_m M (q_build (bd_52_0_1_2_3 _ _ _ _) ⟨⟨rfl, rfl⟩, ⟨rfl, rfl⟩, ⟨rfl, rfl⟩, ⟨rfl, rfl⟩, trivial⟩) rfl rfl ?_
  refine wl_e (e_bsI (E := EArc) (xs := [(Arc.mk (1 + x2.dst) (1 + x2.src) x2.inp x2.out)]) M (bs_27_1 _ _ _ _) ⟨⟨rfl, rfl⟩, trivial⟩ rfl rfl (by decide)) rfl rfl ?_
  rintro _ w15 ⟨u57, J57, rfl, hJ57, R57, M⟩
  have hoJ57 := M.old
  refine wl_e (e_app 2 M rfl R57 Tryd.underlying27 rfl rfl (by rw [haa2]; simp only [List.length_append, List.length_map, List.length_take]; show (_ + 1) * 24 ≤ _; omega)) rfl rfl ?_
  rintro _ w16 ⟨u58, rfl, M⟩
  replace M := M.less hJ57 hoJ19
  simp only [sC0, sCS] at M
  refine wl_m M (q_fa fo_29_3 rfl) rfl rfl ?_
  refine wl_e0 (e_stb 1 M rfl rfl rfl sz27 rfl rfl) rfl ?_
  intro _ w17 M
  simp only [sC0, sCS] at M
  refine wl_nil ?_
  refine wc_region ?_
  refine wl_m M (q_add rfl rfl (IntWalk.i64_in _ (by omega))) rfl rfl ?_
  refine wl_mv M rfl rfl ?_
  refine wl_nil ?_
  replace M := M.drop 0
  refine ⟨(k2 + 1, u58, l_a_2 ++ [(Arc.mk (1 + x2.dst) (1 + x2.src) x2.inp x2.out)]), ?_, ⟨(by omega), (by rw [take_snoc hx2, List.map_append, ← List.append_assoc, ← haa2]; rfl), M⟩, ⟨rfl, trivial⟩, unw_look rfl unw_base⟩
  show a.arcs.length - (k2 + 1) < a.arcs.length - k2
  omega
 have hke2 : k2 = a.arcs.length := by omega
 refine wc_exit rfl ?_
 refine wc_seq ?_
 rw [hke2, List.take_length] at haa2
 subst haa2
 obtain ⟨I9, M, hI9, Rm⟩ := M.frzRow 1 rfl
 have hoI9 := M.old
 simp only [List.eraseIdx_cons_zero, List.eraseIdx_cons_succ] at M
 refine wc_region ?_
 refine wl_m M (q_ldbA 0 Tryd.underlying29 rfl sz29 rfl rfl rfl rfl) rfl rfl ?_
 refine wl_e (e_callC M (finish_c (t := (revT a)) (m := 1 + m) (by show 1 + a.states = _; omega) (by omega) (rev_rng rga hsa) (by show (revT a).arcs.length ≤ _; simp only [uniT, conT, staT, revT, List.length_append, List.length_cons, List.length_nil, List.length_map]; omega) (by show (revT a).finals.length ≤ _; simp only [uniT, conT, staT, revT, List.length_append, List.length_cons, List.length_nil, List.length_map]; omega) M.imm ⟨_, _, rfl, (R19.mono hI9), Rm⟩) Tryd.func43 rfl rfl) rfl rfl ?_
 rintro _ w18 ⟨J62, hJ62, ⟨_, rfl, ⟨fu62, au62, rfl, Rf62, Ra62⟩⟩, M⟩
 have hoJ62 := M.old
 refine wl_m M (q_ext rfl rfl) rfl rfl ?_
 refine wl_m M (q_ext rfl rfl) rfl rfl ?_
 refine wl_e0 (e_stW 1 M rfl rfl rfl sz29 rfl rfl) rfl ?_
 intro _ w19 M
 simp only [sC0, sCS] at M
 refine wl_as M rfl rfl ?_
 refine wl_nil ?_
 refine wc_ret ?_
 exact outc2 rfl rfl (load_boxA M 1 Tryd.underlying29 rfl sz29 rfl rfl rfl) rfl ⟨_, _, rfl, M.grow, _, (FinS (revT a) (1 + m)).1, (FinS (revT a) (1 + m)).2, rfl, ⟨_, _, rfl, Rf62, Ra62⟩, (rev_ok hva hsa).symm⟩
end Go.Proofs.YtoilmeiikgegcaaDoor.G
