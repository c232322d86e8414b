/- Walks of the program's functions. -/
import Derived.Test.YtoilmeiikgegcaaDoorWQb
import Derived.Test.YtoilmeiikgegcaaDoorGRf4
set_option linter.all false
namespace Go.Proofs.YtoilmeiikgegcaaDoor.G
open Go Go.RowKit
theorem arcsR_c {a : Tra} {w0 w : World} {I0 I : Heap} {Lt : List Res} (k : Int) (hk : 0 ≤ k ∧ k ≤ 1073741824) (ha : ∀ x ∈ a.arcs, (0 ≤ x.src ∧ x.src ≤ 1073741824) ∧ 0 ≤ x.dst ∧ x.dst ≤ 1073741824) (hl : a.arcs.length ≤ 1073741824) {v : Value} (R : a.rd I v) (M : Mem w0 I0 I Lt w) :
    Calls A 57 #[v, .int .i64 k] w (fun e w' => ∃ u : SV, e = .returned (sv u) ∧ Mem w0 I0 I (row EArc (sv u) (a.arcs.map (shA k)) :: Lt) w') := by
 obtain ⟨fu1, au1, rfl, Rf1, Ra1⟩ := R
 have hoI := M.old
 refine enter Tryd.func57 rfl 33 Tryd.ntmps57 [_, _] rfl ?_
 refine wc_seq ?_
 refine wc_region ?_
 refine wl_e (e_box M rfl) rfl rfl ?_
 rintro _ w1 ⟨b2, rfl, M⟩
 refine wl_as M rfl rfl ?_
 refine wl_nil ?_
 refine wc_seq ?_
 refine wc_region ?_
 refine wl_as M rfl rfl ?_
 replace M := M.nilRow EArc
 refine wl_nil ?_
 refine wc_seq ?_
 refine wc_seq ?_
 refine wc_region ?_
 refine wl_m M (q_fa fo_29_3 rfl) rfl rfl ?_
 refine wl_m M (q_ldb 1 Tryd.underlying27 rfl rfl rfl rfl) rfl rfl ?_
 refine wl_m M (q_lenR Ra1 Tryd.underlying27 rfl) rfl rfl ?_
 refine wl_mv M rfl rfl ?_
 refine wl_nil ?_
 refine wc_block ?_
 refine wc_loop (α := Nat × SV × (List Arc)) [5, 7, 11, 12, 13, 14, 15, 16, 17, 18, 19, 20, 21, 22, 23, 24, 25, 26, 27, 28, 29, 30, 31] (fun ((k0, u_5_0, l_5_0) : Nat × SV × (List Arc)) => [(11, .int .i64 (k0 : Int)), (5, sv u_5_0)])
   (fun ((k0, u_5_0, l_5_0) : Nat × SV × (List Arc)) w' => (k0 ≤ a.arcs.length) ∧ (l_5_0 = (a.arcs.take k0).map (shA k)) ∧ Mem w0 I0 I (row EArc (sv u_5_0) l_5_0 :: box b2 29 [.int .i64 a.states, .int .i64 a.start, sv fu1, sv au1] :: Lt) w')
   (fun ((k0, u_5_0, l_5_0) : Nat × SV × (List Arc)) => a.arcs.length - k0) (0, nilV, []) ⟨rfl, rfl, trivial⟩ ?_ ?_
 ·refine ⟨Nat.zero_le _, rfl, ?_⟩
  exact M
 rintro ⟨k0, u_5_0, l_5_0⟩ jj0 w2 ⟨hk0, haa, M⟩
 refine wc_seq ?_
 refine wc_region ?_
 refine wl_m M (q_lss rfl rfl) rfl rfl ?_
 refine wl_nil ?_
 refine wc_seq ?_
 refine wc_dec rfl (fun ht12 => ?_) (fun ht12 => ?_)
 ·obtain ⟨x0, hx0⟩ : ∃ x_, a.arcs[k0]? = some x_ := ⟨_, List.getElem?_eq_getElem (by omega)⟩
  have hll0 := (Ra1).len_le
  have hx0r := ha x0 (List.mem_of_getElem? hx0)
  refine wc_skip ?_
  refine wc_seq ?_
  refine wc_block ?_
  refine wc_seq ?_
  refine wc_region ?_
  refine wl_ix (j := k0) M Ra1 Tryd.underlying27 rfl rfl hx0 rfl (fun b13 o13 p13 => ?_)
  refine wl_m M (q_ldp p13 rfl rfl) rfl rfl ?_
  refine wl_e (e_alloc M z52) rfl rfl ?_
  rintro _ w3 ⟨b7, rfl, M⟩
  refine wl_e0 (e_stW 0 M rfl rfl rfl sz52 rfl rfl) rfl ?_
  intro _ w4 M
  simp only [sC0, sCS] at M
  refine wl_nil ?_
  refine wc_region ?_
  refine wl_mv M rfl rfl ?_
  refine wl_m M (q_fa fo_52_0 rfl) rfl rfl ?_
  refine wl_m M (q_ldb 0 Tryd.underlying3 rfl rfl rfl rfl) rfl rfl ?_
  refine wl_mv M rfl rfl ?_
  refine wl_m M (q_add rfl rfl (IntWalk.i64_in _ (by omega))) rfl rfl ?_
  refine wl_m M (q_fa fo_52_1 rfl) rfl rfl ?_
  refine wl_m M (q_ldb 0 Tryd.underlying3 rfl rfl rfl rfl) rfl rfl ?_
  refine wl_mv M rfl rfl ?_
  refine wl_m M (q_add rfl rfl (IntWalk.i64_in _ (by omega))) rfl rfl ?_
  refine wl_m M (q_fa fo_52_2 rfl) rfl rfl ?_
  refine wl_m M (q_ldb 0 Tryd.underlying21 rfl rfl rfl rfl) rfl rfl ?_
  refine wl_m M (q_fa fo_52_3 rfl) rfl rfl ?_
  refine wl_m M (q_ldb 0 Tryd.underlying21 rfl rfl rfl rfl) rfl rfl ?_
  refine wl_m M (q_build (bd_52_0_1_2_3 _ _ _ _) ⟨⟨rfl, rfl⟩, ⟨rfl, rfl⟩, ⟨rfl, rfl⟩, ⟨rfl, rfl⟩, trivial⟩) rfl rfl ?_
  refine wl_e (e_bsI (E := EArc) (xs := [(Arc.mk (x0.src + k) (x0.dst + k) x0.inp x0.out)]) M (bs_27_1 _ _ _ _) ⟨⟨rfl, rfl⟩, trivial⟩ rfl rfl (by decide)) rfl rfl ?_
  rintro _ w5 ⟨u29, J29, rfl, hJ29, R29, M⟩
  have hoJ29 := M.old
  refine wl_e (e_app 1 M rfl R29 Tryd.underlying27 rfl rfl (by rw [haa, List.length_map, List.length_take]; show (_ + 1) * 24 ≤ _; omega)) rfl rfl ?_
  rintro _ w6 ⟨u30, rfl, M⟩
  replace M := M.less hJ29 hoI
  simp only [sC0, sCS] at M
  refine wl_as M rfl rfl ?_
  refine wl_nil ?_
  refine wc_region ?_
  refine wl_m M (q_add rfl rfl (IntWalk.i64_in _ (by omega))) rfl rfl ?_
  refine wl_mv M rfl rfl ?_
  refine wl_nil ?_
  replace M := M.drop 0
  refine ⟨(k0 + 1, u30, l_5_0 ++ [(Arc.mk (x0.src + k) (x0.dst + k) x0.inp x0.out)]), ?_, ⟨(by omega), (by rw [take_snoc hx0, List.map_append, ← haa]; rfl), M⟩, ⟨rfl, rfl, trivial⟩, unw_look rfl unw_base⟩
  show a.arcs.length - (k0 + 1) < a.arcs.length - k0
  omega
 have hke0 : k0 = a.arcs.length := by omega
 rw [hke0, List.take_length] at haa
 refine wc_exit rfl ?_
 refine wc_seq ?_
 refine wc_region ?_
 refine wl_mv M rfl rfl ?_
 refine wl_as M rfl rfl ?_
 refine wl_nil ?_
 refine wc_ret ?_
 replace M := M.drop 1
 rw [haa] at M
 exact out1 rfl rfl ⟨_, rfl, M⟩
theorem finalsR_c {a : Tra} {w0 w : World} {I0 I : Heap} {Lt : List Res} (k : Int) (hk : 0 ≤ k ∧ k ≤ 1073741824) (ha : ∀ x ∈ a.finals, 0 ≤ x ∧ x ≤ 1073741824) (hl : a.finals.length ≤ 1073741824) {v : Value} (R : a.rd I v) (M : Mem w0 I0 I Lt w) :
    Calls A 58 #[v, .int .i64 k] w (fun e w' => ∃ u : SV, e = .returned (sv u) ∧ Mem w0 I0 I (row EInt (sv u) (a.finals.map (· + k)) :: Lt) w') := by
 obtain ⟨fu1, au1, rfl, Rf1, Ra1⟩ := R
 have hoI := M.old
 refine enter Tryd.func58 rfl 23 Tryd.ntmps58 [_, _] rfl ?_
 refine wc_seq ?_
 refine wc_region ?_
 refine wl_e (e_box M rfl) rfl rfl ?_
 rintro _ w1 ⟨b2, rfl, M⟩
 refine wl_as M rfl rfl ?_
 refine wl_nil ?_
 refine wc_seq ?_
 refine wc_region ?_
 refine wl_as M rfl rfl ?_
 replace M := M.nilRow EInt
 refine wl_nil ?_
 refine wc_seq ?_
 refine wc_seq ?_
 refine wc_region ?_
 refine wl_m M (q_fa fo_29_2 rfl) rfl rfl ?_
 refine wl_m M (q_ldb 1 Tryd.underlying26 rfl rfl rfl rfl) rfl rfl ?_
 refine wl_m M (q_lenR Rf1 Tryd.underlying26 rfl) rfl rfl ?_
 refine wl_mv M rfl rfl ?_
 refine wl_nil ?_
 refine wc_block ?_
 refine wc_loop (α := Nat × SV × (List Int)) [5, 7, 11, 12, 13, 14, 15, 16, 17, 18, 19, 20, 21] (fun ((k0, u_5_0, l_5_0) : Nat × SV × (List Int)) => [(11, .int .i64 (k0 : Int)), (5, sv u_5_0)])
   (fun ((k0, u_5_0, l_5_0) : Nat × SV × (List Int)) w' => (k0 ≤ a.finals.length) ∧ (l_5_0 = (a.finals.take k0).map (· + k)) ∧ Mem w0 I0 I (row EInt (sv u_5_0) l_5_0 :: box b2 29 [.int .i64 a.states, .int .i64 a.start, sv fu1, sv au1] :: Lt) w')
   (fun ((k0, u_5_0, l_5_0) : Nat × SV × (List Int)) => a.finals.length - k0) (0, nilV, []) ⟨rfl, rfl, trivial⟩ ?_ ?_
 ·refine ⟨Nat.zero_le _, rfl, ?_⟩
  exact M
 rintro ⟨k0, u_5_0, l_5_0⟩ jj0 w2 ⟨hk0, hff, M⟩
 refine wc_seq ?_
 refine wc_region ?_
 refine wl_m M (q_lss rfl rfl) rfl rfl ?_
 refine wl_nil ?_
 refine wc_seq ?_
 refine wc_dec rfl (fun ht12 => ?_) (fun ht12 => ?_)
 ·obtain ⟨x0, hx0⟩ : ∃ x_, a.finals[k0]? = some x_ := ⟨_, List.getElem?_eq_getElem (by omega)⟩
  have hll0 := (Rf1).len_le
  have hx0r := ha x0 (List.mem_of_getElem? hx0)
  refine wc_skip ?_
  refine wc_seq ?_
  refine wc_block ?_
  refine wc_seq ?_
  refine wc_region ?_
  refine wl_ix (j := k0) M Rf1 Tryd.underlying26 rfl rfl hx0 rfl (fun b13 o13 p13 => ?_)
  refine wl_m M (q_ldp p13 rfl rfl) rfl rfl ?_
  refine wl_as M rfl rfl ?_
  refine wl_nil ?_
  refine wc_region ?_
  refine wl_mv M rfl rfl ?_
  refine wl_mv M rfl rfl ?_
  refine wl_mv M rfl rfl ?_
  refine wl_m M (q_add rfl rfl (IntWalk.i64_in _ (by omega))) rfl rfl ?_
  refine wl_e (e_bsI (E := EInt) (xs := [x0 + k]) M (bs_26_1 _) ⟨⟨rfl, rfl⟩, trivial⟩ rfl rfl (by decide)) rfl rfl ?_
  rintro _ w3 ⟨u19, J19, rfl, hJ19, R19, M⟩
  have hoJ19 := M.old
  refine wl_e (e_app 0 M rfl R19 Tryd.underlying26 rfl rfl (by rw [hff, List.length_map, List.length_take]; show (_ + 1) * 8 ≤ _; omega)) rfl rfl ?_
  rintro _ w4 ⟨u20, rfl, M⟩
  replace M := M.less hJ19 hoI
  simp only [sC0, sCS] at M
  refine wl_as M rfl rfl ?_
  refine wl_nil ?_
  refine wc_region ?_
  refine wl_m M (q_add rfl rfl (IntWalk.i64_in _ (by omega))) rfl rfl ?_
  refine wl_mv M rfl rfl ?_
  refine wl_nil ?_
  refine ⟨(k0 + 1, u20, l_5_0 ++ [x0 + k]), ?_, ⟨(by omega), (by rw [take_snoc hx0, List.map_append, ← hff]; rfl), M⟩, ⟨rfl, rfl, trivial⟩, unw_look rfl unw_base⟩
  show a.finals.length - (k0 + 1) < a.finals.length - k0
  omega
 have hke0 : k0 = a.finals.length := by omega
 rw [hke0, List.take_length] at hff
 refine wc_exit rfl ?_
 refine wc_seq ?_
 refine wc_region ?_
 refine wl_mv M rfl rfl ?_
 refine wl_as M rfl rfl ?_
 refine wl_nil ?_
 refine wc_ret ?_
 replace M := M.drop 1
 rw [hff] at M
 exact out1 rfl rfl ⟨_, rfl, M⟩
theorem union4_c (a b : Tra) {v1 v2 : Value} {I : Heap} {w : World} (hI : hle I (hp w)) (R1 : a.rd I v1) (R2 : b.rd I v2) :
    Calls A 35 #[v1, v2] w (Ret w I fun r I' => ∃ (v' : Value) (u : Tra) (e : Int), r = .tuple #[v', .int .i64 e] ∧ u.rd I' v' ∧ (u, e) = UniS a b) := by
 obtain ⟨fu1, au1, rfl, Rf1, Ra1⟩ := R1
 obtain ⟨fu2, au2, rfl, Rf2, Ra2⟩ := R2
 have M := Mem.start hI
 refine enter Tryd.func35 rfl 57 Tryd.ntmps35 [_, _] rfl ?_
 refine wc_seq ?_
 refine wc_region ?_
 refine wl_e (e_box M rfl) rfl rfl ?_
 rintro _ w1 ⟨b2, rfl, M⟩
 refine wl_e (e_box M rfl) rfl rfl ?_
 rintro _ w2 ⟨b3, rfl, M⟩
 refine wl_e (e_alloc M z29) rfl rfl ?_
 rintro _ w3 ⟨b4, rfl, M⟩
 refine wl_as M rfl rfl ?_
 refine wl_nil ?_
 refine wc_seq ?_
 refine wc_seq ?_
 refine wc_join (α := Unit) [8, 9, 10, 11, 12, 13, 14, 15] (fun _ => [(15, .bool ((!(validT a)) || (!(validT b))))]) (fun _ w' => Mem w I I (box b4 29 [.int .i64 0, .int .i64 0, .slice none 0 0, .slice none 0 0] :: box b3 29 [.int .i64 b.states, .int .i64 b.start, sv fu2, sv au2] :: box b2 29 [.int .i64 a.states, .int .i64 a.start, sv fu1, sv au1] :: []) w') ?_ ?_
 ·refine wc_region ?_
  refine wl_m M (q_ldbA 2 Tryd.underlying29 rfl sz29 rfl rfl rfl rfl) rfl rfl ?_
  refine wl_e (e_callC M (valid4_c a M.imm ⟨_, _, rfl, Rf1, Ra1⟩) Tryd.func56 rfl rfl) rfl rfl ?_
  rintro _ w4 ⟨J9, hJ9, rfl, M⟩
  replace M := M.less hJ9 (fun _ _ => rfl)
  refine wl_m M (q_not rfl) rfl rfl ?_
  refine wl_mv M rfl rfl ?_
  rcases Bool.eq_false_or_eq_true (!(validT a)) with hg11 | hg11
  ·refine wl_m M (q_off 3 rfl rfl rfl hg11) rfl rfl ?_
   refine wl_m M (q_off 3 rfl rfl rfl hg11) rfl rfl ?_
   refine wl_m M (q_off 3 rfl rfl rfl hg11) rfl rfl ?_
   refine wl_m M (q_pickT rfl hg11 rfl) rfl rfl ?_
   refine wl_nil ?_
   exact ⟨(), M, ⟨(show some (Value.bool true) = some (Value.bool ((!(validT a)) || (!(validT b)))) from by first | (simp only [hg11, Bool.true_or, Bool.false_or, Bool.true_and, Bool.false_and, Bool.or_true, Bool.or_false, Bool.and_true, Bool.and_false]; done) | simp_all), trivial⟩, unw_take 8 rfl rfl⟩
  refine wl_m M (q_guard 3 rfl rfl rfl hg11 (q_ldbA 1 Tryd.underlying29 rfl sz29 rfl rfl rfl rfl)) rfl rfl ?_
  refine wl_e (e_guard 3 rfl rfl rfl hg11 (e_callC M (valid4_c b M.imm ⟨_, _, rfl, Rf2, Ra2⟩) Tryd.func56 rfl rfl)) rfl rfl ?_
  rintro _ w5 ⟨J13, hJ13, rfl, M⟩
  replace M := M.less hJ13 (fun _ _ => rfl)
  refine wl_m M (q_guard 3 rfl rfl rfl hg11 (q_not rfl)) rfl rfl ?_
  refine wl_m M (q_pickF rfl hg11 rfl) rfl rfl ?_
  refine wl_nil ?_
  exact ⟨(), M, ⟨(show some (Value.bool (!(validT b))) = some (Value.bool ((!(validT a)) || (!(validT b)))) from by first | (simp only [hg11, Bool.true_or, Bool.false_or, Bool.true_and, Bool.false_and, Bool.or_true, Bool.or_false, Bool.and_true, Bool.and_false]; done) | simp_all), trivial⟩, unw_take 8 rfl rfl⟩
 rintro _ jr1 w6 M
 refine wc_cond rfl (fun ht15 => ?_) (fun ht15 => ?_)
 ·refine wc_seq ?_
  refine wc_region ?_
  refine wl_m M (q_build (bd_29) trivial) rfl rfl ?_
  refine wl_e0 (e_stW 0 M rfl rfl rfl sz29 rfl rfl) rfl ?_
  intro _ w7 M
  simp only [sC0, sCS] at M
  refine wl_as M rfl rfl ?_
  refine wl_nil ?_
  refine wc_ret ?_
  exact outc2 rfl rfl (load_boxA M 0 Tryd.underlying29 rfl sz29 rfl rfl rfl) rfl ⟨_, _, rfl, M.grow, _, zeroTra, 1, rfl, ⟨nilV, nilV, rfl, rdSl_nil _, rdSl_nil _⟩, (uni_bad ht15).symm⟩
 have hva : validT a = true := by simpa using (Bool.or_eq_false_iff.1 ht15).1
 have hvb : validT b = true := by simpa using (Bool.or_eq_false_iff.1 ht15).2
 obtain ⟨m, hsa, hma, hla, rga, lba⟩ := valid_all hva
 have hfa := valid_fin hva
 have hsta := rga.start
 obtain ⟨n, hsb, hmb, hlb, rgb, lbb⟩ := valid_all hvb
 have hfb := valid_fin hvb
 have hstb := rgb.start
 refine wc_skip ?_
 refine wc_seq ?_
 refine wc_region ?_
 refine wl_m M (q_fa fo_29_0 rfl) rfl rfl ?_
 refine wl_m M (q_ldb 2 Tryd.underlying3 rfl rfl rfl rfl) rfl rfl ?_
 refine wl_m M (q_add rfl rfl (IntWalk.i64_in _ (by omega))) rfl rfl ?_
 refine wl_as M rfl rfl ?_
 refine wl_nil ?_
 refine wc_seq ?_
 refine wc_region ?_
 refine wl_mv M rfl rfl ?_
 refine wl_m M (q_fa fo_29_0 rfl) rfl rfl ?_
 refine wl_m M (q_ldb 1 Tryd.underlying3 rfl rfl rfl rfl) rfl rfl ?_
 refine wl_m M (q_add rfl rfl (IntWalk.i64_in _ (by omega))) rfl rfl ?_
 refine wl_m M (q_build (bd_29_0 _) ⟨⟨rfl, rfl⟩, trivial⟩) rfl rfl ?_
 refine wl_e (e_alloc M z29) rfl rfl ?_
 rintro _ w8 ⟨b7, rfl, M⟩
 refine wl_e0 (e_stW 0 M rfl rfl rfl sz29 rfl rfl) rfl ?_
 intro _ w9 M
 simp only [sC0, sCS] at M
 refine wl_nil ?_
 refine wc_seq ?_
 refine wc_join (α := Heap × SV × SV) [25, 26, 27, 28, 29, 30, 31] (fun ((I5, u30, u29) : Heap × SV × SV) => []) (fun ((I5, u30, u29) : Heap × SV × SV) w' => hle I I5 ∧ Mem w I I5 (row EArc (sv u30) (a.arcs.map (shA 1) ++ b.arcs.map (shA (1 + a.states))) :: row EArc (sv u29) (b.arcs.map (shA (1 + a.states))) :: box b7 29 [.int .i64 (1 + a.states + b.states), .int .i64 0, .slice none 0 0, sv u30] :: box b4 29 [.int .i64 0, .int .i64 0, .slice none 0 0, .slice none 0 0] :: box b3 29 [.int .i64 b.states, .int .i64 b.start, sv fu2, sv au2] :: box b2 29 [.int .i64 a.states, .int .i64 a.start, sv fu1, sv au1] :: []) w') ?_ ?_
 ·refine wc_draws (fun w' => Mem w I I (box b4 29 [.int .i64 0, .int .i64 0, .slice none 0 0, .slice none 0 0] :: box b3 29 [.int .i64 b.states, .int .i64 b.start, sv fu2, sv au2] :: box b2 29 [.int .i64 a.states, .int .i64 a.start, sv fu1, sv au1] :: []) w' ∧ True) [7] fol ?_
  replace M := M.drew
  have hS := (⟨(M.drop 0), trivial⟩ : _ ∧ _)
  refine wa_q 0 rfl (by kernel_rfl) ((q_ldbA 2 Tryd.underlying29 rfl sz29 rfl rfl rfl rfl).mono fun _ h => h.1) hS rfl rfl ?_
  refine wa_q 2 rfl (by kernel_rfl) ((q_ldbA 1 Tryd.underlying29 rfl sz29 rfl rfl rfl rfl).mono fun _ h => h.1) hS rfl rfl ?_
  refine wa_q 3 rfl (by kernel_rfl) (q_move rfl) hS rfl rfl ?_
  refine wa_e 1 rfl (by kernel_rfl) (e_callO (val := sv) Tryd.func57 rfl (vs := [.agg #[.int .i64 a.states, .int .i64 a.start, sv fu1, sv au1], .int .i64 1]) rfl (arcsR_c (a := a) 1 (by omega) (fun x hx => by have := rga.arcs x hx; omega) (by omega) ⟨_, _, rfl, Rf1, Ra1⟩ M)) rfl rfl ?_
  rintro _ w10 ⟨u26, rfl, M⟩
  have hS := (⟨((M.drop 0).drop 0), trivial⟩ : _ ∧ _)
  refine ⟨fun _ => hS, ?_⟩
  refine wa_e 4 rfl (by kernel_rfl) (e_callO (val := sv) Tryd.func57 rfl (vs := [.agg #[.int .i64 b.states, .int .i64 b.start, sv fu2, sv au2], .int .i64 (1 + a.states)]) rfl (arcsR_c (a := b) (1 + a.states) (by omega) (fun x hx => by have := rgb.arcs x hx; omega) (by omega) ⟨_, _, rfl, Rf2, Ra2⟩ M)) rfl rfl ?_
  rintro _ w11 ⟨u29, rfl, M⟩
  have hS := (⟨(((M.drop 0).drop 0).drop 0), trivial⟩ : _ ∧ _)
  refine ⟨fun _ => hS, ?_⟩
  refine wa_e 5 rfl (by kernel_rfl) (e_app2 1 0 M rfl rfl Tryd.underlying27 rfl rfl (by simp only [List.length_map]; show (_ + _) * 24 ≤ _; omega)) rfl rfl ?_
  rintro _ w12 ⟨u30, rfl, M⟩
  simp only [sC0, sCS] at M
  have hS := (⟨(((M.drop 0).drop 0).drop 0), trivial⟩ : _ ∧ _)
  refine ⟨fun _ => hS, ?_⟩
  refine wa_q 6 rfl (by kernel_rfl) (q_fa fo_29_3 rfl) hS rfl rfl ?_
  refine wa_e0 7 rfl (by kernel_rfl) (e_stb 2 M rfl rfl rfl sz27 rfl rfl) rfl ?_
  intro _ w13 M
  simp only [sC0, sCS] at M
  refine ⟨nofun, ?_⟩
  refine wa_done (by kernel_rfl) ?_
  replace M := M.perm (List.Perm.swap _ _ _)
  exact ⟨(I, u30, u29), ⟨hle.refl _, M⟩, trivial, unw_take 7 rfl rfl⟩
 rintro ⟨I5, u30, u29⟩ jr5 w14 ⟨hI5, M⟩
 have hoI5 := M.old
 refine wc_seq ?_
 refine wc_region ?_
 refine wl_m M (q_fa fo_29_3 rfl) rfl rfl ?_
 refine wl_m M (q_ldb 2 Tryd.underlying27 rfl rfl rfl rfl) rfl rfl ?_
 refine wl_m M (q_fa fo_29_1 rfl) rfl rfl ?_
 refine wl_m M (q_ldb 5 Tryd.underlying3 rfl rfl rfl rfl) rfl rfl ?_
 refine wl_m M (q_add rfl rfl (IntWalk.i64_in _ (by omega))) rfl rfl ?_
 refine wl_m M (q_build (bd_52_0_1 _ _) ⟨⟨rfl, rfl⟩, ⟨rfl, rfl⟩, trivial⟩) rfl rfl ?_
 refine wl_mv M rfl rfl ?_
 refine wl_m M (q_fa fo_29_1 rfl) rfl rfl ?_
 refine wl_m M (q_ldb 4 Tryd.underlying3 rfl rfl rfl rfl) rfl rfl ?_
 refine wl_m M (q_add rfl rfl (IntWalk.i64_in _ (by omega))) rfl rfl ?_
 refine wl_m M (q_build (bd_52_0_1 _ _) ⟨⟨rfl, rfl⟩, ⟨rfl, rfl⟩, trivial⟩) rfl rfl ?_
 refine wl_e (e_bsI (E := EArc) (xs := [(Arc.mk 0 (1 + a.start) 0 0), (Arc.mk 0 ((1 + a.states) + b.start) 0 0)]) M (bs_27_2 _ _ _ _ _ _ _ _) ⟨⟨rfl, rfl⟩, ⟨rfl, rfl⟩, trivial⟩ rfl rfl (by decide)) rfl rfl ?_
 rintro _ w15 ⟨u43, J43, rfl, hJ43, R43, M⟩
 have hoJ43 := M.old
 refine wl_e (e_app 0 M rfl R43 Tryd.underlying27 rfl rfl (by simp only [List.length_append, List.length_map]; show (_ + 2) * 24 ≤ _; omega)) rfl rfl ?_
 rintro _ w16 ⟨u44, rfl, M⟩
 replace M := M.less hJ43 hoI5
 simp only [sC0, sCS] at M
 refine wl_m M (q_fa fo_29_3 rfl) rfl rfl ?_
 refine wl_e0 (e_stb 2 M rfl rfl rfl sz27 rfl rfl) rfl ?_
 intro _ w17 M
 simp only [sC0, sCS] at M
 refine wl_nil ?_
 refine wc_seq ?_
 refine wc_join (α := Heap × SV × SV) [46, 47, 48, 49, 50, 51, 52] (fun ((I6, u51, u50) : Heap × SV × SV) => []) (fun ((I6, u51, u50) : Heap × SV × SV) w' => hle I5 I6 ∧ Mem w I I6 (row EInt (sv u51) (a.finals.map (· + 1) ++ b.finals.map (· + (1 + a.states))) :: row EInt (sv u50) (b.finals.map (· + (1 + a.states))) :: row EArc (sv u44) ((a.arcs.map (shA 1) ++ b.arcs.map (shA (1 + a.states))) ++ [(Arc.mk 0 (1 + a.start) 0 0), (Arc.mk 0 ((1 + a.states) + b.start) 0 0)]) :: row EArc (sv u29) (b.arcs.map (shA (1 + a.states))) :: box b7 29 [.int .i64 (1 + a.states + b.states), .int .i64 0, sv u51, sv u44] :: box b4 29 [.int .i64 0, .int .i64 0, .slice none 0 0, .slice none 0 0] :: box b3 29 [.int .i64 b.states, .int .i64 b.start, sv fu2, sv au2] :: box b2 29 [.int .i64 a.states, .int .i64 a.start, sv fu1, sv au1] :: []) w') ?_ ?_
 ·refine wc_draws (fun w' => Mem w I I5 (row EArc (sv u44) ((a.arcs.map (shA 1) ++ b.arcs.map (shA (1 + a.states))) ++ [(Arc.mk 0 (1 + a.start) 0 0), (Arc.mk 0 ((1 + a.states) + b.start) 0 0)]) :: row EArc (sv u29) (b.arcs.map (shA (1 + a.states))) :: box b4 29 [.int .i64 0, .int .i64 0, .slice none 0 0, .slice none 0 0] :: box b3 29 [.int .i64 b.states, .int .i64 b.start, sv fu2, sv au2] :: box b2 29 [.int .i64 a.states, .int .i64 a.start, sv fu1, sv au1] :: []) w' ∧ True) [7] fol ?_
  replace M := M.drew
  have hS := (⟨(M.drop 2), trivial⟩ : _ ∧ _)
  refine wa_q 0 rfl (by kernel_rfl) ((q_ldbA 4 Tryd.underlying29 rfl sz29 rfl rfl rfl rfl).mono fun _ h => h.1) hS rfl rfl ?_
  refine wa_q 2 rfl (by kernel_rfl) ((q_ldbA 3 Tryd.underlying29 rfl sz29 rfl rfl rfl rfl).mono fun _ h => h.1) hS rfl rfl ?_
  refine wa_q 3 rfl (by kernel_rfl) (q_move rfl) hS rfl rfl ?_
  refine wa_e 1 rfl (by kernel_rfl) (e_callO (val := sv) Tryd.func58 rfl (vs := [.agg #[.int .i64 a.states, .int .i64 a.start, sv fu1, sv au1], .int .i64 1]) rfl (finalsR_c (a := a) 1 (by omega) (fun x hx => by have := rga.fin x hx; omega) (by omega) ⟨_, _, rfl, (Rf1.mono hI5), (Ra1.mono hI5)⟩ M)) rfl rfl ?_
  rintro _ w18 ⟨u47, rfl, M⟩
  have hS := (⟨((M.drop 0).drop 2), trivial⟩ : _ ∧ _)
  refine ⟨fun _ => hS, ?_⟩
  refine wa_e 4 rfl (by kernel_rfl) (e_callO (val := sv) Tryd.func58 rfl (vs := [.agg #[.int .i64 b.states, .int .i64 b.start, sv fu2, sv au2], .int .i64 (1 + a.states)]) rfl (finalsR_c (a := b) (1 + a.states) (by omega) (fun x hx => by have := rgb.fin x hx; omega) (by omega) ⟨_, _, rfl, (Rf2.mono hI5), (Ra2.mono hI5)⟩ M)) rfl rfl ?_
  rintro _ w19 ⟨u50, rfl, M⟩
  have hS := (⟨(((M.drop 0).drop 0).drop 2), trivial⟩ : _ ∧ _)
  refine ⟨fun _ => hS, ?_⟩
  refine wa_e 5 rfl (by kernel_rfl) (e_app2 1 0 M rfl rfl Tryd.underlying26 rfl rfl (by simp only [List.length_map]; show (_ + _) * 8 ≤ _; omega)) rfl rfl ?_
  rintro _ w20 ⟨u51, rfl, M⟩
  simp only [sC0, sCS] at M
  have hS := (⟨(((M.drop 0).drop 0).drop 2), trivial⟩ : _ ∧ _)
  refine ⟨fun _ => hS, ?_⟩
  refine wa_q 6 rfl (by kernel_rfl) (q_fa fo_29_2 rfl) hS rfl rfl ?_
  refine wa_e0 7 rfl (by kernel_rfl) (e_stb 4 M rfl rfl rfl sz26 rfl rfl) rfl ?_
  intro _ w21 M
  simp only [sC0, sCS] at M
  refine ⟨nofun, ?_⟩
  refine wa_done (by kernel_rfl) ?_
  replace M := M.perm (List.Perm.swap _ _ _)
  exact ⟨(I5, u51, u50), ⟨hle.refl _, M⟩, trivial, unw_take 7 rfl rfl⟩
 rintro ⟨I6, u51, u50⟩ jr7 w22 ⟨hI6, M⟩
 have hoI6 := M.old
 refine wc_seq ?_
 obtain ⟨I8, M, hI8, Rn⟩ := M.frzRow 0 rfl
 have hoI8 := M.old
 simp only [List.eraseIdx_cons_zero, List.eraseIdx_cons_succ] at M
 obtain ⟨I9, M, hI9, Rm⟩ := M.frzRow 1 rfl
 have hoI9 := M.old
 simp only [List.eraseIdx_cons_zero, List.eraseIdx_cons_succ] at M
 refine wc_region ?_
 refine wl_m M (q_ldbA 2 Tryd.underlying29 rfl sz29 rfl rfl rfl rfl) rfl rfl ?_
 refine wl_e (e_callC M (limited4_c (t := (uniR a b)) (m := 1 + m + n) (by show 1 + a.states + b.states = _; omega) (by omega) (uniR_rng (uni_rng rga rgb hsa hsb)) (uniR_sorted hva hvb) (by show (uniR a b).arcs.length ≤ _; simp only [uniR, uniT, conT, staT, revT, List.length_append, List.length_cons, List.length_nil, List.length_map]; omega) (by show (uniR a b).finals.length ≤ _; simp only [uniR, uniT, conT, staT, revT, List.length_append, List.length_cons, List.length_nil, List.length_map]; omega) M.imm ⟨_, _, rfl, (Rn.mono hI9), Rm⟩) Tryd.func45 rfl rfl) rfl rfl ?_
 rw [uniR_fin]
 rintro _ w23 ⟨J54, hJ54, ⟨_, rfl, ⟨fu54, au54, rfl, Rf54, Ra54⟩⟩, M⟩
 have hoJ54 := M.old
 refine wl_m M (q_ext rfl rfl) rfl rfl ?_
 refine wl_m M (q_ext rfl rfl) rfl rfl ?_
 refine wl_e0 (e_stW 3 M rfl rfl rfl sz29 rfl rfl) rfl ?_
 intro _ w24 M
 simp only [sC0, sCS] at M
 refine wl_as M rfl rfl ?_
 refine wl_nil ?_
 refine wc_ret ?_
 exact outc2 rfl rfl (load_boxA M 3 Tryd.underlying29 rfl sz29 rfl rfl rfl) rfl ⟨_, _, rfl, M.grow, _, (FinS (uniT a b) (1 + m + n)).1, (FinS (uniT a b) (1 + m + n)).2, rfl, ⟨_, _, rfl, Rf54, Ra54⟩, (uni_ok hva hvb hsa hsb).symm⟩
theorem concat4_c (a b : Tra) {v1 v2 : Value} {I : Heap} {w : World} (hI : hle I (hp w)) (R1 : a.rd I v1) (R2 : b.rd I v2) :
    Calls A 37 #[v1, v2] w (Ret w I fun r I' => ∃ (v' : Value) (u : Tra) (e : Int), r = .tuple #[v', .int .i64 e] ∧ u.rd I' v' ∧ (u, e) = ConS a b) := by
 obtain ⟨fu1, au1, rfl, Rf1, Ra1⟩ := R1
 obtain ⟨fu2, au2, rfl, Rf2, Ra2⟩ := R2
 have M := Mem.start hI
 refine enter Tryd.func37 rfl 63 Tryd.ntmps37 [_, _] rfl ?_
 refine wc_seq ?_
 refine wc_region ?_
 refine wl_e (e_box M rfl) rfl rfl ?_
 rintro _ w1 ⟨b2, rfl, M⟩
 refine wl_e (e_box M rfl) rfl rfl ?_
 rintro _ w2 ⟨b3, rfl, M⟩
 refine wl_e (e_alloc M z29) rfl rfl ?_
 rintro _ w3 ⟨b4, rfl, M⟩
 refine wl_as M rfl rfl ?_
 refine wl_nil ?_
 refine wc_seq ?_
 refine wc_seq ?_
 refine wc_join (α := Unit) [9, 10, 11, 12, 13, 14, 15, 16] (fun _ => [(16, .bool ((!(validT a)) || (!(validT b))))]) (fun _ w' => Mem w I I (box b4 29 [.int .i64 0, .int .i64 0, .slice none 0 0, .slice none 0 0] :: box b3 29 [.int .i64 b.states, .int .i64 b.start, sv fu2, sv au2] :: box b2 29 [.int .i64 a.states, .int .i64 a.start, sv fu1, sv au1] :: []) w') ?_ ?_
 ·refine wc_region ?_
  refine wl_m M (q_ldbA 2 Tryd.underlying29 rfl sz29 rfl rfl rfl rfl) rfl rfl ?_
  refine wl_e (e_callC M (valid4_c a M.imm ⟨_, _, rfl, Rf1, Ra1⟩) Tryd.func56 rfl rfl) rfl rfl ?_
  rintro _ w4 ⟨J10, hJ10, rfl, M⟩
  replace M := M.less hJ10 (fun _ _ => rfl)
  refine wl_m M (q_not rfl) rfl rfl ?_
  refine wl_mv M rfl rfl ?_
  rcases Bool.eq_false_or_eq_true (!(validT a)) with hg12 | hg12
  ·refine wl_m M (q_off 3 rfl rfl rfl hg12) rfl rfl ?_
   refine wl_m M (q_off 3 rfl rfl rfl hg12) rfl rfl ?_
   refine wl_m M (q_off 3 rfl rfl rfl hg12) rfl rfl ?_
   refine wl_m M (q_pickT rfl hg12 rfl) rfl rfl ?_
   refine wl_nil ?_
   exact ⟨(), M, ⟨(show some (Value.bool true) = some (Value.bool ((!(validT a)) || (!(validT b)))) from by first | (simp only [hg12, Bool.true_or, Bool.false_or, Bool.true_and, Bool.false_and, Bool.or_true, Bool.or_false, Bool.and_true, Bool.and_false]; done) | simp_all), trivial⟩, unw_take 8 rfl rfl⟩
  refine wl_m M (q_guard 3 rfl rfl rfl hg12 (q_ldbA 1 Tryd.underlying29 rfl sz29 rfl rfl rfl rfl)) rfl rfl ?_
  refine wl_e (e_guard 3 rfl rfl rfl hg12 (e_callC M (valid4_c b M.imm ⟨_, _, rfl, Rf2, Ra2⟩) Tryd.func56 rfl rfl)) rfl rfl ?_
  rintro _ w5 ⟨J14, hJ14, rfl, M⟩
  replace M := M.less hJ14 (fun _ _ => rfl)
  refine wl_m M (q_guard 3 rfl rfl rfl hg12 (q_not rfl)) rfl rfl ?_
  refine wl_m M (q_pickF rfl hg12 rfl) rfl rfl ?_
  refine wl_nil ?_
  exact ⟨(), M, ⟨(show some (Value.bool (!(validT b))) = some (Value.bool ((!(validT a)) || (!(validT b)))) from by first | (simp only [hg12, Bool.true_or, Bool.false_or, Bool.true_and, Bool.false_and, Bool.or_true, Bool.or_false, Bool.and_true, Bool.and_false]; done) | simp_all), trivial⟩, unw_take 8 rfl rfl⟩
 rintro _ jr1 w6 M
 refine wc_cond rfl (fun ht16 => ?_) (fun ht16 => ?_)
 ·refine wc_seq ?_
  refine wc_region ?_
  refine wl_m M (q_build (bd_29) trivial) rfl rfl ?_
  refine wl_e0 (e_stW 0 M rfl rfl rfl sz29 rfl rfl) rfl ?_
  intro _ w7 M
  simp only [sC0, sCS] at M
  refine wl_as M rfl rfl ?_
  refine wl_nil ?_
  refine wc_ret ?_
  exact outc2 rfl rfl (load_boxA M 0 Tryd.underlying29 rfl sz29 rfl rfl rfl) rfl ⟨_, _, rfl, M.grow, _, zeroTra, 1, rfl, ⟨nilV, nilV, rfl, rdSl_nil _, rdSl_nil _⟩, (con_bad ht16).symm⟩
 have hva : validT a = true := by simpa using (Bool.or_eq_false_iff.1 ht16).1
 have hvb : validT b = true := by simpa using (Bool.or_eq_false_iff.1 ht16).2
 obtain ⟨m, hsa, hma, hla, rga, lba⟩ := valid_all hva
 have hfa := valid_fin hva
 have hsta := rga.start
 obtain ⟨n, hsb, hmb, hlb, rgb, lbb⟩ := valid_all hvb
 have hfb := valid_fin hvb
 have hstb := rgb.start
 refine wc_skip ?_
 refine wc_seq ?_
 refine wc_region ?_
 refine wl_m M (q_fa fo_29_0 rfl) rfl rfl ?_
 refine wl_m M (q_ldb 2 Tryd.underlying3 rfl rfl rfl rfl) rfl rfl ?_
 refine wl_m M (q_fa fo_29_0 rfl) rfl rfl ?_
 refine wl_m M (q_ldb 1 Tryd.underlying3 rfl rfl rfl rfl) rfl rfl ?_
 refine wl_m M (q_add rfl rfl (IntWalk.i64_in _ (by omega))) rfl rfl ?_
 refine wl_m M (q_fa fo_29_1 rfl) rfl rfl ?_
 refine wl_m M (q_ldb 2 Tryd.underlying3 rfl rfl rfl rfl) rfl rfl ?_
 refine wl_m M (q_build (bd_29_0_1 _ _) ⟨⟨rfl, rfl⟩, ⟨rfl, rfl⟩, trivial⟩) rfl rfl ?_
 refine wl_e (e_alloc M z29) rfl rfl ?_
 rintro _ w8 ⟨b6, rfl, M⟩
 refine wl_e0 (e_stW 0 M rfl rfl rfl sz29 rfl rfl) rfl ?_
 intro _ w9 M
 simp only [sC0, sCS] at M
 refine wl_nil ?_
 refine wc_seq ?_
 refine wc_join (α := Heap × SV × SV) [26, 27, 28, 29, 30, 31, 32, 33] (fun ((I5, u32, u31) : Heap × SV × SV) => []) (fun ((I5, u32, u31) : Heap × SV × SV) w' => hle I I5 ∧ Mem w I I5 (row EArc (sv u32) (a.arcs.map (shA 0) ++ b.arcs.map (shA a.states)) :: row EArc (sv u31) (b.arcs.map (shA a.states)) :: box b6 29 [.int .i64 (a.states + b.states), .int .i64 a.start, .slice none 0 0, sv u32] :: box b4 29 [.int .i64 0, .int .i64 0, .slice none 0 0, .slice none 0 0] :: box b3 29 [.int .i64 b.states, .int .i64 b.start, sv fu2, sv au2] :: box b2 29 [.int .i64 a.states, .int .i64 a.start, sv fu1, sv au1] :: []) w') ?_ ?_
 ·refine wc_draws (fun w' => Mem w I I (box b4 29 [.int .i64 0, .int .i64 0, .slice none 0 0, .slice none 0 0] :: box b3 29 [.int .i64 b.states, .int .i64 b.start, sv fu2, sv au2] :: box b2 29 [.int .i64 a.states, .int .i64 a.start, sv fu1, sv au1] :: []) w' ∧ True) [8] fol ?_
  replace M := M.drew
  have hS := (⟨(M.drop 0), trivial⟩ : _ ∧ _)
  refine wa_q 0 rfl (by kernel_rfl) ((q_ldbA 2 Tryd.underlying29 rfl sz29 rfl rfl rfl rfl).mono fun _ h => h.1) hS rfl rfl ?_
  refine wa_q 2 rfl (by kernel_rfl) ((q_ldbA 1 Tryd.underlying29 rfl sz29 rfl rfl rfl rfl).mono fun _ h => h.1) hS rfl rfl ?_
  refine wa_q 3 rfl (by kernel_rfl) (q_fa fo_29_0 rfl) hS rfl rfl ?_
  refine wa_q 4 rfl (by kernel_rfl) ((q_ldb 2 Tryd.underlying3 rfl rfl rfl rfl).mono fun _ h => h.1) hS rfl rfl ?_
  refine wa_e 1 rfl (by kernel_rfl) (e_callO (val := sv) Tryd.func57 rfl (vs := [.agg #[.int .i64 a.states, .int .i64 a.start, sv fu1, sv au1], .int .i64 0]) rfl (arcsR_c (a := a) 0 (by omega) (fun x hx => by have := rga.arcs x hx; omega) (by omega) ⟨_, _, rfl, Rf1, Ra1⟩ M)) rfl rfl ?_
  rintro _ w10 ⟨u27, rfl, M⟩
  have hS := (⟨((M.drop 0).drop 0), trivial⟩ : _ ∧ _)
  refine ⟨fun _ => hS, ?_⟩
  refine wa_e 5 rfl (by kernel_rfl) (e_callO (val := sv) Tryd.func57 rfl (vs := [.agg #[.int .i64 b.states, .int .i64 b.start, sv fu2, sv au2], .int .i64 a.states]) rfl (arcsR_c (a := b) a.states (by omega) (fun x hx => by have := rgb.arcs x hx; omega) (by omega) ⟨_, _, rfl, Rf2, Ra2⟩ M)) rfl rfl ?_
  rintro _ w11 ⟨u31, rfl, M⟩
  have hS := (⟨(((M.drop 0).drop 0).drop 0), trivial⟩ : _ ∧ _)
  refine ⟨fun _ => hS, ?_⟩
  refine wa_e 6 rfl (by kernel_rfl) (e_app2 1 0 M rfl rfl Tryd.underlying27 rfl rfl (by simp only [List.length_map]; show (_ + _) * 24 ≤ _; omega)) rfl rfl ?_
  rintro _ w12 ⟨u32, rfl, M⟩
  simp only [sC0, sCS] at M
  have hS := (⟨(((M.drop 0).drop 0).drop 0), trivial⟩ : _ ∧ _)
  refine ⟨fun _ => hS, ?_⟩
  refine wa_q 7 rfl (by kernel_rfl) (q_fa fo_29_3 rfl) hS rfl rfl ?_
  refine wa_e0 8 rfl (by kernel_rfl) (e_stb 2 M rfl rfl rfl sz27 rfl rfl) rfl ?_
  intro _ w13 M
  simp only [sC0, sCS] at M
  refine ⟨nofun, ?_⟩
  refine wa_done (by kernel_rfl) ?_
  replace M := M.perm (List.Perm.swap _ _ _)
  exact ⟨(I, u32, u31), ⟨hle.refl _, M⟩, trivial, unw_take 8 rfl rfl⟩
 rintro ⟨I5, u32, u31⟩ jr4 w14 ⟨hI5, M⟩
 have hoI5 := M.old
 refine wc_seq ?_
 refine wc_seq ?_
 refine wc_region ?_
 refine wl_m M (q_fa fo_29_2 rfl) rfl rfl ?_
 refine wl_m M (q_ldb 5 Tryd.underlying26 rfl rfl rfl rfl) rfl rfl ?_
 refine wl_m M (q_lenR (Rf1.mono hI5) Tryd.underlying26 rfl) rfl rfl ?_
 refine wl_mv M rfl rfl ?_
 refine wl_nil ?_
 refine wc_block ?_
 refine wc_loop (α := Nat × SV × (List Arc)) [8, 37, 38, 39, 40, 41, 42, 43, 44, 45, 46, 47, 48, 49, 50, 51, 52, 53] (fun ((k0, u_27_0, l_27_0) : Nat × SV × (List Arc)) => [(37, .int .i64 (k0 : Int))])
   (fun ((k0, u_27_0, l_27_0) : Nat × SV × (List Arc)) w' => (k0 ≤ a.finals.length) ∧ (l_27_0 = (a.arcs.map (shA 0) ++ b.arcs.map (shA a.states)) ++ (a.finals.take k0).map fun f => epsA f (a.states + b.start)) ∧ Mem w I I5 (row EArc (sv u_27_0) l_27_0 :: row EArc (sv u31) (b.arcs.map (shA a.states)) :: box b6 29 [.int .i64 (a.states + b.states), .int .i64 a.start, .slice none 0 0, sv u_27_0] :: box b4 29 [.int .i64 0, .int .i64 0, .slice none 0 0, .slice none 0 0] :: box b3 29 [.int .i64 b.states, .int .i64 b.start, sv fu2, sv au2] :: box b2 29 [.int .i64 a.states, .int .i64 a.start, sv fu1, sv au1] :: []) w')
   (fun ((k0, u_27_0, l_27_0) : Nat × SV × (List Arc)) => a.finals.length - k0) (0, u32, a.arcs.map (shA 0) ++ b.arcs.map (shA a.states)) ⟨rfl, trivial⟩ ?_ ?_
 ·refine ⟨Nat.zero_le _, (by simp), ?_⟩
  exact M
 rintro ⟨k0, u_27_0, l_27_0⟩ jj0 w15 ⟨hk0, haa, M⟩
 have hoI5 := M.old
 refine wc_seq ?_
 refine wc_region ?_
 refine wl_m M (q_lss rfl rfl) rfl rfl ?_
 refine wl_nil ?_
 refine wc_seq ?_
 refine wc_dec rfl (fun ht38 => ?_) (fun ht38 => ?_)
 ·obtain ⟨x0, hx0⟩ : ∃ x_, a.finals[k0]? = some x_ := ⟨_, List.getElem?_eq_getElem (by omega)⟩
  have hll0 := ((Rf1.mono hI5)).len_le
  have hx0r := rga.fin x0 (List.mem_of_getElem? hx0)
  refine wc_skip ?_
  refine wc_seq ?_
  refine wc_block ?_
  refine wc_seq ?_
  refine wc_region ?_
  refine wl_ix (j := k0) M (Rf1.mono hI5) Tryd.underlying26 rfl rfl hx0 rfl (fun b39 o39 p39 => ?_)
  refine wl_m M (q_ldp p39 rfl rfl) rfl rfl ?_
  refine wl_as M rfl rfl ?_
  refine wl_nil ?_
  refine wc_region ?_
  refine wl_m M (q_fa fo_29_3 rfl) rfl rfl ?_
  refine wl_m M (q_ldb 2 Tryd.underlying27 rfl rfl rfl rfl) rfl rfl ?_
  refine wl_mv M rfl rfl ?_
  refine wl_m M (q_fa fo_29_0 rfl) rfl rfl ?_
  refine wl_m M (q_ldb 5 Tryd.underlying3 rfl rfl rfl rfl) rfl rfl ?_
  refine wl_m M (q_fa fo_29_1 rfl) rfl rfl ?_
  refine wl_m M (q_ldb 4 Tryd.underlying3 rfl rfl rfl rfl) rfl rfl ?_
  refine wl_m M (q_add rfl rfl (IntWalk.i64_in _ (by omega))) rfl rfl ?_
  refine wl_m M (q_build (bd_52_0_1 _ _) ⟨⟨rfl, rfl⟩, ⟨rfl, rfl⟩, trivial⟩) rfl rfl ?_
  refine wl_e (e_bsI (E := EArc) (xs := [(Arc.mk x0 (a.states + b.start) 0 0)]) M (bs_27_1 _ _ _ _) ⟨⟨rfl, rfl⟩, trivial⟩ rfl rfl (by decide)) rfl rfl ?_
  rintro _ w16 ⟨u50, J50, rfl, hJ50, R50, M⟩
  have hoJ50 := M.old
  refine wl_e (e_app 0 M rfl R50 Tryd.underlying27 rfl rfl (by rw [haa]; simp only [List.length_append, List.length_map, List.length_take]; show (_ + 1) * 24 ≤ _; omega)) rfl rfl ?_
  rintro _ w17 ⟨u51, rfl, M⟩
  replace M := M.less hJ50 hoI5
  simp only [sC0, sCS] at M
  refine wl_m M (q_fa fo_29_3 rfl) rfl rfl ?_
  refine wl_e0 (e_stb 2 M rfl rfl rfl sz27 rfl rfl) rfl ?_
  intro _ w18 M
  simp only [sC0, sCS] at M
  refine wl_nil ?_
  refine wc_region ?_
  refine wl_m M (q_add rfl rfl (IntWalk.i64_in _ (by omega))) rfl rfl ?_
  refine wl_mv M rfl rfl ?_
  refine wl_nil ?_
  refine ⟨(k0 + 1, u51, l_27_0 ++ [(Arc.mk x0 (a.states + b.start) 0 0)]), ?_, ⟨(by omega), (by rw [take_snoc hx0, List.map_append, ← List.append_assoc, ← haa]; rfl), M⟩, ⟨rfl, trivial⟩, unw_look rfl unw_base⟩
  show a.finals.length - (k0 + 1) < a.finals.length - k0
  omega
 have hke0 : k0 = a.finals.length := by omega
 refine wc_exit rfl ?_
 refine wc_seq ?_
 refine wc_region ?_
 refine wl_m M (q_ldbA 4 Tryd.underlying29 rfl sz29 rfl rfl rfl rfl) rfl rfl ?_
 refine wl_m M (q_fa fo_29_0 rfl) rfl rfl ?_
 refine wl_m M (q_ldb 5 Tryd.underlying3 rfl rfl rfl rfl) rfl rfl ?_
 refine wl_e (e_callO (val := sv) Tryd.func58 rfl (vs := [.agg #[.int .i64 b.states, .int .i64 b.start, sv fu2, sv au2], .int .i64 a.states]) rfl (finalsR_c (a := b) a.states (by omega) (fun x hx => by have := rgb.fin x hx; omega) (by omega) ⟨_, _, rfl, (Rf2.mono hI5), (Ra2.mono hI5)⟩ M)) rfl rfl ?_
 rintro _ w19 ⟨u57, rfl, M⟩
 refine wl_m M (q_fa fo_29_2 rfl) rfl rfl ?_
 refine wl_e0 (e_stb 3 M rfl rfl rfl sz26 rfl rfl) rfl ?_
 intro _ w20 M
 simp only [sC0, sCS] at M
 refine wl_nil ?_
 refine wc_seq ?_
 rw [hke0, List.take_length] at haa
 subst haa
 obtain ⟨I8, M, hI8, Rn⟩ := M.frzRow 0 rfl
 have hoI8 := M.old
 simp only [List.eraseIdx_cons_zero, List.eraseIdx_cons_succ] at M
 obtain ⟨I9, M, hI9, Rm⟩ := M.frzRow 0 rfl
 have hoI9 := M.old
 simp only [List.eraseIdx_cons_zero, List.eraseIdx_cons_succ] at M
 refine wc_region ?_
 refine wl_m M (q_ldbA 1 Tryd.underlying29 rfl sz29 rfl rfl rfl rfl) rfl rfl ?_
 refine wl_e (e_callC M (limited4_c (t := (conR a b)) (m := m + n) (by show a.states + b.states = _; omega) (by omega) (by rw [conR_eq]; exact con_rng rga rgb hsa hsb) (conR_sorted hvb) (by show (conR a b).arcs.length ≤ _; simp only [uniT, conR, conT, staT, revT, List.length_append, List.length_cons, List.length_nil, List.length_map]; omega) (by show (conR a b).finals.length ≤ _; simp only [uniT, conR, conT, staT, revT, List.length_append, List.length_cons, List.length_nil, List.length_map]; omega) M.imm ⟨_, _, rfl, (Rn.mono hI9), Rm⟩) Tryd.func45 rfl rfl) rfl rfl ?_
 rw [conR_eq]
 rintro _ w21 ⟨J60, hJ60, ⟨_, rfl, ⟨fu60, au60, rfl, Rf60, Ra60⟩⟩, M⟩
 have hoJ60 := M.old
 refine wl_m M (q_ext rfl rfl) rfl rfl ?_
 refine wl_m M (q_ext rfl rfl) rfl rfl ?_
 refine wl_e0 (e_stW 2 M rfl rfl rfl sz29 rfl rfl) rfl ?_
 intro _ w22 M
 simp only [sC0, sCS] at M
 refine wl_as M rfl rfl ?_
 refine wl_nil ?_
 refine wc_ret ?_
 exact outc2 rfl rfl (load_boxA M 2 Tryd.underlying29 rfl sz29 rfl rfl rfl) rfl ⟨_, _, rfl, M.grow, _, (FinS (conT a b) (m + n)).1, (FinS (conT a b) (m + n)).2, rfl, ⟨_, _, rfl, Rf60, Ra60⟩, (con_ok hva hvb hsa hsb).symm⟩
theorem star4_c (a : Tra) {v1 : Value} {I : Heap} {w : World} (hI : hle I (hp w)) (R1 : a.rd I v1) :
    Calls A 31 #[v1] w (Ret w I fun r I' => ∃ (v' : Value) (u : Tra) (e : Int), r = .tuple #[v', .int .i64 e] ∧ u.rd I' v' ∧ (u, e) = StaS a) := by
 obtain ⟨fu1, au1, rfl, Rf1, Ra1⟩ := R1
 have M := Mem.start hI
 refine enter Tryd.func31 rfl 45 Tryd.ntmps31 [_] rfl ?_
 refine wc_seq ?_
 refine wc_region ?_
 refine wl_e (e_box M rfl) rfl rfl ?_
 rintro _ w1 ⟨b1, rfl, M⟩
 refine wl_e (e_alloc M z29) rfl rfl ?_
 rintro _ w2 ⟨b2, rfl, M⟩
 refine wl_as M rfl rfl ?_
 refine wl_nil ?_
 refine wc_seq ?_
 refine wc_seq ?_
 refine wc_region ?_
 refine wl_m M (q_ldbA 1 Tryd.underlying29 rfl sz29 rfl rfl rfl rfl) rfl rfl ?_
 refine wl_e (e_callC M (valid4_c a M.imm ⟨_, _, rfl, Rf1, Ra1⟩) Tryd.func56 rfl rfl) rfl rfl ?_
 rintro _ w3 ⟨J8, hJ8, rfl, M⟩
 replace M := M.less hJ8 (fun _ _ => rfl)
 refine wl_m M (q_not rfl) rfl rfl ?_
 refine wl_nil ?_
 refine wc_cond rfl (fun ht9 => ?_) (fun ht9 => ?_)
 ·refine wc_seq ?_
  refine wc_region ?_
  refine wl_m M (q_build (bd_29) trivial) rfl rfl ?_
  refine wl_e0 (e_stW 0 M rfl rfl rfl sz29 rfl rfl) rfl ?_
  intro _ w4 M
  simp only [sC0, sCS] at M
  refine wl_as M rfl rfl ?_
  refine wl_nil ?_
  refine wc_ret ?_
  exact outc2 rfl rfl (load_boxA M 0 Tryd.underlying29 rfl sz29 rfl rfl rfl) rfl ⟨_, _, rfl, M.grow, _, zeroTra, 1, rfl, ⟨nilV, nilV, rfl, rdSl_nil _, rdSl_nil _⟩, (sta_bad ht9).symm⟩
 have hva : validT a = true := by simpa using ht9
 obtain ⟨m, hsa, hma, hla, rga, lba⟩ := valid_all hva
 have hfa := valid_fin hva
 have hsta := rga.start
 refine wc_skip ?_
 refine wc_seq ?_
 refine wc_region ?_
 refine wl_m M (q_fa fo_29_0 rfl) rfl rfl ?_
 refine wl_m M (q_ldb 1 Tryd.underlying3 rfl rfl rfl rfl) rfl rfl ?_
 refine wl_m M (q_add rfl rfl (IntWalk.i64_in _ (by omega))) rfl rfl ?_
 refine wl_e (e_bsI (E := EInt) (xs := [0]) M (bs_26_1 _) ⟨⟨rfl, rfl⟩, trivial⟩ rfl rfl (by decide)) rfl rfl ?_
 rintro _ w5 ⟨u14, J14, rfl, hJ14, R14, M⟩
 have hoJ14 := M.old
 refine wl_m M (q_build (bd_29_0_2 _ _) ⟨⟨rfl, rfl⟩, ⟨rfl, rfl⟩, trivial⟩) rfl rfl ?_
 refine wl_e (e_alloc M z29) rfl rfl ?_
 rintro _ w6 ⟨b4, rfl, M⟩
 refine wl_e0 (e_stW 0 M rfl rfl rfl sz29 rfl rfl) rfl ?_
 intro _ w7 M
 simp only [sC0, sCS] at M
 refine wl_nil ?_
 refine wc_seq ?_
 refine wc_join (α := Heap × SV) [16, 17, 18, 19, 20, 21, 22, 23, 24] (fun ((I5, u23) : Heap × SV) => []) (fun ((I5, u23) : Heap × SV) w' => hle J14 I5 ∧ Mem w I I5 (row EArc (sv u23) (a.arcs.map (shA 1) ++ [epsA 0 (1 + a.start)]) :: box b4 29 [.int .i64 (1 + a.states), .int .i64 0, sv u14, sv u23] :: box b2 29 [.int .i64 0, .int .i64 0, .slice none 0 0, .slice none 0 0] :: box b1 29 [.int .i64 a.states, .int .i64 a.start, sv fu1, sv au1] :: []) w') ?_ ?_
 ·refine wc_draws (fun w' => Mem w I J14 (box b2 29 [.int .i64 0, .int .i64 0, .slice none 0 0, .slice none 0 0] :: box b1 29 [.int .i64 a.states, .int .i64 a.start, sv fu1, sv au1] :: []) w' ∧ True) [9] fol ?_
  replace M := M.drew
  have hS := (⟨(M.drop 0), trivial⟩ : _ ∧ _)
  refine wa_q 0 rfl (by kernel_rfl) ((q_ldbA 1 Tryd.underlying29 rfl sz29 rfl rfl rfl rfl).mono fun _ h => h.1) hS rfl rfl ?_
  refine wa_q 2 rfl (by kernel_rfl) (q_fa fo_29_1 rfl) hS rfl rfl ?_
  refine wa_q 3 rfl (by kernel_rfl) ((q_ldb 1 Tryd.underlying3 rfl rfl rfl rfl).mono fun _ h => h.1) hS rfl rfl ?_
  refine wa_q 4 rfl (by kernel_rfl) (q_add rfl rfl (IntWalk.i64_in _ (by omega))) hS rfl rfl ?_
  refine wa_q 5 rfl (by kernel_rfl) (q_build (bd_52_0_1 _ _) ⟨⟨rfl, rfl⟩, ⟨rfl, rfl⟩, trivial⟩) hS rfl rfl ?_
  refine wa_es [1, 6] (by kernel_rfl) (by decide) ⟨?_, ?_, trivial⟩
  ·refine one_e 1 rfl (e_callO (val := sv) Tryd.func57 rfl (vs := [.agg #[.int .i64 a.states, .int .i64 a.start, sv fu1, sv au1], .int .i64 1]) rfl (arcsR_c (a := a) 1 (by omega) (fun x hx => by have := rga.arcs x hx; omega) (by omega) ⟨_, _, rfl, (Rf1.mono hJ14), (Ra1.mono hJ14)⟩ M)) rfl rfl ?_
   rintro _ w8 ⟨u17, rfl, M⟩
   have hS := (⟨((M.drop 0).drop 0), trivial⟩ : _ ∧ _)
   refine ⟨fun _ => hS, ?_⟩
   refine wa_e 6 rfl (by kernel_rfl) (e_bsI (E := EArc) (xs := [(Arc.mk 0 (1 + a.start) 0 0)]) M (bs_27_1 _ _ _ _) ⟨⟨rfl, rfl⟩, trivial⟩ rfl rfl (by decide)) rfl rfl ?_
   rintro _ w9 ⟨u22, J22, rfl, hJ22, R22, M⟩
   have hoJ22 := M.old
   have hS := (⟨(((M.less hJ22 hoJ14).drop 0).drop 0), trivial⟩ : _ ∧ _)
   refine ⟨fun _ => hS, ?_⟩
   refine wa_e 7 rfl (by kernel_rfl) (e_app 0 M rfl R22 Tryd.underlying27 rfl rfl (by simp only [List.length_map]; show (_ + 1) * 24 ≤ _; omega)) rfl rfl ?_
   rintro _ w10 ⟨u23, rfl, M⟩
   simp only [sC0, sCS] at M
   have hS := (⟨(((M.less hJ22 hoJ14).drop 0).drop 0), trivial⟩ : _ ∧ _)
   refine ⟨fun _ => hS, ?_⟩
   replace M := M.less hJ22 hoJ14
   refine wa_q 8 rfl (by kernel_rfl) (q_fa fo_29_3 rfl) hS rfl rfl ?_
   refine wa_e0 9 rfl (by kernel_rfl) (e_stb 1 M rfl rfl rfl sz27 rfl rfl) rfl ?_
   intro _ w11 M
   simp only [sC0, sCS] at M
   refine ⟨nofun, ?_⟩
   refine wa_done (by kernel_rfl) ?_
   exact ⟨(J14, u23), ⟨hle.refl _, M⟩, trivial, unw_take 9 rfl rfl⟩
  ·refine one_e 6 rfl (e_bsI (E := EArc) (xs := [(Arc.mk 0 (1 + a.start) 0 0)]) M (bs_27_1 _ _ _ _) ⟨⟨rfl, rfl⟩, trivial⟩ rfl rfl (by decide)) rfl rfl ?_
   rintro _ w12 ⟨u22, J22, rfl, hJ22, R22, M⟩
   have hoJ22 := M.old
   have hS := (⟨((M.less hJ22 hoJ14).drop 0), trivial⟩ : _ ∧ _)
   refine ⟨fun _ => hS, ?_⟩
   refine wa_e 1 rfl (by kernel_rfl) (e_callO (val := sv) Tryd.func57 rfl (vs := [.agg #[.int .i64 a.states, .int .i64 a.start, sv fu1, sv au1], .int .i64 1]) rfl (arcsR_c (a := a) 1 (by omega) (fun x hx => by have := rga.arcs x hx; omega) (by omega) ⟨_, _, rfl, ((Rf1.mono hJ14).mono hJ22), ((Ra1.mono hJ14).mono hJ22)⟩ M)) rfl rfl ?_
   rintro _ w13 ⟨u17, rfl, M⟩
   have hS := (⟨(((M.less hJ22 hoJ14).drop 0).drop 0), trivial⟩ : _ ∧ _)
   refine ⟨fun _ => hS, ?_⟩
   refine wa_e 7 rfl (by kernel_rfl) (e_app 0 M rfl R22 Tryd.underlying27 rfl rfl (by simp only [List.length_map]; show (_ + 1) * 24 ≤ _; omega)) rfl rfl ?_
   rintro _ w14 ⟨u23, rfl, M⟩
   simp only [sC0, sCS] at M
   have hS := (⟨(((M.less hJ22 hoJ14).drop 0).drop 0), trivial⟩ : _ ∧ _)
   refine ⟨fun _ => hS, ?_⟩
   replace M := M.less hJ22 hoJ14
   refine wa_q 8 rfl (by kernel_rfl) (q_fa fo_29_3 rfl) hS rfl rfl ?_
   refine wa_e0 9 rfl (by kernel_rfl) (e_stb 1 M rfl rfl rfl sz27 rfl rfl) rfl ?_
   intro _ w15 M
   simp only [sC0, sCS] at M
   refine ⟨nofun, ?_⟩
   refine wa_done (by kernel_rfl) ?_
   exact ⟨(J14, u23), ⟨hle.refl _, M⟩, trivial, unw_take 9 rfl rfl⟩
 rintro ⟨I5, u23⟩ jr4 w16 ⟨hI5, M⟩
 have hoI5 := M.old
 refine wc_seq ?_
 refine wc_seq ?_
 refine wc_region ?_
 refine wl_m M (q_fa fo_29_2 rfl) rfl rfl ?_
 refine wl_m M (q_ldb 3 Tryd.underlying26 rfl rfl rfl rfl) rfl rfl ?_
 refine wl_m M (q_lenR ((Rf1.mono hJ14).mono hI5) Tryd.underlying26 rfl) rfl rfl ?_
 refine wl_mv M rfl rfl ?_
 refine wl_nil ?_
 refine wc_block ?_
 refine wc_loop (α := Nat × SV × (List Arc)) [6, 28, 29, 30, 31, 32, 33, 34, 35, 36, 37, 38, 39, 40] (fun ((k0, u_17_0, l_17_0) : Nat × SV × (List Arc)) => [(28, .int .i64 (k0 : Int))])
   (fun ((k0, u_17_0, l_17_0) : Nat × SV × (List Arc)) w' => (k0 ≤ a.finals.length) ∧ (l_17_0 = (a.arcs.map (shA 1) ++ [epsA 0 (1 + a.start)]) ++ (a.finals.take k0).map fun f => epsA (1 + f) 0) ∧ Mem w I I5 (row EArc (sv u_17_0) l_17_0 :: box b4 29 [.int .i64 (1 + a.states), .int .i64 0, sv u14, sv u_17_0] :: box b2 29 [.int .i64 0, .int .i64 0, .slice none 0 0, .slice none 0 0] :: box b1 29 [.int .i64 a.states, .int .i64 a.start, sv fu1, sv au1] :: []) w')
   (fun ((k0, u_17_0, l_17_0) : Nat × SV × (List Arc)) => a.finals.length - k0) (0, u23, a.arcs.map (shA 1) ++ [epsA 0 (1 + a.start)]) ⟨rfl, trivial⟩ ?_ ?_
 ·refine ⟨Nat.zero_le _, (by simp [epsA]), ?_⟩
  exact M
 rintro ⟨k0, u_17_0, l_17_0⟩ jj0 w17 ⟨hk0, haa, M⟩
 have hoI5 := M.old
 refine wc_seq ?_
 refine wc_region ?_
 refine wl_m M (q_lss rfl rfl) rfl rfl ?_
 refine wl_nil ?_
 refine wc_seq ?_
 refine wc_dec rfl (fun ht29 => ?_) (fun ht29 => ?_)
 ·obtain ⟨x0, hx0⟩ : ∃ x_, a.finals[k0]? = some x_ := ⟨_, List.getElem?_eq_getElem (by omega)⟩
  have hll0 := (((Rf1.mono hJ14).mono hI5)).len_le
  have hx0r := rga.fin x0 (List.mem_of_getElem? hx0)
  refine wc_skip ?_
  refine wc_seq ?_
  refine wc_block ?_
  refine wc_seq ?_
  refine wc_region ?_
  refine wl_ix (j := k0) M ((Rf1.mono hJ14).mono hI5) Tryd.underlying26 rfl rfl hx0 rfl (fun b30 o30 p30 => ?_)
  refine wl_m M (q_ldp p30 rfl rfl) rfl rfl ?_
  refine wl_as M rfl rfl ?_
  refine wl_nil ?_
  refine wc_region ?_
  refine wl_m M (q_fa fo_29_3 rfl) rfl rfl ?_
  refine wl_m M (q_ldb 1 Tryd.underlying27 rfl rfl rfl rfl) rfl rfl ?_
  refine wl_mv M rfl rfl ?_
  refine wl_m M (q_add rfl rfl (IntWalk.i64_in _ (by omega))) rfl rfl ?_
  refine wl_m M (q_build (bd_52_0_1 _ _) ⟨⟨rfl, rfl⟩, ⟨rfl, rfl⟩, trivial⟩) rfl rfl ?_
  refine wl_e (e_bsI (E := EArc) (xs := [(Arc.mk (1 + x0) 0 0 0)]) M (bs_27_1 _ _ _ _) ⟨⟨rfl, rfl⟩, trivial⟩ rfl rfl (by decide)) rfl rfl ?_
  rintro _ w18 ⟨u37, J37, rfl, hJ37, R37, M⟩
  have hoJ37 := M.old
  refine wl_e (e_app 0 M rfl R37 Tryd.underlying27 rfl rfl (by rw [haa]; simp only [List.length_append, List.length_cons, List.length_nil, List.length_map, List.length_take]; show (_ + 1) * 24 ≤ _; omega)) rfl rfl ?_
  rintro _ w19 ⟨u38, rfl, M⟩
  replace M := M.less hJ37 hoI5
  simp only [sC0, sCS] at M
  refine wl_m M (q_fa fo_29_3 rfl) rfl rfl ?_
  refine wl_e0 (e_stb 1 M rfl rfl rfl sz27 rfl rfl) rfl ?_
  intro _ w20 M
  simp only [sC0, sCS] at M
  refine wl_nil ?_
  refine wc_region ?_
  refine wl_m M (q_add rfl rfl (IntWalk.i64_in _ (by omega))) rfl rfl ?_
  refine wl_mv M rfl rfl ?_
  refine wl_nil ?_
  refine ⟨(k0 + 1, u38, l_17_0 ++ [(Arc.mk (1 + x0) 0 0 0)]), ?_, ⟨(by omega), (by rw [take_snoc hx0, List.map_append, ← List.append_assoc, ← haa]; rfl), M⟩, ⟨rfl, trivial⟩, unw_look rfl unw_base⟩
  show a.finals.length - (k0 + 1) < a.finals.length - k0
  omega
 have hke0 : k0 = a.finals.length := by omega
 refine wc_exit rfl ?_
 refine wc_seq ?_
 rw [hke0, List.take_length] at haa
 subst haa
 obtain ⟨I9, M, hI9, Rm⟩ := M.frzRow 0 rfl
 have hoI9 := M.old
 simp only [List.eraseIdx_cons_zero, List.eraseIdx_cons_succ] at M
 refine wc_region ?_
 refine wl_m M (q_ldbA 0 Tryd.underlying29 rfl sz29 rfl rfl rfl rfl) rfl rfl ?_
 refine wl_e (e_callC M (limited4_c (t := (staR a)) (m := 1 + m) (by show 1 + a.states = _; omega) (by omega) (staR_rng (sta_rng rga hsa)) (by show [(0 : Int)].Pairwise _; simp) (by show (staR a).arcs.length ≤ _; simp only [uniT, conT, staR, staT, revT, List.length_append, List.length_cons, List.length_nil, List.length_map]; omega) (by show (staR a).finals.length ≤ _; simp only [uniT, conT, staR, staT, revT, List.length_append, List.length_cons, List.length_nil, List.length_map]; omega) M.imm ⟨_, _, rfl, ((R14.mono hI5).mono hI9), Rm⟩) Tryd.func45 rfl rfl) rfl rfl ?_
 rw [staR_fin]
 rintro _ w21 ⟨J42, hJ42, ⟨_, rfl, ⟨fu42, au42, rfl, Rf42, Ra42⟩⟩, M⟩
 have hoJ42 := M.old
 refine wl_m M (q_ext rfl rfl) rfl rfl ?_
 refine wl_m M (q_ext rfl rfl) rfl rfl ?_
 refine wl_e0 (e_stW 1 M rfl rfl rfl sz29 rfl rfl) rfl ?_
 intro _ w22 M
 simp only [sC0, sCS] at M
 refine wl_as M rfl rfl ?_
 refine wl_nil ?_
 refine wc_ret ?_
 exact outc2 rfl rfl (load_boxA M 1 Tryd.underlying29 rfl sz29 rfl rfl rfl) rfl ⟨_, _, rfl, M.grow, _, (FinS (staT a) (1 + m)).1, (FinS (staT a) (1 + m)).2, rfl, ⟨_, _, rfl, Rf42, Ra42⟩, (sta_ok hva hsa).symm⟩
theorem reverse4_c (a : Tra) {v1 : Value} {I : Heap} {w : World} (hI : hle I (hp w)) (R1 : a.rd I v1) :
    Calls A 33 #[v1] w (Ret w I fun r I' => ∃ (v' : Value) (u : Tra) (e : Int), r = .tuple #[v', .int .i64 e] ∧ u.rd I' v' ∧ (u, e) = RevS a) := by
 obtain ⟨fu1, au1, rfl, Rf1, Ra1⟩ := R1
 have M := Mem.start hI
 refine enter Tryd.func33 rfl 65 Tryd.ntmps33 [_] rfl ?_
 refine wc_seq ?_
 refine wc_region ?_
 refine wl_e (e_box M rfl) rfl rfl ?_
 rintro _ w1 ⟨b1, rfl, M⟩
 refine wl_e (e_alloc M z29) rfl rfl ?_
 rintro _ w2 ⟨b2, rfl, M⟩
 refine wl_as M rfl rfl ?_
 refine wl_nil ?_
 refine wc_seq ?_
 refine wc_seq ?_
 refine wc_region ?_
 refine wl_m M (q_ldbA 1 Tryd.underlying29 rfl sz29 rfl rfl rfl rfl) rfl rfl ?_
 refine wl_e (e_callC M (valid4_c a M.imm ⟨_, _, rfl, Rf1, Ra1⟩) Tryd.func56 rfl rfl) rfl rfl ?_
 rintro _ w3 ⟨J10, hJ10, rfl, M⟩
 replace M := M.less hJ10 (fun _ _ => rfl)
 refine wl_m M (q_not rfl) rfl rfl ?_
 refine wl_nil ?_
 refine wc_cond rfl (fun ht11 => ?_) (fun ht11 => ?_)
 ·refine wc_seq ?_
  refine wc_region ?_
  refine wl_m M (q_build (bd_29) trivial) rfl rfl ?_
  refine wl_e0 (e_stW 0 M rfl rfl rfl sz29 rfl rfl) rfl ?_
  intro _ w4 M
  simp only [sC0, sCS] at M
  refine wl_as M rfl rfl ?_
  refine wl_nil ?_
  refine wc_ret ?_
  exact outc2 rfl rfl (load_boxA M 0 Tryd.underlying29 rfl sz29 rfl rfl rfl) rfl ⟨_, _, rfl, M.grow, _, zeroTra, 1, rfl, ⟨nilV, nilV, rfl, rdSl_nil _, rdSl_nil _⟩, (rev_bad ht11).symm⟩
 have hva : validT a = true := by simpa using ht11
 obtain ⟨m, hsa, hma, hla, rga, lba⟩ := valid_all hva
 have hfa := valid_fin hva
 have hsta := rga.start
 refine wc_skip ?_
 refine wc_seq ?_
 replace M := M.nilRow EArc
 refine wc_region ?_
 refine wl_m M (q_fa fo_29_0 rfl) rfl rfl ?_
 refine wl_m M (q_ldb 2 Tryd.underlying3 rfl rfl rfl rfl) rfl rfl ?_
 refine wl_m M (q_add rfl rfl (IntWalk.i64_in _ (by omega))) rfl rfl ?_
 refine wl_m M (q_fa fo_29_1 rfl) rfl rfl ?_
 refine wl_m M (q_ldb 2 Tryd.underlying3 rfl rfl rfl rfl) rfl rfl ?_
 refine wl_m M (q_add rfl rfl (IntWalk.i64_in _ (by omega))) rfl rfl ?_
 refine wl_e (e_bsI (E := EInt) (xs := [1 + a.start]) M (bs_26_1 _) ⟨⟨rfl, rfl⟩, trivial⟩ rfl rfl (by decide)) rfl rfl ?_
 rintro _ w5 ⟨u19, J19, rfl, hJ19, R19, M⟩
 have hoJ19 := M.old
 refine wl_m M (q_build (bd_29_0_2 _ _) ⟨⟨rfl, rfl⟩, ⟨rfl, rfl⟩, trivial⟩) rfl rfl ?_
 refine wl_e (e_alloc M z29) rfl rfl ?_
 rintro _ w6 ⟨b4, rfl, M⟩
 refine wl_e0 (e_stW 0 M rfl rfl rfl sz29 rfl rfl) rfl ?_
 intro _ w7 M
 simp only [sC0, sCS] at M
 refine wl_nil ?_
 refine wc_seq ?_
 refine wc_seq ?_
 refine wc_region ?_
 refine wl_m M (q_fa fo_29_3 rfl) rfl rfl ?_
 refine wl_m M (q_ldb 3 Tryd.underlying27 rfl rfl rfl rfl) rfl rfl ?_
 refine wl_m M (q_lenR (Ra1.mono hJ19) Tryd.underlying27 rfl) rfl rfl ?_
 refine wl_mv M rfl rfl ?_
 refine wl_nil ?_
 refine wc_block ?_
 refine wc_loop (α := Nat × SV × (List Arc)) [6, 24, 25, 26, 27, 28, 29, 30, 31, 32, 33, 34, 35, 36, 37, 38, 39, 40, 41, 42, 43, 44] (fun ((k0, u_a_0, l_a_0) : Nat × SV × (List Arc)) => [(24, .int .i64 (k0 : Int))])
   (fun ((k0, u_a_0, l_a_0) : Nat × SV × (List Arc)) w' => (k0 ≤ a.arcs.length) ∧ (l_a_0 = (a.arcs.take k0).map revA) ∧ Mem w I J19 (box b4 29 [.int .i64 (1 + a.states), .int .i64 0, sv u19, sv u_a_0] :: row EArc (sv u_a_0) l_a_0 :: box b2 29 [.int .i64 0, .int .i64 0, .slice none 0 0, .slice none 0 0] :: box b1 29 [.int .i64 a.states, .int .i64 a.start, sv fu1, sv au1] :: []) w')
   (fun ((k0, u_a_0, l_a_0) : Nat × SV × (List Arc)) => a.arcs.length - k0) (0, nilV, []) ⟨rfl, trivial⟩ ?_ ?_
 ·refine ⟨Nat.zero_le _, rfl, ?_⟩
  exact M
 rintro ⟨k0, u_a_0, l_a_0⟩ jj0 w8 ⟨hk0, haa, M⟩
 have hoJ19 := M.old
 refine wc_seq ?_
 refine wc_region ?_
 refine wl_m M (q_lss rfl rfl) rfl rfl ?_
 refine wl_nil ?_
 refine wc_seq ?_
 refine wc_dec rfl (fun ht25 => ?_) (fun ht25 => ?_)
 ·obtain ⟨x0, hx0⟩ : ∃ x_, a.arcs[k0]? = some x_ := ⟨_, List.getElem?_eq_getElem (by omega)⟩
  have hll0 := ((Ra1.mono hJ19)).len_le
  have hx0r := rga.arcs x0 (List.mem_of_getElem? hx0)
  refine wc_skip ?_
  refine wc_seq ?_
  refine wc_block ?_
  refine wc_seq ?_
  refine wc_region ?_
  refine wl_ix (j := k0) M (Ra1.mono hJ19) Tryd.underlying27 rfl rfl hx0 rfl (fun b26 o26 p26 => ?_)
  refine wl_m M (q_ldp p26 rfl rfl) rfl rfl ?_
  refine wl_e (e_alloc M z52) rfl rfl ?_
  rintro _ w9 ⟨b6, rfl, M⟩
  refine wl_e0 (e_stW 0 M rfl rfl rfl sz52 rfl rfl) rfl ?_
  intro _ w10 M
  simp only [sC0, sCS] at M
  refine wl_nil ?_
  refine wc_region ?_
  refine wl_m M (q_fa fo_29_3 rfl) rfl rfl ?_
  refine wl_m M (q_ldb 1 Tryd.underlying27 rfl rfl rfl rfl) rfl rfl ?_
  refine wl_m M (q_fa fo_52_1 rfl) rfl rfl ?_
  refine wl_m M (q_ldb 0 Tryd.underlying3 rfl rfl rfl rfl) rfl rfl ?_
  refine wl_m M (q_add rfl rfl (IntWalk.i64_in _ (by omega))) rfl rfl ?_
  refine wl_m M (q_fa fo_52_0 rfl) rfl rfl ?_
  refine wl_m M (q_ldb 0 Tryd.underlying3 rfl rfl rfl rfl) rfl rfl ?_
  refine wl_m M (q_add rfl rfl (IntWalk.i64_in _ (by omega))) rfl rfl ?_
  refine wl_m M (q_fa fo_52_2 rfl) rfl rfl ?_
  refine wl_m M (q_ldb 0 Tryd.underlying21 rfl rfl rfl rfl) rfl rfl ?_
  refine wl_m M (q_fa fo_52_3 rfl) rfl rfl ?_
  refine wl_m M (q_ldb 0 Tryd.underlying21 rfl rfl rfl rfl) rfl rfl ?_
  refine wl_m M (q_build (bd_52_0_1_2_3 _ _ _ _) ⟨⟨rfl, rfl⟩, ⟨rfl, rfl⟩, ⟨rfl, rfl⟩, ⟨rfl, rfl⟩, trivial⟩) rfl rfl ?_
  refine wl_e (e_bsI (E := EArc) (xs := [(Arc.mk (1 + x0.dst) (1 + x0.src) x0.inp x0.out)]) M (bs_27_1 _ _ _ _) ⟨⟨rfl, rfl⟩, trivial⟩ rfl rfl (by decide)) rfl rfl ?_
  rintro _ w11 ⟨u41, J41, rfl, hJ41, R41, M⟩
  have hoJ41 := M.old
  refine wl_e (e_app 2 M rfl R41 Tryd.underlying27 rfl rfl (by rw [haa]; simp only [List.length_map, List.length_take]; show (_ + 1) * 24 ≤ _; omega)) rfl rfl ?_
  rintro _ w12 ⟨u42, rfl, M⟩
  replace M := M.less hJ41 hoJ19
  simp only [sC0, sCS] at M
  refine wl_m M (q_fa fo_29_3 rfl) rfl rfl ?_
  refine wl_e0 (e_stb 1 M rfl rfl rfl sz27 rfl rfl) rfl ?_
  intro _ w13 M
  simp only [sC0, sCS] at M
  refine wl_nil ?_
  refine wc_region ?_
  refine wl_m M (q_add rfl rfl (IntWalk.i64_in _ (by omega))) rfl rfl ?_
  refine wl_mv M rfl rfl ?_
  refine wl_nil ?_
  replace M := M.drop 0
  refine ⟨(k0 + 1, u42, l_a_0 ++ [(Arc.mk (1 + x0.dst) (1 + x0.src) x0.inp x0.out)]), ?_, ⟨(by omega), (by rw [take_snoc hx0, List.map_append, ← haa]; rfl), M⟩, ⟨rfl, trivial⟩, unw_look rfl unw_base⟩
  show a.arcs.length - (k0 + 1) < a.arcs.length - k0
  omega
 have hke0 : k0 = a.arcs.length := by omega
 rw [hke0, List.take_length] at haa
 refine wc_exit rfl ?_
 refine wc_seq ?_
 refine wc_seq ?_
 refine wc_region ?_
 refine wl_m M (q_fa fo_29_2 rfl) rfl rfl ?_
 refine wl_m M (q_ldb 3 Tryd.underlying26 rfl rfl rfl rfl) rfl rfl ?_
 refine wl_m M (q_lenR (Rf1.mono hJ19) Tryd.underlying26 rfl) rfl rfl ?_
 refine wl_mv M rfl rfl ?_
 refine wl_nil ?_
 refine wc_block ?_
 refine wc_loop (α := Nat × SV × (List Arc)) [8, 48, 49, 50, 51, 52, 53, 54, 55, 56, 57, 58, 59, 60] (fun ((k2, u_a_2, l_a_2) : Nat × SV × (List Arc)) => [(48, .int .i64 (k2 : Int))])
   (fun ((k2, u_a_2, l_a_2) : Nat × SV × (List Arc)) w' => (k2 ≤ a.finals.length) ∧ (l_a_2 = a.arcs.map revA ++ (a.finals.take k2).map fun f => epsA 0 (1 + f)) ∧ Mem w I J19 (box b4 29 [.int .i64 (1 + a.states), .int .i64 0, sv u19, sv u_a_2] :: row EArc (sv u_a_2) l_a_2 :: box b2 29 [.int .i64 0, .int .i64 0, .slice none 0 0, .slice none 0 0] :: box b1 29 [.int .i64 a.states, .int .i64 a.start, sv fu1, sv au1] :: []) w')
   (fun ((k2, u_a_2, l_a_2) : Nat × SV × (List Arc)) => a.finals.length - k2) (0, u_a_0, l_a_0) ⟨rfl, trivial⟩ ?_ ?_
 ·refine ⟨Nat.zero_le _, (by simp [haa]), ?_⟩
  exact M
 rintro ⟨k2, u_a_2, l_a_2⟩ jj2 w14 ⟨hk2, haa2, M⟩
 have hoJ19 := M.old
 refine wc_seq ?_
 refine wc_region ?_
 refine wl_m M (q_lss rfl rfl) rfl rfl ?_
 refine wl_nil ?_
 refine wc_seq ?_
 refine wc_dec rfl (fun ht49 => ?_) (fun ht49 => ?_)
 ·obtain ⟨x2, hx2⟩ : ∃ x_, a.finals[k2]? = some x_ := ⟨_, List.getElem?_eq_getElem (by omega)⟩
  have hll2 := ((Rf1.mono hJ19)).len_le
  have hx2r := rga.fin x2 (List.mem_of_getElem? hx2)
  refine wc_skip ?_
  refine wc_seq ?_
  refine wc_block ?_
  refine wc_seq ?_
  refine wc_region ?_
  refine wl_ix (j := k2) M (Rf1.mono hJ19) Tryd.underlying26 rfl rfl hx2 rfl (fun b50 o50 p50 => ?_)
  refine wl_m M (q_ldp p50 rfl rfl) rfl rfl ?_
  refine wl_as M rfl rfl ?_
  refine wl_nil ?_
  refine wc_region ?_
  refine wl_m M (q_fa fo_29_3 rfl) rfl rfl ?_
  refine wl_m M (q_ldb 0 Tryd.underlying27 rfl rfl rfl rfl) rfl rfl ?_
  refine wl_mv M rfl rfl ?_
  refine wl_m M (q_add rfl rfl (IntWalk.i64_in _ (by omega))) rfl rfl ?_
  refine wl_m M (q_build (bd_52_0_1 _ _) ⟨⟨rfl, rfl⟩, ⟨rfl, rfl⟩, trivial⟩) rfl rfl ?_
  refine wl_e (e_bsI (E := EArc) (xs := [(Arc.mk 0 (1 + x2) 0 0)]) M (bs_27_1 _ _ _ _) ⟨⟨rfl, rfl⟩, trivial⟩ rfl rfl (by decide)) rfl rfl ?_
  rintro _ w15 ⟨u57, J57, rfl, hJ57, R57, M⟩
  have hoJ57 := M.old
  refine wl_e (e_app 1 M rfl R57 Tryd.underlying27 rfl rfl (by rw [haa2]; simp only [List.length_append, List.length_map, List.length_take]; show (_ + 1) * 24 ≤ _; omega)) rfl rfl ?_
  rintro _ w16 ⟨u58, rfl, M⟩
  replace M := M.less hJ57 hoJ19
  simp only [sC0, sCS] at M
  refine wl_m M (q_fa fo_29_3 rfl) rfl rfl ?_
  refine wl_e0 (e_stb 0 M rfl rfl rfl sz27 rfl rfl) rfl ?_
  intro _ w17 M
  simp only [sC0, sCS] at M
  refine wl_nil ?_
  refine wc_region ?_
  refine wl_m M (q_add rfl rfl (IntWalk.i64_in _ (by omega))) rfl rfl ?_
  refine wl_mv M rfl rfl ?_
  refine wl_nil ?_
  refine ⟨(k2 + 1, u58, l_a_2 ++ [(Arc.mk 0 (1 + x2) 0 0)]), ?_, ⟨(by omega), (by rw [take_snoc hx2, List.map_append, ← List.append_assoc, ← haa2]; rfl), M⟩, ⟨rfl, trivial⟩, unw_look rfl unw_base⟩
  show a.finals.length - (k2 + 1) < a.finals.length - k2
  omega
 have hke2 : k2 = a.finals.length := by omega
 refine wc_exit rfl ?_
 refine wc_seq ?_
 rw [hke2, List.take_length] at haa2
 subst haa2
 obtain ⟨I9, M, hI9, Rm⟩ := M.frzRow 1 rfl
 have hoI9 := M.old
 simp only [List.eraseIdx_cons_zero, List.eraseIdx_cons_succ] at M
 refine wc_region ?_
 refine wl_m M (q_ldbA 0 Tryd.underlying29 rfl sz29 rfl rfl rfl rfl) rfl rfl ?_
 refine wl_e (e_callC M (limited4_c (t := (revR a)) (m := 1 + m) (by show 1 + a.states = _; omega) (by omega) (revR_rng (rev_rng rga hsa)) (by show [1 + a.start].Pairwise _; simp) (by show (revR a).arcs.length ≤ _; simp only [uniT, conT, staT, revR, revT, List.length_append, List.length_cons, List.length_nil, List.length_map]; omega) (by show (revR a).finals.length ≤ _; simp only [uniT, conT, staT, revR, revT, List.length_append, List.length_cons, List.length_nil, List.length_map]; omega) M.imm ⟨_, _, rfl, (R19.mono hI9), Rm⟩) Tryd.func45 rfl rfl) rfl rfl ?_
 rw [revR_fin]
 rintro _ w18 ⟨J62, hJ62, ⟨_, rfl, ⟨fu62, au62, rfl, Rf62, Ra62⟩⟩, M⟩
 have hoJ62 := M.old
 refine wl_m M (q_ext rfl rfl) rfl rfl ?_
 refine wl_m M (q_ext rfl rfl) rfl rfl ?_
 refine wl_e0 (e_stW 1 M rfl rfl rfl sz29 rfl rfl) rfl ?_
 intro _ w19 M
 simp only [sC0, sCS] at M
 refine wl_as M rfl rfl ?_
 refine wl_nil ?_
 refine wc_ret ?_
 exact outc2 rfl rfl (load_boxA M 1 Tryd.underlying29 rfl sz29 rfl rfl rfl) rfl ⟨_, _, rfl, M.grow, _, (FinS (revT a) (1 + m)).1, (FinS (revT a) (1 + m)).2, rfl, ⟨_, _, rfl, Rf62, Ra62⟩, (rev_ok hva hsa).symm⟩
end Go.Proofs.YtoilmeiikgegcaaDoor.G
