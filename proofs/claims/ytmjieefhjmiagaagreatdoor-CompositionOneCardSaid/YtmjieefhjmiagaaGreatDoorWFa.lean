/- Walks of the program's functions. -/
import Derived.Test.YtmjieefhjmiagaaGreatDoorGFnc
import Derived.Test.YtmjieefhjmiagaaGreatDoorWA
set_option linter.all false
namespace Go.Proofs.YtmjieefhjmiagaaGreatDoor.G
open Go Go.RowKit
theorem movesP_c {t : Tra} {m p i : Nat} (hp1 : p < m) (hal : t.arcs.length ≤ 4096) {l : List Int} (hl : l.length ≤ 100000) {v1 : Value} {u : SV} {I : Heap} {w : World} (hI : hle I (hp w)) (R1 : rdMat EArc VArc I v1 (lv m t.arcs)) (Rl : rdSl ERune I (sv u) l) :
    Calls A 83 #[v1, sv u, EPos.val (Pos.mk (p : Int) (i : Int))] w (Ret w I fun r I' => rdSl EArc I' r (posE t l (Pos.mk (p : Int) (i : Int)))) := by
 have M := Mem.start hI
 refine enter Tryz.func83 rfl 46 Tryz.ntmps83 [_, _, _] rfl ?_
 refine wc_seq ?_
 refine wc_region ?_
 refine wl_e (e_box M rfl) rfl rfl ?_
 rintro _ w1 ⟨b5, rfl, M⟩
 refine wl_as M rfl rfl ?_
 refine wl_nil ?_
 refine wc_seq ?_
 refine wc_region ?_
 refine wl_as M rfl rfl ?_
 replace M := M.nilRow EArc
 refine wl_nil ?_
 refine wc_seq ?_
 refine wc_seq ?_
 refine wc_region ?_
 refine wl_mv M rfl rfl ?_
 refine wl_m M (q_fa fo_159_0 rfl) rfl rfl ?_
 refine wl_m M (q_ldb 1 Tryz.underlying3 rfl rfl rfl rfl) rfl rfl ?_
 obtain ⟨os13, u13, Ro13, ho13, R13⟩ := (R1).at_ (lv_at hp1)
 replace R13 : rdSl EArc I (sv u13) ((t.outs (p : Int))) := R13
 refine wl_ix (j := p) M Ro13 Tryz.underlying75 rfl rfl ho13 rfl (fun b13 o13 p13 => ?_)
 refine wl_m M (q_ldp p13 rfl rfl) rfl rfl ?_
 refine wl_m M (q_lenR R13 Tryz.underlying23 rfl) rfl rfl ?_
 refine wl_mv M rfl rfl ?_
 refine wl_nil ?_
 refine wc_block ?_
 refine wc_loop (α := Nat × SV × (List Arc)) [7, 9, 16, 17, 18, 19, 20, 21, 22, 23, 24, 25, 26, 27, 28, 29, 30, 31, 32, 33, 34, 35, 36, 37, 38, 39, 40, 41, 42, 43, 44] (fun ((k0, u_7_0, l_7_0) : Nat × SV × (List Arc)) => [(16, .int .i64 (k0 : Int)), (7, sv u_7_0)])
   (fun ((k0, u_7_0, l_7_0) : Nat × SV × (List Arc)) w' => (k0 ≤ (t.outs (p : Int)).length) ∧ (l_7_0 = ((t.outs (p : Int)).take k0).filter (mvB l i)) ∧ Mem w I I (row EArc (sv u_7_0) l_7_0 :: box b5 159 [.int .i64 (p : Int), .int .i64 (i : Int)] :: []) w')
   (fun ((k0, u_7_0, l_7_0) : Nat × SV × (List Arc)) => (t.outs (p : Int)).length - k0) (0, nilV, []) ⟨rfl, rfl, trivial⟩ ?_ ?_
 ·refine ⟨Nat.zero_le _, rfl, ?_⟩
  exact M
 rintro ⟨k0, u_7_0, l_7_0⟩ jj0 w2 ⟨hk0, hl7, M⟩
 refine wc_seq ?_
 refine wc_region ?_
 refine wl_m M (q_lss rfl rfl) rfl rfl ?_
 refine wl_nil ?_
 refine wc_seq ?_
 refine wc_dec rfl (fun ht17 => ?_) (fun ht17 => ?_)
 ·obtain ⟨x0, hx0⟩ : ∃ x_, (t.outs (p : Int))[k0]? = some x_ := ⟨_, List.getElem?_eq_getElem (by omega)⟩
  have hll0 := (R13).len_le
  refine wc_skip ?_
  refine wc_seq ?_
  refine wc_block ?_
  refine wc_seq ?_
  refine wc_region ?_
  refine wl_ix (j := k0) M R13 Tryz.underlying23 rfl rfl hx0 rfl (fun b18 o18 p18 => ?_)
  refine wl_m M (q_ldp p18 rfl rfl) rfl rfl ?_
  refine wl_e (e_alloc M z51) rfl rfl ?_
  rintro _ w3 ⟨b9, rfl, M⟩
  refine wl_e0 (e_stW 0 M rfl rfl rfl sz51 rfl rfl) rfl ?_
  intro _ w4 M
  simp only [sC0, sCS] at M
  refine wl_nil ?_
  refine wc_seq ?_
  refine wc_join (α := Unit) [20, 21, 22, 23, 24, 25, 26, 27, 28, 29, 30, 31, 32, 33, 34, 35, 36, 37, 38, 39] (fun _ => [(39, .bool ((decide (x0.inp = 0)) || ((decide ((i : Int) < (l.length : Int))) && (decide ((l.getD i 0) = x0.inp)))))]) (fun _ w' => Mem w I I (box b9 51 [.int .i64 x0.src, .int .i64 x0.dst, .int .i32 x0.inp, .int .i32 x0.out] :: row EArc (sv u_7_0) l_7_0 :: box b5 159 [.int .i64 (p : Int), .int .i64 (i : Int)] :: []) w') ?_ ?_
  ·refine wc_draws (fun w' => Mem w I I (box b9 51 [.int .i64 x0.src, .int .i64 x0.dst, .int .i32 x0.inp, .int .i32 x0.out] :: row EArc (sv u_7_0) l_7_0 :: box b5 159 [.int .i64 (p : Int), .int .i64 (i : Int)] :: []) w' ∧ True) [] fol ?_
   replace M := M.drew
   have hS := (⟨M, trivial⟩ : _ ∧ _)
   refine wa_q 0 rfl (by kernel_rfl) (q_fa fo_51_2 rfl) hS rfl rfl ?_
   refine wa_q 1 rfl (by kernel_rfl) ((q_ldb 0 Tryz.underlying21 rfl rfl rfl rfl).mono fun _ h => h.1) hS rfl rfl ?_
   refine wa_q 2 rfl (by kernel_rfl) (q_eql rfl rfl) hS rfl rfl ?_
   refine wa_q 3 rfl (by kernel_rfl) (q_move rfl) hS rfl rfl ?_
   rcases Bool.eq_false_or_eq_true (decide (x0.inp = 0)) with hg23 | hg23
   ·refine wa_q 4 rfl (by kernel_rfl) (q_off 3 rfl rfl rfl hg23) hS rfl rfl ?_
    refine wa_q 5 rfl (by kernel_rfl) (q_off 3 rfl rfl rfl hg23) hS rfl rfl ?_
    refine wa_q 6 rfl (by kernel_rfl) (q_off 3 rfl rfl rfl hg23) hS rfl rfl ?_
    refine wa_q 7 rfl (by kernel_rfl) (q_off 3 rfl rfl rfl hg23) hS rfl rfl ?_
    refine wa_q 8 rfl (by kernel_rfl) (q_off 3 rfl rfl rfl hg23) hS rfl rfl ?_
    refine wa_q 9 rfl (by kernel_rfl) (q_off 3 rfl rfl rfl hg23) hS rfl rfl ?_
    refine wa_q 10 rfl (by kernel_rfl) (q_offu 9 rfl rfl rfl) hS rfl rfl ?_
    refine wa_q 11 rfl (by kernel_rfl) (q_offu 9 rfl rfl rfl) hS rfl rfl ?_
    refine wa_q 12 rfl (by kernel_rfl) (q_offu 9 rfl rfl rfl) hS rfl rfl ?_
    refine wa_q 13 rfl (by kernel_rfl) (q_offu 9 rfl rfl rfl) hS rfl rfl ?_
    refine wa_q 14 rfl (by kernel_rfl) (q_offu 9 rfl rfl rfl) hS rfl rfl ?_
    refine wa_q 15 rfl (by kernel_rfl) (q_offu 9 rfl rfl rfl) hS rfl rfl ?_
    refine wa_q 16 rfl (by kernel_rfl) (q_offu 9 rfl rfl rfl) hS rfl rfl ?_
    refine wa_q 17 rfl (by kernel_rfl) (q_offu 9 rfl rfl rfl) hS rfl rfl ?_
    refine wa_q 18 rfl (by kernel_rfl) (q_off 3 rfl rfl rfl hg23) hS rfl rfl ?_
    refine wa_q 19 rfl (by kernel_rfl) (q_pickT rfl hg23 rfl) hS rfl rfl ?_
    refine wa_done (by kernel_rfl) ?_
    exact ⟨(), M, ⟨(show some (Value.bool true) = some (Value.bool ((decide (x0.inp = 0)) || ((decide ((i : Int) < (l.length : Int))) && (decide ((l.getD i 0) = x0.inp))))) from by first | (simp only [hg23, Bool.true_or, Bool.false_or, Bool.true_and, Bool.false_and, Bool.or_true, Bool.or_false, Bool.and_true, Bool.and_false]; done) | (simp_all; done) | (simp_all; omega)), trivial⟩, unw_take 20 rfl rfl⟩
   refine wa_q 4 rfl (by kernel_rfl) (q_guard 3 rfl rfl rfl hg23 (q_fa fo_159_1 rfl)) hS rfl rfl ?_
   refine wa_q 5 rfl (by kernel_rfl) ((q_guard 3 rfl rfl rfl hg23 (q_ldb 2 Tryz.underlying3 rfl rfl rfl rfl)).mono fun _ h => h.1) hS rfl rfl ?_
   refine wa_q 6 rfl (by kernel_rfl) (q_guard 3 rfl rfl rfl hg23 (q_move rfl)) hS rfl rfl ?_
   refine wa_q 7 rfl (by kernel_rfl) (q_guard 3 rfl rfl rfl hg23 (q_lenR Rl Tryz.underlying29 rfl)) hS rfl rfl ?_
   refine wa_q 8 rfl (by kernel_rfl) (q_guard 3 rfl rfl rfl hg23 (q_lss rfl rfl)) hS rfl rfl ?_
   refine wa_q 9 rfl (by kernel_rfl) (q_guard 3 rfl rfl rfl hg23 (q_move rfl)) hS rfl rfl ?_
   rcases Bool.eq_false_or_eq_true (decide ((i : Int) < (l.length : Int))) with hg29 | hg29
   ·refine wa_q 10 rfl (by kernel_rfl) (q_guard 9 rfl rfl rfl hg29 (q_move rfl)) hS rfl rfl ?_
    refine wa_q 11 rfl (by kernel_rfl) (q_guard 9 rfl rfl rfl hg29 (q_fa fo_159_1 rfl)) hS rfl rfl ?_
    refine wa_q 12 rfl (by kernel_rfl) ((q_guard 9 rfl rfl rfl hg29 (q_ldb 2 Tryz.underlying3 rfl rfl rfl rfl)).mono fun _ h => h.1) hS rfl rfl ?_
    have hg29n := of_decide_eq_true hg29
    refine wa_ixSG (j := i) 9 rfl rfl rfl hg29 13 hS (fun _ h => Rl.mono h.1.imm) rfl (by kernel_rfl) Tryz.underlying29 rfl rfl (getD_at (d := 0) (by omega)) rfl (fun b33 o33 p33 => ?_)
    refine wa_q 14 rfl (by kernel_rfl) (q_guard 9 rfl rfl rfl hg29 (q_ldp p33 rfl rfl)) hS rfl rfl ?_
    refine wa_q 15 rfl (by kernel_rfl) (q_guard 9 rfl rfl rfl hg29 (q_fa fo_51_2 rfl)) hS rfl rfl ?_
    refine wa_q 16 rfl (by kernel_rfl) ((q_guard 9 rfl rfl rfl hg29 (q_ldb 0 Tryz.underlying21 rfl rfl rfl rfl)).mono fun _ h => h.1) hS rfl rfl ?_
    refine wa_q 17 rfl (by kernel_rfl) (q_guard 9 rfl rfl rfl hg29 (q_eql rfl rfl)) hS rfl rfl ?_
    refine wa_q 18 rfl (by kernel_rfl) (q_guard 3 rfl rfl rfl hg23 (q_pickT rfl hg29 rfl)) hS rfl rfl ?_
    refine wa_q 19 rfl (by kernel_rfl) (q_pickF rfl hg23 rfl) hS rfl rfl ?_
    refine wa_done (by kernel_rfl) ?_
    exact ⟨(), M, ⟨(show some (Value.bool (decide ((l.getD i 0) = x0.inp))) = some (Value.bool ((decide (x0.inp = 0)) || ((decide ((i : Int) < (l.length : Int))) && (decide ((l.getD i 0) = x0.inp))))) from by first | (simp only [hg23, hg29, Bool.true_or, Bool.false_or, Bool.true_and, Bool.false_and, Bool.or_true, Bool.or_false, Bool.and_true, Bool.and_false]; done) | (simp_all; done) | (simp_all; omega)), trivial⟩, unw_take 20 rfl rfl⟩
   refine wa_q 10 rfl (by kernel_rfl) (q_off 9 rfl rfl rfl hg29) hS rfl rfl ?_
   refine wa_q 11 rfl (by kernel_rfl) (q_off 9 rfl rfl rfl hg29) hS rfl rfl ?_
   refine wa_q 12 rfl (by kernel_rfl) (q_off 9 rfl rfl rfl hg29) hS rfl rfl ?_
   refine wa_q 13 rfl (by kernel_rfl) (q_off 9 rfl rfl rfl hg29) hS rfl rfl ?_
   refine wa_q 14 rfl (by kernel_rfl) (q_off 9 rfl rfl rfl hg29) hS rfl rfl ?_
   refine wa_q 15 rfl (by kernel_rfl) (q_off 9 rfl rfl rfl hg29) hS rfl rfl ?_
   refine wa_q 16 rfl (by kernel_rfl) (q_off 9 rfl rfl rfl hg29) hS rfl rfl ?_
   refine wa_q 17 rfl (by kernel_rfl) (q_off 9 rfl rfl rfl hg29) hS rfl rfl ?_
   refine wa_q 18 rfl (by kernel_rfl) (q_guard 3 rfl rfl rfl hg23 (q_pickF rfl hg29 rfl)) hS rfl rfl ?_
   refine wa_q 19 rfl (by kernel_rfl) (q_pickF rfl hg23 rfl) hS rfl rfl ?_
   refine wa_done (by kernel_rfl) ?_
   exact ⟨(), M, ⟨(show some (Value.bool false) = some (Value.bool ((decide (x0.inp = 0)) || ((decide ((i : Int) < (l.length : Int))) && (decide ((l.getD i 0) = x0.inp))))) from by first | (simp only [hg23, hg29, Bool.true_or, Bool.false_or, Bool.true_and, Bool.false_and, Bool.or_true, Bool.or_false, Bool.and_true, Bool.and_false]; done) | (simp_all; done) | (simp_all; omega)), trivial⟩, unw_take 20 rfl rfl⟩
  rintro _ jr5 w5 M
  refine wc_cond rfl (fun ht39 => ?_) (fun ht39 => ?_)
  ·refine wc_region ?_
   refine wl_mv M rfl rfl ?_
   refine wl_m M (q_ldbA 0 Tryz.underlying51 rfl sz51 rfl rfl rfl rfl) rfl rfl ?_
   refine wl_e (e_bsI (E := EArc) (xs := [x0]) M (bs_23_1 _ _ _ _) ⟨⟨rfl, rfl⟩, trivial⟩ rfl rfl (by decide)) rfl rfl ?_
   rintro _ w6 ⟨u42, J42, rfl, hJ42, R42, M⟩
   have hoJ42 := M.old
   refine wl_e (e_app 1 M rfl R42 Tryz.underlying23 rfl rfl (by rw [hl7]; have h1 := List.length_filter_le (mvB l i) ((t.outs (p : Int)).take k0); have h2 := t.outs_len (p : Int); rw [List.length_take] at h1; show (_ + 1) * 24 ≤ _; omega)) rfl rfl ?_
   rintro _ w7 ⟨u43, rfl, M⟩
   replace M := M.less hJ42 (fun _ _ => rfl)
   simp only [sC0, sCS] at M
   refine wl_as M rfl rfl ?_
   refine wl_nil ?_
   refine wc_region ?_
   refine wl_m M (q_add rfl rfl (IntWalk.i64_in _ (by omega))) rfl rfl ?_
   refine wl_mv M rfl rfl ?_
   refine wl_nil ?_
   replace M := M.drop 0
   refine ⟨(k0 + 1, u43, l_7_0 ++ [x0]), ?_, ⟨(by omega), (by rw [take_snoc hx0, List.filter_append, hl7, List.filter_cons_of_pos (show mvB l i x0 = true from ht39)]; rfl), M⟩, ⟨rfl, rfl, trivial⟩, unw_look rfl (unw_hav rfl (unw_look rfl unw_base))⟩
   show (t.outs (p : Int)).length - (k0 + 1) < (t.outs (p : Int)).length - k0
   omega
  refine wc_skip ?_
  refine wc_region ?_
  refine wl_m M (q_add rfl rfl (IntWalk.i64_in _ (by omega))) rfl rfl ?_
  refine wl_mv M rfl rfl ?_
  refine wl_nil ?_
  replace M := M.drop 0
  refine ⟨(k0 + 1, u_7_0, l_7_0), ?_, ⟨(by omega), (by rw [take_snoc hx0, List.filter_append, hl7, List.filter_cons_of_neg (by rw [show mvB l i x0 = false from ht39]; decide), List.filter_nil, List.append_nil]), M⟩, ⟨rfl, rfl, trivial⟩, unw_look rfl (unw_hav rfl (unw_look rfl unw_base))⟩
  show (t.outs (p : Int)).length - (k0 + 1) < (t.outs (p : Int)).length - k0
  omega
 have hke0 : k0 = (t.outs (p : Int)).length := by omega
 rw [hke0, List.take_length] at hl7
 refine wc_exit rfl ?_
 refine wc_seq ?_
 refine wc_region ?_
 refine wl_mv M rfl rfl ?_
 refine wl_as M rfl rfl ?_
 refine wl_nil ?_
 refine wc_ret ?_
 obtain ⟨K1, M, hK1, Rk1⟩ := M.frzRow 0 rfl
 rw [hl7] at Rk1
 exact out1 rfl rfl ⟨_, K1, rfl, (M.grow : Grow w I _ K1), Rk1⟩
theorem afterP_c (q : Pos) (x : Arc) (hq : 0 ≤ q.read ∧ q.read ≤ 1000000) {I : Heap} {w : World} (hI : hle I (hp w)) :
    Calls A 84 #[EPos.val q, EArc.val x] w (Ret w I fun r _ => r = EPos.val (aftP q x)) := by
 have M := Mem.start hI
 refine enter Tryz.func84 rfl 19 Tryz.ntmps84 [_, _] rfl ?_
 refine wc_seq ?_
 refine wc_region ?_
 refine wl_e (e_box M rfl) rfl rfl ?_
 rintro _ w1 ⟨b2, rfl, M⟩
 refine wl_e (e_box M rfl) rfl rfl ?_
 rintro _ w2 ⟨b3, rfl, M⟩
 refine wl_e (e_alloc M z159) rfl rfl ?_
 rintro _ w3 ⟨b4, rfl, M⟩
 refine wl_nil ?_
 refine wc_seq ?_
 refine wc_seq ?_
 refine wc_region ?_
 refine wl_m M (q_fa fo_51_2 rfl) rfl rfl ?_
 refine wl_m M (q_ldb 1 Tryz.underlying21 rfl rfl rfl rfl) rfl rfl ?_
 refine wl_m M (q_eql rfl rfl) rfl rfl ?_
 refine wl_nil ?_
 refine wc_dec rfl (fun ht7 => ?_) (fun ht7 => ?_)
 ·refine wc_seq ?_
  refine wc_region ?_
  refine wl_m M (q_fa fo_51_1 rfl) rfl rfl ?_
  refine wl_m M (q_ldb 1 Tryz.underlying3 rfl rfl rfl rfl) rfl rfl ?_
  refine wl_m M (q_fa fo_159_1 rfl) rfl rfl ?_
  refine wl_m M (q_ldb 2 Tryz.underlying3 rfl rfl rfl rfl) rfl rfl ?_
  refine wl_m M (q_build (bd_159_0_1 _ _) ⟨⟨rfl, rfl⟩, ⟨rfl, rfl⟩, trivial⟩) rfl rfl ?_
  refine wl_e0 (e_stW 0 M rfl rfl rfl sz159 rfl rfl) rfl ?_
  intro _ w4 M
  simp only [sC0, sCS] at M
  refine wl_nil ?_
  refine wc_ret ?_
  exact outc rfl rfl (load_boxA M 0 Tryz.underlying159 rfl sz159 rfl rfl rfl) ⟨_, _, rfl, M.grow, by rw [aftP, if_pos ht7]; rfl⟩
 refine wc_skip ?_
 refine wc_seq ?_
 refine wc_region ?_
 refine wl_m M (q_fa fo_51_1 rfl) rfl rfl ?_
 refine wl_m M (q_ldb 1 Tryz.underlying3 rfl rfl rfl rfl) rfl rfl ?_
 refine wl_m M (q_fa fo_159_1 rfl) rfl rfl ?_
 refine wl_m M (q_ldb 2 Tryz.underlying3 rfl rfl rfl rfl) rfl rfl ?_
 refine wl_m M (q_add rfl rfl (IntWalk.i64_in _ (by omega))) rfl rfl ?_
 refine wl_m M (q_build (bd_159_0_1 _ _) ⟨⟨rfl, rfl⟩, ⟨rfl, rfl⟩, trivial⟩) rfl rfl ?_
 refine wl_e0 (e_stW 0 M rfl rfl rfl sz159 rfl rfl) rfl ?_
 intro _ w5 M
 simp only [sC0, sCS] at M
 refine wl_nil ?_
 refine wc_ret ?_
 exact outc rfl rfl (load_boxA M 0 Tryz.underlying159 rfl sz159 rfl rfl rfl) ⟨_, _, rfl, M.grow, by rw [aftP, if_neg ht7]; rfl⟩
end Go.Proofs.YtmjieefhjmiagaaGreatDoor.G
