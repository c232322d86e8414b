/- Walks of the program's functions. -/
import Derived.Test.YtfepjcmjkaolgaaWRa
import Derived.Test.YtfepjcmjkaolgaaGMov
set_option linter.all false
namespace Go.Proofs.Ytfepjcmjkaolgaa.G
open Go Go.RowKit
theorem moves_c (t : Tra) {m : Nat} (ha : t.Ok m) {l : List Int} (hl : l.length ≤ 100000) {u : SV} {v1 : Value} {I : Heap} {w : World} (hI : hle I (hp w)) (R1 : t.rd I v1) (Rl : rdSl ERune I (sv u) l) :
    Calls A 38 #[v1, sv u] w (Ret w I fun r I' => ∃ K : List TCfg, rdSl EMove I' r (K.flatMap (tcE t l)) ∧ Closure (tcN t l) (· = ⟨t.start, 0⟩) K ∧ K.length ≤ m * (l.length + 1)) := by
 obtain ⟨fu1, au1, rfl, Rf1, Ra1⟩ := R1
 have hU : m * (l.length + 1) ≤ 512 * 100001 := Nat.mul_le_mul ha.le (by omega)
 have hrc := tc_rect (l := l) ha.arcs ha.start
 have M := Mem.start hI
 refine enter Try.func38 rfl 89 Try.ntmps38 [_, _] rfl ?_
 refine wc_seq <| wc_region <| wl_e (e_box M rfl) rfl rfl ?_
 rintro _ w1 ⟨b2, rfl, M⟩
 refine wl_as M rfl rfl <| wl_nil ?_
 refine wc_seq <| wc_region <| wl_m M (q_ldbA 0 Try.underlying25 rfl sz25 rfl rfl rfl rfl) rfl rfl <| wl_e (e_callC M (leavingT_c t m ha.st ha.le (fun x hx => (ha.arcs x hx).1) ha.alen M.imm ⟨_, _, rfl, Rf1, Ra1⟩) Try.func46 rfl rfl) rfl rfl ?_
 rintro v15 w2 ⟨J15, hJ15, R15, M⟩
 obtain ⟨u15, rfl⟩ := rdMat_slice R15
 have hoJ15 := M.old
 refine wl_as M rfl rfl <| wl_nil ?_
 refine wc_seq <| wc_region <| wl_m M (q_fa fo_25_1 rfl) rfl rfl <| wl_m M (q_ldb 0 Try.underlying3 rfl rfl rfl rfl) rfl rfl <| wl_m M (q_build (bd_58_0 _) ⟨⟨rfl, rfl⟩, trivial⟩) rfl rfl <| wl_e (e_alloc M z58) rfl rfl ?_
 rintro _ w3 ⟨b6, rfl, M⟩
 refine wl_e0 (e_stW 0 M rfl rfl rfl sz58 rfl rfl) rfl ?_
 intro _ w4 M
 simp only [sC0, sCS] at M
 refine wl_nil ?_
 refine wc_seq <| wc_region <| wl_e (e_mkm QTCfg Value.bool M) rfl rfl ?_
 rintro _ w5 ⟨b19, rfl, M⟩
 refine wl_m M (q_ldbA 1 Try.underlying58 rfl sz58 rfl rfl rfl rfl) rfl rfl ?_
 refine wl_e0 (e_mpi (k := (TCfg.mk t.start 0)) (v := true) 0 M rfl Try.underlying69 rfl rfl rfl) rfl ?_
 intro _ w6 M
 simp only [sC0, sCS] at M
 refine wl_mv M rfl rfl <| wl_as M rfl rfl <| wl_nil ?_
 refine wc_seq <| wc_region <| wl_as M rfl rfl ?_
 replace M := M.nilRow EMove
 refine wl_nil ?_
 refine wc_seq ?_
 refine wc_seq <| wc_region <| wl_m M (q_ldbA 2 Try.underlying58 rfl sz58 rfl rfl rfl rfl) rfl rfl <| wl_e (e_bsR (E := ETCfg) (xs := [(TCfg.mk t.start 0)]) M (bs_56_1 _ _) ⟨⟨rfl, rfl⟩, trivial⟩ rfl rfl (by decide)) rfl rfl ?_
 rintro _ w7 ⟨u23, rfl, M⟩
 refine wl_as M rfl rfl <| wl_nil <| wc_block ?_
 refine wc_loop (α := (List TCfg) × SV × (List TCfg) × (List (TCfg × Bool)) × SV × (List Move)) [8, 9, 10, 12, 13, 24, 25, 26, 27, 28, 29, 30, 31, 32, 33, 34, 35, 36, 37, 38, 39, 40, 41, 42, 43, 44, 45, 46, 47, 48, 49, 50, 51, 52, 53, 54, 55, 56, 57, 58, 59, 60, 61, 62, 63, 64, 65, 66, 67, 68, 69, 70, 71, 72, 73, 74, 75, 76, 77, 78, 79, 80, 81, 82, 83, 84, 85, 86, 87] (fun ((vs, u_23_0, l_23_0, m_19_0, u_8_0, l_8_0) : (List TCfg) × SV × (List TCfg) × (List (TCfg × Bool)) × SV × (List Move)) => [(8, sv u_8_0), (9, sv u_23_0)])
   (fun ((vs, u_23_0, l_23_0, m_19_0, u_8_0, l_8_0) : (List TCfg) × SV × (List TCfg) × (List (TCfg × Bool)) × SV × (List Move)) w' => (Bfs (tcN t l) (· = TCfg.mk t.start 0) vs l_23_0) ∧ (m_19_0 = tr (vs ++ l_23_0)) ∧ (l_8_0 = vs.flatMap (tcE t l)) ∧ Mem w I J15 (row ETCfg (sv u_23_0) l_23_0 :: row EMove (sv u_8_0) l_8_0 :: mpr QTCfg Value.bool b19 m_19_0 :: box b6 58 [.int .i64 t.start, .int .i64 0] :: box b2 25 [.int .i64 t.states, .int .i64 t.start, sv fu1, sv au1] :: []) w')
   (fun ((vs, u_23_0, l_23_0, m_19_0, u_8_0, l_8_0) : (List TCfg) × SV × (List TCfg) × (List (TCfg × Bool)) × SV × (List Move)) => (rect2 m l.length).length - vs.length) ([], u23, [(TCfg.mk t.start 0)], aput [] (TCfg.mk t.start 0) true, nilV, []) ⟨rfl, rfl, trivial⟩ ?_ ?_
 ·refine ⟨Bfs.init _ _, rfl, rfl, ?_⟩
  exact M
 rintro ⟨vs, u_23_0, l_23_0, m_19_0, u_8_0, l_8_0⟩ jj0 w8 ⟨hB, hm, hl8, M⟩
 have hoJ15 := M.old
 refine wc_seq ?_
 refine wc_seq <| wc_region <| wl_mv M rfl rfl <| wl_m M (q_lenr 0 M rfl Try.underlying56 rfl) rfl rfl <| wl_m M (q_gtr rfl rfl) rfl rfl <| wl_nil ?_
 refine wc_dec rfl (fun ht26 => ?_) (fun ht26 => ?_)
 ·obtain ⟨p, i, qs, hq⟩ : ∃ (p i : Nat) (qs : List TCfg), l_23_0 = TCfg.mk p i :: qs := by
    cases l_23_0 with
    | nil => simp at ht26
    | cons x qs =>
      obtain ⟨p, i, e, _⟩ := mem_rect2.1 (hrc x (hB.reach x (by simp)))
      exact ⟨p, i, qs, by rw [e]⟩
  obtain ⟨hp1, hi1⟩ : p < m ∧ i ≤ l.length := by
    obtain ⟨p', i', e, h1, h2⟩ := mem_rect2.1 (hrc _ (hB.reach (TCfg.mk p i) (by rw [hq]; simp)))
    simp only [TCfg.mk.injEq] at e
    omega
  refine wc_skip ?_
  refine wc_seq <| wc_block ?_
  refine wc_seq <| wc_region <| wl_mv M rfl rfl ?_
  refine wl_ixr (j := 0) 0 M rfl Try.underlying56 rfl rfl (by rw [hq]; rfl) rfl (fun b30 o30 p30 => ?_)
  refine wl_m M (q_ldp p30 rfl rfl) rfl rfl <| wl_e (e_alloc M z58) rfl rfl ?_
  rintro _ w9 ⟨b10, rfl, M⟩
  refine wl_e0 (e_stW 0 M rfl rfl rfl sz58 rfl rfl) rfl ?_
  intro _ w10 M
  simp only [sC0, sCS] at M
  refine wl_nil ?_
  refine wc_seq <| wc_region <| wl_mv M rfl rfl <| wl_m M (q_fa fo_58_0 rfl) rfl rfl <| wl_m M (q_ldb 0 Try.underlying3 rfl rfl rfl rfl) rfl rfl ?_
  obtain ⟨os35, u35, Ro35, ho35, R35⟩ := (R15).at_ (lv_at hp1)
  replace R35 : rdSl EArc J15 (sv u35) ((t.outs p)) := R35
  refine wl_ix (j := p) M Ro35 Try.underlying79 rfl rfl ho35 rfl (fun b35 o35 p35 => ?_)
  refine wl_m M (q_ldp p35 rfl rfl) rfl rfl <| wl_m M (q_lenR R35 Try.underlying23 rfl) rfl rfl <| wl_mv M rfl rfl <| wl_nil <| wc_block ?_
  refine wc_loop (α := Nat × SV × (List TCfg) × (List (TCfg × Bool)) × SV × (List Move)) [8, 9, 12, 13, 38, 39, 40, 41, 42, 43, 44, 45, 46, 47, 48, 49, 50, 51, 52, 53, 54, 55, 56, 57, 58, 59, 60, 61, 62, 63, 64, 65, 66, 67, 68, 69, 70, 71, 72, 73, 74, 75, 76, 77, 78, 79, 80, 81, 82, 83, 84, 85, 86, 87] (fun ((k2, u_23_2, l_23_2, m_19_2, u_8_2, l_8_2) : Nat × SV × (List TCfg) × (List (TCfg × Bool)) × SV × (List Move)) => [(38, .int .i64 (k2 : Int)), (8, sv u_8_2), (9, sv u_23_2)])
    (fun ((k2, u_23_2, l_23_2, m_19_2, u_8_2, l_8_2) : Nat × SV × (List TCfg) × (List (TCfg × Bool)) × SV × (List Move)) w' => (k2 ≤ (t.outs p).length) ∧ (BfsIn (tcN t l) (· = TCfg.mk t.start 0) vs (TCfg.mk p i) ((((t.outs (p : Int)).take k2).flatMap (mv1 l (TCfg.mk p i))).map (·.dst)) l_23_2.tail) ∧ (l_23_2 = (TCfg.mk p i) :: l_23_2.tail) ∧ (m_19_2 = tr (vs ++ l_23_2)) ∧ (l_8_2 = vs.flatMap (tcE t l) ++ ((t.outs (p : Int)).take k2).flatMap (mv1 l (TCfg.mk p i))) ∧ Mem w I J15 (box b10 58 [.int .i64 (p : Int), .int .i64 (i : Int)] :: row ETCfg (sv u_23_2) l_23_2 :: row EMove (sv u_8_2) l_8_2 :: mpr QTCfg Value.bool b19 m_19_2 :: box b6 58 [.int .i64 t.start, .int .i64 0] :: box b2 25 [.int .i64 t.states, .int .i64 t.start, sv fu1, sv au1] :: []) w')
    (fun ((k2, u_23_2, l_23_2, m_19_2, u_8_2, l_8_2) : Nat × SV × (List TCfg) × (List (TCfg × Bool)) × SV × (List Move)) => (t.outs p).length - k2) (0, u_23_0, l_23_0, m_19_0, u_8_0, l_8_0) ⟨rfl, rfl, rfl, trivial⟩ ?_ ?_
  ·refine ⟨Nat.zero_le _, (by have := hB; rw [hq] at this; rw [hq]; exact this.opn), (by rw [hq]; rfl), hm, (by rw [hl8]; simp), ?_⟩
   exact M
  rintro ⟨k2, u_23_2, l_23_2, m_19_2, u_8_2, l_8_2⟩ jj2 w11 ⟨hk2, hB2, hc2, hm2, hl2, M⟩
  have hoJ15 := M.old
  refine wc_seq <| wc_region <| wl_m M (q_lss rfl rfl) rfl rfl <| wl_nil ?_
  refine wc_seq ?_
  refine wc_dec rfl (fun ht39 => ?_) (fun ht39 => ?_)
  ·obtain ⟨x2, hx2⟩ : ∃ x_, (t.outs p)[k2]? = some x_ := ⟨_, List.getElem?_eq_getElem (by omega)⟩
   have hll2 := (R35).len_le
   refine wc_skip ?_
   refine wc_seq <| wc_block ?_
   refine wc_seq <| wc_region ?_
   refine wl_ix (j := k2) M R35 Try.underlying23 rfl rfl hx2 rfl (fun b40 o40 p40 => ?_)
   refine wl_m M (q_ldp p40 rfl rfl) rfl rfl <| wl_e (e_alloc M z50) rfl rfl ?_
   rintro _ w12 ⟨b12, rfl, M⟩
   refine wl_e0 (e_stW 0 M rfl rfl rfl sz50 rfl rfl) rfl ?_
   intro _ w13 M
   simp only [sC0, sCS] at M
   refine wl_nil ?_
   refine wc_seq <| wc_region <| wl_m M (q_fa fo_50_1 rfl) rfl rfl <| wl_m M (q_ldb 0 Try.underlying3 rfl rfl rfl rfl) rfl rfl <| wl_m M (q_fa fo_58_1 rfl) rfl rfl <| wl_m M (q_ldb 1 Try.underlying3 rfl rfl rfl rfl) rfl rfl <| wl_m M (q_build (bd_58_0_1 _ _) ⟨⟨rfl, rfl⟩, ⟨rfl, rfl⟩, trivial⟩) rfl rfl <| wl_e (e_alloc M z58) rfl rfl ?_
   rintro _ w14 ⟨b13, rfl, M⟩
   refine wl_e0 (e_stW 0 M rfl rfl rfl sz58 rfl rfl) rfl ?_
   intro _ w15 M
   simp only [sC0, sCS] at M
   refine wl_nil ?_
   refine wc_seq ?_
   refine wc_seq <| wc_region <| wl_m M (q_fa fo_50_2 rfl) rfl rfl <| wl_m M (q_ldb 1 Try.underlying21 rfl rfl rfl rfl) rfl rfl <| wl_m M (q_neq rfl rfl) rfl rfl <| wl_nil ?_
   refine wc_cond rfl (fun ht49 => ?_) (fun ht49 => ?_)
   ·refine wc_seq ?_
    refine wc_seq ?_
    refine wc_join (α := Unit) [50, 51, 52, 53, 54, 55, 56, 57, 58, 59, 60, 61, 62, 63, 64] (fun _ => [(64, .bool ((decide ((i : Int) = (l.length : Int))) || (!decide ((l.getD i 0) = x2.inp))))]) (fun _ w' => Mem w I J15 (box b13 58 [.int .i64 x2.dst, .int .i64 (i : Int)] :: box b12 50 [.int .i64 x2.src, .int .i64 x2.dst, .int .i32 x2.inp, .int .i32 x2.out] :: box b10 58 [.int .i64 (p : Int), .int .i64 (i : Int)] :: row ETCfg (sv u_23_2) l_23_2 :: row EMove (sv u_8_2) l_8_2 :: mpr QTCfg Value.bool b19 m_19_2 :: box b6 58 [.int .i64 t.start, .int .i64 0] :: box b2 25 [.int .i64 t.states, .int .i64 t.start, sv fu1, sv au1] :: []) w') ?_ ?_
    ·refine wc_draws (fun w' => Mem w I J15 (box b13 58 [.int .i64 x2.dst, .int .i64 (i : Int)] :: box b12 50 [.int .i64 x2.src, .int .i64 x2.dst, .int .i32 x2.inp, .int .i32 x2.out] :: box b10 58 [.int .i64 (p : Int), .int .i64 (i : Int)] :: row ETCfg (sv u_23_2) l_23_2 :: row EMove (sv u_8_2) l_8_2 :: mpr QTCfg Value.bool b19 m_19_2 :: box b6 58 [.int .i64 t.start, .int .i64 0] :: box b2 25 [.int .i64 t.states, .int .i64 t.start, sv fu1, sv au1] :: []) w' ∧ True) [] fol ?_
     replace M := M.drew
     have hS := (⟨M, trivial⟩ : _ ∧ _)
     refine wa_q 0 rfl (by kernel_rfl) (q_fa fo_58_1 rfl) hS rfl rfl ?_
     refine wa_q 1 rfl (by kernel_rfl) ((q_ldb 2 Try.underlying3 rfl rfl rfl rfl).mono fun _ h => h.1) hS rfl rfl ?_
     refine wa_q 2 rfl (by kernel_rfl) (q_move rfl) hS rfl rfl ?_
     refine wa_q 3 rfl (by kernel_rfl) (q_lenR (Rl.mono hJ15) Try.underlying40 rfl) hS rfl rfl ?_
     refine wa_q 4 rfl (by kernel_rfl) (q_eql rfl rfl) hS rfl rfl ?_
     refine wa_q 5 rfl (by kernel_rfl) (q_move rfl) hS rfl rfl ?_
     rcases Bool.eq_false_or_eq_true (decide ((i : Int) = (l.length : Int))) with hg55 | hg55
     ·refine wa_q 6 rfl (by kernel_rfl) (q_off 5 rfl rfl rfl hg55) hS rfl rfl ?_
      refine wa_q 7 rfl (by kernel_rfl) (q_off 5 rfl rfl rfl hg55) hS rfl rfl ?_
      refine wa_q 8 rfl (by kernel_rfl) (q_off 5 rfl rfl rfl hg55) hS rfl rfl ?_
      refine wa_q 9 rfl (by kernel_rfl) (q_off 5 rfl rfl rfl hg55) hS rfl rfl ?_
      refine wa_q 10 rfl (by kernel_rfl) (q_off 5 rfl rfl rfl hg55) hS rfl rfl ?_
      refine wa_q 11 rfl (by kernel_rfl) (q_off 5 rfl rfl rfl hg55) hS rfl rfl ?_
      refine wa_q 12 rfl (by kernel_rfl) (q_off 5 rfl rfl rfl hg55) hS rfl rfl ?_
      refine wa_q 13 rfl (by kernel_rfl) (q_off 5 rfl rfl rfl hg55) hS rfl rfl ?_
      refine wa_q 14 rfl (by kernel_rfl) (q_pickT rfl hg55 rfl) hS rfl rfl ?_
      refine wa_done (by kernel_rfl) ?_
      exact ⟨(), M, ⟨(show some (Value.bool true) = some (Value.bool ((decide ((i : Int) = (l.length : Int))) || (!decide ((l.getD i 0) = x2.inp)))) from by first | (simp only [hg55, bL8]; done) | (simp_all; done) | (simp_all; omega)), trivial⟩, unw_take 15 rfl rfl⟩
     refine wa_q 6 rfl (by kernel_rfl) (q_guard 5 rfl rfl rfl hg55 (q_move rfl)) hS rfl rfl ?_
     refine wa_q 7 rfl (by kernel_rfl) (q_guard 5 rfl rfl rfl hg55 (q_fa fo_58_1 rfl)) hS rfl rfl ?_
     refine wa_q 8 rfl (by kernel_rfl) ((q_guard 5 rfl rfl rfl hg55 (q_ldb 2 Try.underlying3 rfl rfl rfl rfl)).mono fun _ h => h.1) hS rfl rfl ?_
     have hg55n := of_decide_eq_false hg55
     refine wa_ixSG (j := i) 5 rfl rfl rfl hg55 9 hS (fun _ h => (Rl.mono hJ15).mono h.1.imm) rfl (by kernel_rfl) Try.underlying40 rfl rfl (getD_at (d := 0) (by omega)) rfl (fun b59 o59 p59 => ?_)
     refine wa_q 10 rfl (by kernel_rfl) (q_guard 5 rfl rfl rfl hg55 (q_ldp p59 rfl rfl)) hS rfl rfl ?_
     refine wa_q 11 rfl (by kernel_rfl) (q_guard 5 rfl rfl rfl hg55 (q_fa fo_50_2 rfl)) hS rfl rfl ?_
     refine wa_q 12 rfl (by kernel_rfl) ((q_guard 5 rfl rfl rfl hg55 (q_ldb 1 Try.underlying21 rfl rfl rfl rfl)).mono fun _ h => h.1) hS rfl rfl ?_
     refine wa_q 13 rfl (by kernel_rfl) (q_guard 5 rfl rfl rfl hg55 (q_neq rfl rfl)) hS rfl rfl ?_
     refine wa_q 14 rfl (by kernel_rfl) (q_pickF rfl hg55 rfl) hS rfl rfl ?_
     refine wa_done (by kernel_rfl) ?_
     exact ⟨(), M, ⟨(show some (Value.bool (!decide ((l.getD i 0) = x2.inp))) = some (Value.bool ((decide ((i : Int) = (l.length : Int))) || (!decide ((l.getD i 0) = x2.inp)))) from by first | (simp only [hg55, bL8]; done) | (simp_all; done) | (simp_all; omega)), trivial⟩, unw_take 15 rfl rfl⟩
    rintro _ jr14 w16 M
    refine wc_cond rfl (fun ht64 => ?_) (fun ht64 => ?_)
    ·have hf2 : fitB l (i : Int) x2.inp = false := fit_or hi1 (nd_t ht49) ht64
     refine wc_exit rfl <| wc_region <| wl_m M (q_add rfl rfl (IntWalk.i64_in _ (by omega))) rfl rfl ?_
     refine wl_mv M rfl rfl <| wl_nil ?_
     replace M := M.drop 0
     replace M := M.drop 0
     refine ⟨(k2 + 1, u_23_2, l_23_2, m_19_2, u_8_2, l_8_2), ?_, ⟨(by omega), (by rw [take_flat hx2, mv1_no hf2, List.append_nil]; exact hB2), hc2, hm2, (by rw [take_flat hx2, mv1_no hf2, List.append_nil]; exact hl2), M⟩, ⟨rfl, rfl, rfl, trivial⟩, unw_look rfl (unw_hav rfl (unw_look rfl unw_base))⟩
     show (t.outs p).length - (k2 + 1) < (t.outs p).length - k2
     omega
    have hf2 : fitB l (i : Int) x2.inp = true := fit_or hi1 (nd_t ht49) ht64
    have he2 : eatK i x2.inp = (i : Int) + 1 := eatK_ne (nd_t ht49)
    refine wc_skip <| wc_region <| wl_m M (q_fa fo_58_1 rfl) rfl rfl <| wl_m M (q_ldb 0 Try.underlying3 rfl rfl rfl rfl) rfl rfl <| wl_m M (q_add rfl rfl (IntWalk.i64_in _ (by omega))) rfl rfl ?_
    refine wl_m M (q_fa fo_58_1 rfl) rfl rfl ?_
    refine wl_e0 (e_stb 0 M rfl rfl rfl sz3 rfl rfl) rfl ?_
    intro _ w17 M
    simp only [sC0, sCS] at M
    refine wl_nil ?_
    refine wc_seq <| wc_region <| wl_mv M rfl rfl <| wl_m M (q_ldbA 2 Try.underlying58 rfl sz58 rfl rfl rfl rfl) rfl rfl <| wl_m M (q_ldbA 0 Try.underlying58 rfl sz58 rfl rfl rfl rfl) rfl rfl <| wl_m M (q_fa fo_50_3 rfl) rfl rfl <| wl_m M (q_ldb 1 Try.underlying21 rfl rfl rfl rfl) rfl rfl <| wl_m M (q_build (bd_68_0_1_2 _ _ _ _ _) ⟨⟨rfl, rfl⟩, ⟨rfl, rfl⟩, ⟨rfl, rfl⟩, trivial⟩) rfl rfl <| wl_e (e_bsI (E := EMove) (xs := [(Move.mk (TCfg.mk p i) (TCfg.mk x2.dst ((i : Int) + 1)) x2.out)]) M (bs_59_1 _ _ _ _ _) ⟨⟨rfl, rfl⟩, trivial⟩ rfl rfl (by decide)) rfl rfl ?_
    rintro _ w18 ⟨u75, J75, rfl, hJ75, R75, M⟩
    have hoJ75 := M.old
    refine wl_e (e_app 4 M rfl R75 Try.underlying59 rfl rfl (by have h0 : vs.length ≤ 51200512 := (by have := hB2.len hrc; rw [rect2_len] at this; omega); have h1 := flat_len (tcE_len t l) vs; have h2 := Nat.mul_le_mul h0 ha.alen; have h3 := take_flat_len (mv1_len l (TCfg.mk p i)) (t.outs p) k2; have h4 := t.outs_len p; have h5 := ha.alen; rw [hl2, List.length_append]; show (_ + 1) * 40 ≤ _; omega)) rfl rfl ?_
    rintro _ w19 ⟨u76, rfl, M⟩
    replace M := M.less hJ75 hoJ15
    simp only [sC0, sCS] at M
    refine wl_as M rfl rfl <| wl_nil ?_
    refine wc_seq <| wc_region <| wl_mv M rfl rfl <| wl_m M (q_ldbA 0 Try.underlying58 rfl sz58 rfl rfl rfl rfl) rfl rfl <| wl_m M (q_lk (k := (TCfg.mk x2.dst ((i : Int) + 1))) (z := false) 5 rfl Try.underlying69 zv4 rfl rfl) rfl rfl <| wl_m M (q_not rfl) rfl rfl <| wl_nil ?_
    refine wc_cond rfl (fun ht80 => ?_) (fun ht80 => ?_)
    ·rw [hm2, aget_tr] at ht80
     have hnk := nd_t ht80
     refine wc_seq <| wc_region <| wl_mv M rfl rfl <| wl_m M (q_ldbA 0 Try.underlying58 rfl sz58 rfl rfl rfl rfl) rfl rfl ?_
     refine wl_e0 (e_mpu (k := (TCfg.mk x2.dst ((i : Int) + 1))) (v := true) 5 M rfl Try.underlying69 rfl rfl rfl) rfl ?_
     intro _ w20 M
     simp only [sC0, sCS] at M
     refine wl_nil <| wc_region <| wl_mv M rfl rfl <| wl_m M (q_ldbA 0 Try.underlying58 rfl sz58 rfl rfl rfl rfl) rfl rfl <| wl_e (e_bsI (E := ETCfg) (xs := [(TCfg.mk x2.dst ((i : Int) + 1))]) M (bs_56_1 _ _) ⟨⟨rfl, rfl⟩, trivial⟩ rfl rfl (by decide)) rfl rfl ?_
     rintro _ w21 ⟨u85, J85, rfl, hJ85, R85, M⟩
     have hoJ85 := M.old
     refine wl_e (e_app 3 M rfl R85 Try.underlying56 rfl rfl (by have := hB2.len hrc; rw [rect2_len] at this; have := congrArg List.length hc2; rw [List.length_cons] at this; show (_ + 1) * 16 ≤ _; omega)) rfl rfl ?_
     rintro _ w22 ⟨u86, rfl, M⟩
     replace M := M.less hJ85 hoJ15
     simp only [sC0, sCS] at M
     refine wl_as M rfl rfl <| wl_nil <| wc_region <| wl_m M (q_add rfl rfl (IntWalk.i64_in _ (by omega))) rfl rfl ?_
     refine wl_mv M rfl rfl <| wl_nil ?_
     replace M := M.drop 0
     replace M := M.drop 0
     refine ⟨(k2 + 1, u86, l_23_2 ++ [(TCfg.mk x2.dst ((i : Int) + 1))], aput m_19_2 (TCfg.mk x2.dst ((i : Int) + 1)) true, u76, l_8_2 ++ [(Move.mk (TCfg.mk p i) (TCfg.mk x2.dst ((i : Int) + 1)) x2.out)]), ?_, ⟨(by omega), (by rw [take_flat hx2, mv1_yes hf2 he2, List.map_append]; exact hB2.pushT hc2 hnk (List.mem_map.2 ⟨_, List.mem_flatMap.2 ⟨x2, List.mem_of_getElem? hx2, by rw [mv1_yes hf2 he2]; exact List.mem_singleton.2 rfl⟩, rfl⟩)), (snocT hc2), (by rw [hm2, aput_tr hnk]; congr 1; simp), (by rw [take_flat hx2, mv1_yes hf2 he2, ← List.append_assoc, ← hl2]), M⟩, ⟨rfl, rfl, rfl, trivial⟩, unw_look rfl (unw_hav rfl (unw_look rfl unw_base))⟩
     show (t.outs p).length - (k2 + 1) < (t.outs p).length - k2
     omega
    rw [hm2, aget_tr] at ht80
    have hnk := nd_f ht80
    refine wc_skip <| wc_region <| wl_m M (q_add rfl rfl (IntWalk.i64_in _ (by omega))) rfl rfl ?_
    refine wl_mv M rfl rfl <| wl_nil ?_
    replace M := M.drop 0
    replace M := M.drop 0
    refine ⟨(k2 + 1, u_23_2, l_23_2, m_19_2, u76, l_8_2 ++ [(Move.mk (TCfg.mk p i) (TCfg.mk x2.dst ((i : Int) + 1)) x2.out)]), ?_, ⟨(by omega), (by rw [take_flat hx2, mv1_yes hf2 he2, List.map_append]; exact hB2.knownT hc2 hnk), hc2, hm2, (by rw [take_flat hx2, mv1_yes hf2 he2, ← List.append_assoc, ← hl2]), M⟩, ⟨rfl, rfl, rfl, trivial⟩, unw_look rfl (unw_hav rfl (unw_look rfl unw_base))⟩
    show (t.outs p).length - (k2 + 1) < (t.outs p).length - k2
    omega
   have hf2 : fitB l (i : Int) x2.inp = true := fit_eps0 (nd_f ht49)
   have he2 : eatK i x2.inp = (i : Int) := eatK_eq (nd_f ht49)
   refine wc_skip ?_
   refine wc_seq <| wc_region <| wl_mv M rfl rfl <| wl_m M (q_ldbA 2 Try.underlying58 rfl sz58 rfl rfl rfl rfl) rfl rfl <| wl_m M (q_ldbA 0 Try.underlying58 rfl sz58 rfl rfl rfl rfl) rfl rfl <| wl_m M (q_fa fo_50_3 rfl) rfl rfl <| wl_m M (q_ldb 1 Try.underlying21 rfl rfl rfl rfl) rfl rfl <| wl_m M (q_build (bd_68_0_1_2 _ _ _ _ _) ⟨⟨rfl, rfl⟩, ⟨rfl, rfl⟩, ⟨rfl, rfl⟩, trivial⟩) rfl rfl <| wl_e (e_bsI (E := EMove) (xs := [(Move.mk (TCfg.mk p i) (TCfg.mk x2.dst (i : Int)) x2.out)]) M (bs_59_1 _ _ _ _ _) ⟨⟨rfl, rfl⟩, trivial⟩ rfl rfl (by decide)) rfl rfl ?_
   rintro _ w23 ⟨u75, J75, rfl, hJ75, R75, M⟩
   have hoJ75 := M.old
   refine wl_e (e_app 4 M rfl R75 Try.underlying59 rfl rfl (by have h0 : vs.length ≤ 51200512 := (by have := hB2.len hrc; rw [rect2_len] at this; omega); have h1 := flat_len (tcE_len t l) vs; have h2 := Nat.mul_le_mul h0 ha.alen; have h3 := take_flat_len (mv1_len l (TCfg.mk p i)) (t.outs p) k2; have h4 := t.outs_len p; have h5 := ha.alen; rw [hl2, List.length_append]; show (_ + 1) * 40 ≤ _; omega)) rfl rfl ?_
   rintro _ w24 ⟨u76, rfl, M⟩
   replace M := M.less hJ75 hoJ15
   simp only [sC0, sCS] at M
   refine wl_as M rfl rfl <| wl_nil ?_
   refine wc_seq <| wc_region <| wl_mv M rfl rfl <| wl_m M (q_ldbA 0 Try.underlying58 rfl sz58 rfl rfl rfl rfl) rfl rfl <| wl_m M (q_lk (k := (TCfg.mk x2.dst (i : Int))) (z := false) 5 rfl Try.underlying69 zv4 rfl rfl) rfl rfl <| wl_m M (q_not rfl) rfl rfl <| wl_nil ?_
   refine wc_cond rfl (fun ht80 => ?_) (fun ht80 => ?_)
   ·rw [hm2, aget_tr] at ht80
    have hnk := nd_t ht80
    refine wc_seq <| wc_region <| wl_mv M rfl rfl <| wl_m M (q_ldbA 0 Try.underlying58 rfl sz58 rfl rfl rfl rfl) rfl rfl ?_
    refine wl_e0 (e_mpu (k := (TCfg.mk x2.dst (i : Int))) (v := true) 5 M rfl Try.underlying69 rfl rfl rfl) rfl ?_
    intro _ w25 M
    simp only [sC0, sCS] at M
    refine wl_nil <| wc_region <| wl_mv M rfl rfl <| wl_m M (q_ldbA 0 Try.underlying58 rfl sz58 rfl rfl rfl rfl) rfl rfl <| wl_e (e_bsI (E := ETCfg) (xs := [(TCfg.mk x2.dst (i : Int))]) M (bs_56_1 _ _) ⟨⟨rfl, rfl⟩, trivial⟩ rfl rfl (by decide)) rfl rfl ?_
    rintro _ w26 ⟨u85, J85, rfl, hJ85, R85, M⟩
    have hoJ85 := M.old
    refine wl_e (e_app 3 M rfl R85 Try.underlying56 rfl rfl (by have := hB2.len hrc; rw [rect2_len] at this; have := congrArg List.length hc2; rw [List.length_cons] at this; show (_ + 1) * 16 ≤ _; omega)) rfl rfl ?_
    rintro _ w27 ⟨u86, rfl, M⟩
    replace M := M.less hJ85 hoJ15
    simp only [sC0, sCS] at M
    refine wl_as M rfl rfl <| wl_nil <| wc_region <| wl_m M (q_add rfl rfl (IntWalk.i64_in _ (by omega))) rfl rfl ?_
    refine wl_mv M rfl rfl <| wl_nil ?_
    replace M := M.drop 0
    replace M := M.drop 0
    refine ⟨(k2 + 1, u86, l_23_2 ++ [(TCfg.mk x2.dst (i : Int))], aput m_19_2 (TCfg.mk x2.dst (i : Int)) true, u76, l_8_2 ++ [(Move.mk (TCfg.mk p i) (TCfg.mk x2.dst (i : Int)) x2.out)]), ?_, ⟨(by omega), (by rw [take_flat hx2, mv1_yes hf2 he2, List.map_append]; exact hB2.pushT hc2 hnk (List.mem_map.2 ⟨_, List.mem_flatMap.2 ⟨x2, List.mem_of_getElem? hx2, by rw [mv1_yes hf2 he2]; exact List.mem_singleton.2 rfl⟩, rfl⟩)), (snocT hc2), (by rw [hm2, aput_tr hnk]; congr 1; simp), (by rw [take_flat hx2, mv1_yes hf2 he2, ← List.append_assoc, ← hl2]), M⟩, ⟨rfl, rfl, rfl, trivial⟩, unw_look rfl unw_base⟩
    show (t.outs p).length - (k2 + 1) < (t.outs p).length - k2
    omega
   rw [hm2, aget_tr] at ht80
   have hnk := nd_f ht80
   refine wc_skip <| wc_region <| wl_m M (q_add rfl rfl (IntWalk.i64_in _ (by omega))) rfl rfl ?_
   refine wl_mv M rfl rfl <| wl_nil ?_
   replace M := M.drop 0
   replace M := M.drop 0
   refine ⟨(k2 + 1, u_23_2, l_23_2, m_19_2, u76, l_8_2 ++ [(Move.mk (TCfg.mk p i) (TCfg.mk x2.dst (i : Int)) x2.out)]), ?_, ⟨(by omega), (by rw [take_flat hx2, mv1_yes hf2 he2, List.map_append]; exact hB2.knownT hc2 hnk), hc2, hm2, (by rw [take_flat hx2, mv1_yes hf2 he2, ← List.append_assoc, ← hl2]), M⟩, ⟨rfl, rfl, rfl, trivial⟩, unw_look rfl unw_base⟩
   show (t.outs p).length - (k2 + 1) < (t.outs p).length - k2
   omega
  have hke2 : k2 = (t.outs p).length := by omega
  rw [hke2, List.take_length] at hB2 hl2
  have hlen2 := congrArg List.length hc2
  rw [List.length_cons] at hlen2
  refine wc_exit rfl <| wc_region <| wl_mv M rfl rfl <| wl_e (e_cut (k := 1) 1 M rfl Try.underlying56 rfl rfl (by omega)) rfl rfl ?_
  rintro _ w28 ⟨u28, rfl, M⟩
  simp only [sC0, sCS] at M
  refine wl_as M rfl rfl <| wl_nil ?_
  replace M := M.drop 0
  refine ⟨(vs ++ [(TCfg.mk p i)], u28, l_23_2.drop 1, m_19_2, u_8_2, l_8_2), ?_, ⟨(by rw [List.drop_one]; exact hB2.close (fun y_ hy_ => hy_)), (by rw [hm2, openT hc2]), (by rw [hl2, List.flatMap_append]; simp [tcE]), M⟩, ⟨rfl, rfl, trivial⟩, unw_look rfl (unw_hav rfl (unw_look rfl unw_base))⟩
  show (rect2 m l.length).length - (vs ++ [(TCfg.mk p i)]).length < (rect2 m l.length).length - vs.length
  have := (hB2.close (fun y_ hy_ => hy_)).len hrc
  simp only [List.length_append, List.length_cons, List.length_nil] at this ⊢
  omega
 obtain rfl : l_23_0 = [] := by cases l_23_0 with | nil => rfl | cons x l => simp at ht26
 refine wc_exit rfl ?_
 refine wc_seq <| wc_region <| wl_mv M rfl rfl <| wl_as M rfl rfl <| wl_nil <| wc_ret ?_
 obtain ⟨K1, M, hK1, Rk1⟩ := M.frzRow 1 rfl
 rw [hl8] at Rk1
 exact out1 rfl rfl ⟨_, K1, rfl, (M.grow : Grow w I _ K1), vs, Rk1, hB.fin, by have := hB.len hrc; rw [rect2_len] at this; simpa using this⟩
end Go.Proofs.Ytfepjcmjkaolgaa.G
