/- Walks of the program's functions. -/
import Derived.Test.YtfepjcmjkaolgaaGLea
import Derived.Test.YtfepjcmjkaolgaaWSa
import Derived.Test.YtfepjcmjkaolgaaWRa
set_option linter.all false
namespace Go.Proofs.Ytfepjcmjkaolgaa.G
open Go Go.RowKit
set_option maxRecDepth 4000 in
set_option maxHeartbeats 1000000 in
theorem leastC_c {t : Tra} {m : Nat} (ha : t.Ok m) (hf : ∀ f ∈ t.finals, 0 ≤ f ∧ f < m) {v1 : Value} {I : Heap} {w : World} (hI : hle I (hp w)) (R1 : t.rd I v1) :
    Calls A 60 #[v1, .func (.func 35) #[] #[]] w (Ret w I fun r I' => ∃ l : List Int, rdSl EInt I' r l ∧ LeaOk t costA m l) := by
 obtain ⟨fu1, au1, rfl, Rf1, Ra1⟩ := R1
 have hst := ha.st
 have hmle := ha.le
 have hrl : (List.replicate m (0 : Int)).length = m := by simp
 have hlf := Rf1.len_le
 have hla := Ra1.len_le
 have M := Mem.start hI
 refine enter Try.func60 rfl 83 Try.ntmps60 [_, _] rfl ?_
 refine wc_seq <| wc_region <| wl_e (e_box M rfl) rfl rfl ?_
 rintro _ w1 ⟨b2, rfl, M⟩
 refine wl_as M rfl rfl <| wl_nil ?_
 refine wc_seq <| wc_region <| wl_m M (q_fa fo_25_0 rfl) rfl rfl <| wl_m M (q_ldb 0 Try.underlying3 rfl rfl rfl rfl) rfl rfl <| wl_e (e_make (E := EInt) (zv := 0) (m := m) M Try.underlying22 z3 (by rw [hst]; rfl) (by rw [hst]; rfl) (by show _ * 8 ≤ _; omega)) rfl rfl ?_
 rintro _ w2 ⟨u15, rfl, M⟩
 refine wl_as M rfl rfl <| wl_nil ?_
 refine wc_seq ?_
 refine wc_seq <| wc_region <| wl_mv M rfl rfl <| wl_m M (q_lenr 0 M rfl Try.underlying22 rfl) rfl rfl <| wl_mv M rfl rfl <| wl_nil <| wc_block ?_
 refine wc_loop (α := Nat × (List Int)) [6, 18, 19, 20, 21, 22, 23, 24] (fun ((k0, l_15_0) : Nat × (List Int)) => [(18, .int .i64 (k0 : Int))])
   (fun ((k0, l_15_0) : Nat × (List Int)) w' => (k0 ≤ m) ∧ (l_15_0 = List.replicate k0 (-1) ++ List.replicate (m - k0) 0) ∧ Mem w I I (row EInt (sv u15) l_15_0 :: box b2 25 [.int .i64 t.states, .int .i64 t.start, sv fu1, sv au1] :: []) w')
   (fun ((k0, l_15_0) : Nat × (List Int)) => m - k0) (0, List.replicate m 0) ⟨rfl, trivial⟩ ?_ ?_
 ·refine ⟨Nat.zero_le _, (by simp), ?_⟩
  exact M
 rintro ⟨k0, l_15_0⟩ jj0 w3 ⟨hk0, hr0, M⟩
 refine wc_seq <| wc_region <| wl_m M (q_lss rfl rfl) rfl rfl <| wl_nil ?_
 refine wc_seq ?_
 refine wc_dec rfl (fun ht19 => ?_) (fun ht19 => ?_)
 ·refine wc_skip ?_
  refine wc_seq <| wc_block ?_
  refine wc_seq <| wc_region <| wl_mv M rfl rfl <| wl_as M rfl rfl <| wl_nil <| wc_region <| wl_mv M rfl rfl <| wl_mv M rfl rfl ?_
  refine wl_ixw (j := k0) 0 M rfl Try.underlying22 rfl rfl (by rw [hr0]; simp; omega) rfl (fun b23 o23 p23 => ?_)
  refine wl_e0 (e_str (u := -1) 0 M rfl rfl rfl p23 (by rw [hr0]; simp; omega) rfl) rfl ?_
  intro _ w4 M
  simp only [sC0, sCS] at M
  refine wl_nil <| wc_region <| wl_m M (q_add rfl rfl (IntWalk.i64_in _ (by omega))) rfl rfl ?_
  refine wl_mv M rfl rfl <| wl_nil ?_
  refine ⟨(k0 + 1, l_15_0.set k0 (-1)), ?_, ⟨(by omega), (by rw [hr0, rep_ini (by omega)]), M⟩, ⟨rfl, trivial⟩, unw_look rfl unw_base⟩
  show m - (k0 + 1) < m - k0
  omega
 have hke0 : k0 = m := by omega
 rw [hke0] at hr0
 simp only [Nat.sub_self, List.replicate_zero, List.append_nil] at hr0
 refine wc_exit rfl ?_
 refine wc_seq ?_
 refine wc_seq <| wc_region <| wl_m M (q_fa fo_25_2 rfl) rfl rfl <| wl_m M (q_ldb 1 Try.underlying22 rfl rfl rfl rfl) rfl rfl <| wl_m M (q_lenR Rf1 Try.underlying22 rfl) rfl rfl <| wl_mv M rfl rfl <| wl_nil <| wc_block ?_
 refine wc_loop (α := Nat × (List Int)) [8, 28, 29, 30, 31, 32, 33, 34, 35] (fun ((k2, l_15_2) : Nat × (List Int)) => [(28, .int .i64 (k2 : Int))])
   (fun ((k2, l_15_2) : Nat × (List Int)) w' => (k2 ≤ t.finals.length) ∧ (l_15_2 = iniL m (t.finals.take k2)) ∧ Mem w I I (row EInt (sv u15) l_15_2 :: box b2 25 [.int .i64 t.states, .int .i64 t.start, sv fu1, sv au1] :: []) w')
   (fun ((k2, l_15_2) : Nat × (List Int)) => t.finals.length - k2) (0, l_15_0) ⟨rfl, trivial⟩ ?_ ?_
 ·refine ⟨Nat.zero_le _, (by rw [hr0]; rfl), ?_⟩
  exact M
 rintro ⟨k2, l_15_2⟩ jj2 w5 ⟨hk2, hfi, M⟩
 refine wc_seq <| wc_region <| wl_m M (q_lss rfl rfl) rfl rfl <| wl_nil ?_
 refine wc_seq ?_
 refine wc_dec rfl (fun ht29 => ?_) (fun ht29 => ?_)
 ·obtain ⟨x2, hx2⟩ : ∃ x_, t.finals[k2]? = some x_ := ⟨_, List.getElem?_eq_getElem (by omega)⟩
  have hll2 := (Rf1).len_le
  have hx2r := hf x2 (List.mem_of_getElem? hx2)
  refine wc_skip ?_
  refine wc_seq <| wc_block ?_
  refine wc_seq <| wc_region ?_
  refine wl_ix (j := k2) M Rf1 Try.underlying22 rfl rfl hx2 rfl (fun b30 o30 p30 => ?_)
  refine wl_m M (q_ldp p30 rfl rfl) rfl rfl <| wl_as M rfl rfl <| wl_nil <| wc_region <| wl_mv M rfl rfl <| wl_mv M rfl rfl ?_
  refine wl_ixw (j := x2.toNat) 0 M rfl Try.underlying22 rfl (ixe (by omega)) (by rw [hfi, iniL_len]; omega) rfl (fun b34 o34 p34 => ?_)
  refine wl_e0 (e_str (u := 0) 0 M rfl rfl rfl p34 (by rw [hfi, iniL_len]; omega) rfl) rfl ?_
  intro _ w6 M
  simp only [sC0, sCS] at M
  refine wl_nil <| wc_region <| wl_m M (q_add rfl rfl (IntWalk.i64_in _ (by omega))) rfl rfl ?_
  refine wl_mv M rfl rfl <| wl_nil ?_
  refine ⟨(k2 + 1, l_15_2.set x2.toNat 0), ?_, ⟨(by omega), (by rw [take_snoc hx2, iniL_snoc, hfi]), M⟩, ⟨rfl, trivial⟩, unw_look rfl unw_base⟩
  show t.finals.length - (k2 + 1) < t.finals.length - k2
  omega
 have hke2 : k2 = t.finals.length := by omega
 rw [hke2, List.take_length] at hfi
 refine wc_exit rfl ?_
 refine wc_seq ?_
 refine wc_seq <| wc_region <| wl_as M rfl rfl <| wl_nil <| wc_block ?_
 refine wc_loop (α := Bool × (List Int)) [9, 11, 12, 36, 37, 38, 39, 40, 41, 42, 43, 44, 45, 46, 47, 48, 49, 50, 51, 52, 53, 54, 55, 56, 57, 58, 59, 60, 61, 62, 63, 64, 65, 66, 67, 68, 69, 70, 71, 72, 73, 74, 75, 76, 77, 78, 79, 80, 81] (fun ((ag4, l_15_4) : Bool × (List Int)) => [(9, .bool ag4)])
   (fun ((ag4, l_15_4) : Bool × (List Int)) w' => (LeaIn t costA m l_15_4) ∧ (ag4 = false → ∀ x ∈ t.arcs, leaB costA l_15_4 x = false) ∧ Mem w I I (row EInt (sv u15) l_15_4 :: box b2 25 [.int .i64 t.states, .int .i64 t.start, sv fu1, sv au1] :: []) w')
   (fun ((ag4, l_15_4) : Bool × (List Int)) => 2 * muL m l_15_4 + ag4.toNat) (true, l_15_2) ⟨rfl, trivial⟩ ?_ ?_
 ·refine ⟨(by rw [hfi]; exact LeaIn.init hf), nofun, ?_⟩
  exact M
 rintro ⟨ag4, l_15_4⟩ jj4 w7 ⟨hL, hz, M⟩
 refine wc_seq ?_
 refine wc_seq <| wc_region <| wl_mv M rfl rfl <| wl_nil ?_
 refine wc_cond rfl (fun ht36 => ?_) (fun ht36 => ?_)
 ·refine wc_skip <| wc_block ?_
  refine wc_seq <| wc_region <| wl_as M rfl rfl <| wl_nil ?_
  refine wc_seq <| wc_region <| wl_m M (q_fa fo_25_3 rfl) rfl rfl <| wl_m M (q_ldb 1 Try.underlying23 rfl rfl rfl rfl) rfl rfl <| wl_m M (q_lenR Ra1 Try.underlying23 rfl) rfl rfl <| wl_mv M rfl rfl <| wl_nil <| wc_block ?_
  refine wc_loop (α := Nat × Bool × (List Int)) [9, 11, 12, 40, 41, 42, 43, 44, 45, 46, 47, 48, 49, 50, 51, 52, 53, 54, 55, 56, 57, 58, 59, 60, 61, 62, 63, 64, 65, 66, 67, 68, 69, 70, 71, 72, 73, 74, 75, 76, 77, 78, 79, 80, 81] (fun ((k6, ag6, l_15_6) : Nat × Bool × (List Int)) => [(9, .bool ag6), (40, .int .i64 (k6 : Int))])
    (fun ((k6, ag6, l_15_6) : Nat × Bool × (List Int)) w' => (k6 ≤ t.arcs.length) ∧ (LeaPass t costA m l_15_4 k6 l_15_6 ag6) ∧ Mem w I I (row EInt (sv u15) l_15_6 :: box b2 25 [.int .i64 t.states, .int .i64 t.start, sv fu1, sv au1] :: []) w')
    (fun ((k6, ag6, l_15_6) : Nat × Bool × (List Int)) => t.arcs.length - k6) (0, false, l_15_4) ⟨rfl, rfl, trivial⟩ ?_ ?_
  ·refine ⟨Nat.zero_le _, LeaPass.init hL, ?_⟩
   exact M
  rintro ⟨k6, ag6, l_15_6⟩ jj6 w8 ⟨hk6, hp, M⟩
  refine wc_seq <| wc_region <| wl_m M (q_lss rfl rfl) rfl rfl <| wl_nil ?_
  refine wc_seq ?_
  refine wc_dec rfl (fun ht41 => ?_) (fun ht41 => ?_)
  ·obtain ⟨x6, hx6⟩ : ∃ x_, t.arcs[k6]? = some x_ := ⟨_, List.getElem?_eq_getElem (by omega)⟩
   have hll6 := (Ra1).len_le
   have hx6r := ha.arcs x6 (List.mem_of_getElem? hx6)
   have hll := hp.inn.len
   have hb6 := hp.inn.bm x6.dst
   have hlo6 := hp.inn.low x6.dst
   have hcr := costA_rng x6
   refine wc_skip ?_
   refine wc_seq <| wc_block ?_
   refine wc_seq <| wc_region ?_
   refine wl_ix (j := k6) M Ra1 Try.underlying23 rfl rfl hx6 rfl (fun b42 o42 p42 => ?_)
   refine wl_m M (q_ldp p42 rfl rfl) rfl rfl <| wl_e (e_alloc M z50) rfl rfl ?_
   rintro _ w9 ⟨b11, rfl, M⟩
   refine wl_e0 (e_stW 0 M rfl rfl rfl sz50 rfl rfl) rfl ?_
   intro _ w10 M
   simp only [sC0, sCS] at M
   refine wl_nil ?_
   refine wc_seq <| wc_region <| wl_mv M rfl rfl <| wl_m M (q_fa fo_50_1 rfl) rfl rfl <| wl_m M (q_ldb 0 Try.underlying3 rfl rfl rfl rfl) rfl rfl ?_
   refine wl_ixr (j := x6.dst.toNat) 1 M rfl Try.underlying22 rfl (ixe (by omega)) (lat_get (by rw [hll]; omega)) rfl (fun b47 o47 p47 => ?_)
   refine wl_m M (q_ldp p47 rfl rfl) rfl rfl <| wl_as M rfl rfl <| wl_nil ?_
   refine wc_seq ?_
   refine wc_join (α := Unit) [49, 50, 51, 52, 53, 54, 55, 56, 57, 58, 59, 60, 61, 62, 63, 64, 65, 66, 67, 68, 69, 70, 71] (fun _ => [(71, .bool ((decide (0 ≤ (lat l_15_6 x6.dst))) && ((decide ((lat l_15_6 x6.src) < 0)) || (decide (((lat l_15_6 x6.dst) + (costA x6)) < (lat l_15_6 x6.src))))))]) (fun _ w' => Mem w I I (box b11 50 [.int .i64 x6.src, .int .i64 x6.dst, .int .i32 x6.inp, .int .i32 x6.out] :: row EInt (sv u15) l_15_6 :: box b2 25 [.int .i64 t.states, .int .i64 t.start, sv fu1, sv au1] :: []) w') ?_ ?_
   ·refine wc_draws (fun w' => Mem w I I (box b11 50 [.int .i64 x6.src, .int .i64 x6.dst, .int .i32 x6.inp, .int .i32 x6.out] :: row EInt (sv u15) l_15_6 :: box b2 25 [.int .i64 t.states, .int .i64 t.start, sv fu1, sv au1] :: []) w' ∧ True) [] fol ?_
    replace M := M.drew
    have hS := (⟨M, trivial⟩ : _ ∧ _)
    refine wa_q 0 rfl (by kernel_rfl) (q_move rfl) hS rfl rfl ?_
    refine wa_q 1 rfl (by kernel_rfl) (q_geq rfl rfl) hS rfl rfl ?_
    refine wa_q 2 rfl (by kernel_rfl) (q_move rfl) hS rfl rfl ?_
    rcases Bool.eq_false_or_eq_true (decide (0 ≤ (lat l_15_6 x6.dst))) with hg51 | hg51
    ·refine wa_q 3 rfl (by kernel_rfl) (q_guard 2 rfl rfl rfl hg51 (q_move rfl)) hS rfl rfl ?_
     refine wa_q 4 rfl (by kernel_rfl) (q_guard 2 rfl rfl rfl hg51 (q_fa fo_50_0 rfl)) hS rfl rfl ?_
     refine wa_q 5 rfl (by kernel_rfl) ((q_guard 2 rfl rfl rfl hg51 (q_ldb 0 Try.underlying3 rfl rfl rfl rfl)).mono fun _ h => h.1) hS rfl rfl ?_
     refine wa_ixSG (j := x6.src.toNat) 2 rfl rfl rfl hg51 6 hS (fun _ h => h.1.rd (i := 1) rfl) rfl (by kernel_rfl) Try.underlying22 rfl (ixe (by omega)) (lat_get (by rw [hll]; omega)) rfl (fun b55 o55 p55 => ?_)
     refine wa_q 7 rfl (by kernel_rfl) (q_guard 2 rfl rfl rfl hg51 (q_ldp p55 rfl rfl)) hS rfl rfl ?_
     refine wa_q 8 rfl (by kernel_rfl) (q_guard 2 rfl rfl rfl hg51 (q_lss rfl rfl)) hS rfl rfl ?_
     refine wa_q 9 rfl (by kernel_rfl) (q_guard 2 rfl rfl rfl hg51 (q_move rfl)) hS rfl rfl ?_
     rcases Bool.eq_false_or_eq_true (decide ((lat l_15_6 x6.src) < 0)) with hg58 | hg58
     ·refine wa_q 10 rfl (by kernel_rfl) (q_off 9 rfl rfl rfl hg58) hS rfl rfl ?_
      refine wa_q 11 rfl (by kernel_rfl) (q_off 9 rfl rfl rfl hg58) hS rfl rfl ?_
      refine wa_q 12 rfl (by kernel_rfl) (q_off 9 rfl rfl rfl hg58) hS rfl rfl ?_
      refine wa_q 13 rfl (by kernel_rfl) (q_off 9 rfl rfl rfl hg58) hS rfl rfl ?_
      refine wa_q 14 rfl (by kernel_rfl) (q_off 9 rfl rfl rfl hg58) hS rfl rfl ?_
      refine wa_q 15 rfl (by kernel_rfl) (q_off 9 rfl rfl rfl hg58) hS rfl rfl ?_
      refine wa_q 16 rfl (by kernel_rfl) (q_off 9 rfl rfl rfl hg58) hS rfl rfl ?_
      refine wa_q 17 rfl (by kernel_rfl) (q_off 9 rfl rfl rfl hg58) hS rfl rfl ?_
      refine wa_q 18 rfl (by kernel_rfl) (q_off 9 rfl rfl rfl hg58) hS rfl rfl ?_
      refine wa_q 19 rfl (by kernel_rfl) (q_off 9 rfl rfl rfl hg58) hS rfl rfl ?_
      refine wa_q 20 rfl (by kernel_rfl) (q_off 9 rfl rfl rfl hg58) hS rfl rfl ?_
      refine wa_q 21 rfl (by kernel_rfl) (q_guard 2 rfl rfl rfl hg51 (q_pickT rfl hg58 rfl)) hS rfl rfl ?_
      refine wa_q 22 rfl (by kernel_rfl) (q_pickT rfl hg51 rfl) hS rfl rfl ?_
      refine wa_done (by kernel_rfl) ?_
      exact ⟨(), M, ⟨(show some (Value.bool true) = some (Value.bool ((decide (0 ≤ (lat l_15_6 x6.dst))) && ((decide ((lat l_15_6 x6.src) < 0)) || (decide (((lat l_15_6 x6.dst) + (costA x6)) < (lat l_15_6 x6.src)))))) from by first | (simp only [hg51, hg58, bL8]; done) | (simp_all; done) | (simp_all; omega)), trivial⟩, unw_take 23 rfl rfl⟩
     refine wa_q 10 rfl (by kernel_rfl) (q_guard 9 rfl rfl rfl hg58 (q_move rfl)) hS rfl rfl ?_
     refine wa_q 11 rfl (by kernel_rfl) (q_guard 9 rfl rfl rfl hg58 (q_fa fo_50_0 rfl)) hS rfl rfl ?_
     refine wa_q 12 rfl (by kernel_rfl) ((q_guard 9 rfl rfl rfl hg58 (q_ldb 0 Try.underlying3 rfl rfl rfl rfl)).mono fun _ h => h.1) hS rfl rfl ?_
     refine wa_ixSG (j := x6.src.toNat) 9 rfl rfl rfl hg58 13 hS (fun _ h => h.1.rd (i := 1) rfl) rfl (by kernel_rfl) Try.underlying22 rfl (ixe (by omega)) (lat_get (by rw [hll]; omega)) rfl (fun b62 o62 p62 => ?_)
     refine wa_q 14 rfl (by kernel_rfl) (q_guard 9 rfl rfl rfl hg58 (q_ldp p62 rfl rfl)) hS rfl rfl ?_
     refine wa_q 15 rfl (by kernel_rfl) (q_guard 9 rfl rfl rfl hg58 (q_move rfl)) hS rfl rfl ?_
     refine wa_q 16 rfl (by kernel_rfl) (q_guard 9 rfl rfl rfl hg58 (q_move rfl)) hS rfl rfl ?_
     refine wa_q 17 rfl (by kernel_rfl) ((q_guard 9 rfl rfl rfl hg58 (q_ldbA 0 Try.underlying50 rfl sz50 rfl rfl rfl rfl)).mono fun _ h => h.1) hS rfl rfl ?_
     refine wa_e 18 rfl (by kernel_rfl) (e_guard 9 rfl rfl rfl hg58 (e_callVC (vs := [.agg #[.int .i64 x6.src, .int .i64 x6.dst, .int .i32 x6.inp, .int .i32 x6.out]]) (caps := []) M (cost_c x6 M.imm) Try.func35 rfl rfl rfl)) rfl rfl ?_
     rintro _ w11 ⟨J67, hJ67, rfl, M⟩
     have hS := (⟨(M.less hJ67 (fun _ _ => rfl)), trivial⟩ : _ ∧ _)
     refine ⟨fun _ => hS, ?_⟩
     replace M := M.less hJ67 (fun _ _ => rfl)
     refine wa_q 19 rfl (by kernel_rfl) (q_guard 9 rfl rfl rfl hg58 (q_add rfl rfl (IntWalk.i64_in _ (by omega)))) hS rfl rfl ?_
     refine wa_q 20 rfl (by kernel_rfl) (q_guard 9 rfl rfl rfl hg58 (q_gtr rfl rfl)) hS rfl rfl ?_
     refine wa_q 21 rfl (by kernel_rfl) (q_guard 2 rfl rfl rfl hg51 (q_pickF rfl hg58 rfl)) hS rfl rfl ?_
     refine wa_q 22 rfl (by kernel_rfl) (q_pickT rfl hg51 rfl) hS rfl rfl ?_
     refine wa_done (by kernel_rfl) ?_
     exact ⟨(), M, ⟨(show some (Value.bool (decide (((lat l_15_6 x6.dst) + (costA x6)) < (lat l_15_6 x6.src)))) = some (Value.bool ((decide (0 ≤ (lat l_15_6 x6.dst))) && ((decide ((lat l_15_6 x6.src) < 0)) || (decide (((lat l_15_6 x6.dst) + (costA x6)) < (lat l_15_6 x6.src)))))) from by first | (simp only [hg51, hg58, bL8]; done) | (simp_all; done) | (simp_all; omega)), trivial⟩, unw_take 23 rfl rfl⟩
    refine wa_q 3 rfl (by kernel_rfl) (q_off 2 rfl rfl rfl hg51) hS rfl rfl ?_
    refine wa_q 4 rfl (by kernel_rfl) (q_off 2 rfl rfl rfl hg51) hS rfl rfl ?_
    refine wa_q 5 rfl (by kernel_rfl) (q_off 2 rfl rfl rfl hg51) hS rfl rfl ?_
    refine wa_q 6 rfl (by kernel_rfl) (q_off 2 rfl rfl rfl hg51) hS rfl rfl ?_
    refine wa_q 7 rfl (by kernel_rfl) (q_off 2 rfl rfl rfl hg51) hS rfl rfl ?_
    refine wa_q 8 rfl (by kernel_rfl) (q_off 2 rfl rfl rfl hg51) hS rfl rfl ?_
    refine wa_q 9 rfl (by kernel_rfl) (q_off 2 rfl rfl rfl hg51) hS rfl rfl ?_
    refine wa_q 10 rfl (by kernel_rfl) (q_offu 9 rfl rfl rfl) hS rfl rfl ?_
    refine wa_q 11 rfl (by kernel_rfl) (q_offu 9 rfl rfl rfl) hS rfl rfl ?_
    refine wa_q 12 rfl (by kernel_rfl) (q_offu 9 rfl rfl rfl) hS rfl rfl ?_
    refine wa_q 13 rfl (by kernel_rfl) (q_offu 9 rfl rfl rfl) hS rfl rfl ?_
    refine wa_q 14 rfl (by kernel_rfl) (q_offu 9 rfl rfl rfl) hS rfl rfl ?_
    refine wa_q 15 rfl (by kernel_rfl) (q_offu 9 rfl rfl rfl) hS rfl rfl ?_
    refine wa_q 16 rfl (by kernel_rfl) (q_offu 9 rfl rfl rfl) hS rfl rfl ?_
    refine wa_q 17 rfl (by kernel_rfl) (q_offu 9 rfl rfl rfl) hS rfl rfl ?_
    refine wa_q 18 rfl (by kernel_rfl) (q_offu 9 rfl rfl rfl) hS rfl rfl ?_
    refine wa_q 19 rfl (by kernel_rfl) (q_offu 9 rfl rfl rfl) hS rfl rfl ?_
    refine wa_q 20 rfl (by kernel_rfl) (q_offu 9 rfl rfl rfl) hS rfl rfl ?_
    refine wa_q 21 rfl (by kernel_rfl) (q_off 2 rfl rfl rfl hg51) hS rfl rfl ?_
    refine wa_q 22 rfl (by kernel_rfl) (q_pickF rfl hg51 rfl) hS rfl rfl ?_
    refine wa_done (by kernel_rfl) ?_
    exact ⟨(), M, ⟨(show some (Value.bool false) = some (Value.bool ((decide (0 ≤ (lat l_15_6 x6.dst))) && ((decide ((lat l_15_6 x6.src) < 0)) || (decide (((lat l_15_6 x6.dst) + (costA x6)) < (lat l_15_6 x6.src)))))) from by first | (simp only [hg51, bL8]; done) | (simp_all; done) | (simp_all; omega)), trivial⟩, unw_take 23 rfl rfl⟩
   rintro _ jr19 w12 M
   refine wc_cond rfl (fun ht71 => ?_) (fun ht71 => ?_)
   ·refine wc_seq ?_
    refine wc_draws (fun w' => Mem w I I (box b11 50 [.int .i64 x6.src, .int .i64 x6.dst, .int .i32 x6.inp, .int .i32 x6.out] :: row EInt (sv u15) l_15_6 :: box b2 25 [.int .i64 t.states, .int .i64 t.start, sv fu1, sv au1] :: []) w' ∧ True) [9] fol ?_
    replace M := M.drew
    have hS := (⟨M, trivial⟩ : _ ∧ _)
    refine wa_q 0 rfl (by kernel_rfl) (q_move rfl) hS rfl rfl ?_
    refine wa_q 1 rfl (by kernel_rfl) (q_fa fo_50_0 rfl) hS rfl rfl ?_
    refine wa_q 2 rfl (by kernel_rfl) ((q_ldb 0 Try.underlying3 rfl rfl rfl rfl).mono fun _ h => h.1) hS rfl rfl ?_
    refine wa_q 3 rfl (by kernel_rfl) (q_move rfl) hS rfl rfl ?_
    refine wa_q 4 rfl (by kernel_rfl) (q_move rfl) hS rfl rfl ?_
    refine wa_q 5 rfl (by kernel_rfl) ((q_ldbA 0 Try.underlying50 rfl sz50 rfl rfl rfl rfl).mono fun _ h => h.1) hS rfl rfl ?_
    refine wa_e 6 rfl (by kernel_rfl) (e_callVC (vs := [.agg #[.int .i64 x6.src, .int .i64 x6.dst, .int .i32 x6.inp, .int .i32 x6.out]]) (caps := []) M (cost_c x6 M.imm) Try.func35 rfl rfl rfl) rfl rfl ?_
    rintro _ w13 ⟨J78, hJ78, rfl, M⟩
    have hS := (⟨(M.less hJ78 (fun _ _ => rfl)), trivial⟩ : _ ∧ _)
    refine ⟨fun _ => hS, ?_⟩
    replace M := M.less hJ78 (fun _ _ => rfl)
    refine wa_q 7 rfl (by kernel_rfl) (q_add rfl rfl (IntWalk.i64_in _ (by omega))) hS rfl rfl ?_
    refine wa_ixw (j := x6.src.toNat) 8 1 M hS rfl rfl (by kernel_rfl) Try.underlying22 rfl (ixe (by omega)) (by rw [hll]; omega) rfl (fun b80 o80 p80 => ?_)
    refine wa_e0 9 rfl (by kernel_rfl) (e_str (u := (lat l_15_6 x6.dst) + (costA x6)) 1 M rfl rfl rfl p80 (by rw [hll]; omega) rfl) rfl ?_
    intro _ w14 M
    simp only [sC0, sCS] at M
    refine ⟨nofun, ?_⟩
    refine wa_done (by kernel_rfl) ?_
    refine wc_region <| wl_as M rfl rfl <| wl_nil <| wc_region <| wl_m M (q_add rfl rfl (IntWalk.i64_in _ (by omega))) rfl rfl ?_
    refine wl_mv M rfl rfl <| wl_nil ?_
    replace M := M.drop 0
    refine ⟨(k6 + 1, true, l_15_6.set x6.src.toNat ((lat l_15_6 x6.dst) + (costA x6))), ?_, ⟨(by omega), (hp.hit hx6 hcr hx6r.1 hx6r.2 hf ht71), M⟩, ⟨rfl, rfl, trivial⟩, unw_look rfl (unw_hav rfl (unw_look rfl unw_base))⟩
    show t.arcs.length - (k6 + 1) < t.arcs.length - k6
    omega
   refine wc_skip <| wc_region <| wl_m M (q_add rfl rfl (IntWalk.i64_in _ (by omega))) rfl rfl ?_
   refine wl_mv M rfl rfl <| wl_nil ?_
   replace M := M.drop 0
   refine ⟨(k6 + 1, ag6, l_15_6), ?_, ⟨(by omega), (hp.skip hx6 ht71), M⟩, ⟨rfl, rfl, trivial⟩, unw_look rfl (unw_hav rfl (unw_look rfl unw_base))⟩
   show t.arcs.length - (k6 + 1) < t.arcs.length - k6
   omega
  have hke6 : k6 = t.arcs.length := by omega
  refine wc_exit rfl ?_
  refine ⟨(ag6, l_15_6), ?_, ⟨hp.inn, (fun e => by have := (hp.cl e).2; rw [hke6, List.take_length] at this; rw [(hp.cl e).1]; exact this), M⟩, ⟨rfl, trivial⟩, unw_look rfl (unw_hav rfl (unw_look rfl unw_base))⟩
  show 2 * muL m l_15_6 + ag6.toNat < 2 * muL m l_15_4 + ag4.toNat
  subst ht36
  cases hag : ag6 with
  | true => have := hp.up hag; simp; omega
  | false => have := (hp.cl hag).1; subst this; simp
 refine wc_exit rfl ?_
 refine wc_seq <| wc_region <| wl_mv M rfl rfl <| wl_as M rfl rfl <| wl_nil <| wc_ret ?_
 obtain ⟨K1, M, hK1, Rk1⟩ := M.frzRow 0 rfl
 exact out1 rfl rfl ⟨_, K1, rfl, (M.grow : Grow w I _ K1), _, Rk1, hL.ok (hz ht36)⟩
set_option maxRecDepth 4000 in
set_option maxHeartbeats 1000000 in
theorem leastR_c {t : Tra} {m : Nat} (ha : t.Ok m) (hf : ∀ f ∈ t.finals, 0 ≤ f ∧ f < m) {v1 : Value} {I : Heap} {w : World} (hI : hle I (hp w)) (R1 : t.rd I v1) :
    Calls A 60 #[v1, .func (.func 36) #[] #[]] w (Ret w I fun r I' => ∃ l : List Int, rdSl EInt I' r l ∧ LeaOk t readA m l) := by
 obtain ⟨fu1, au1, rfl, Rf1, Ra1⟩ := R1
 have hst := ha.st
 have hmle := ha.le
 have hrl : (List.replicate m (0 : Int)).length = m := by simp
 have hlf := Rf1.len_le
 have hla := Ra1.len_le
 have M := Mem.start hI
 refine enter Try.func60 rfl 83 Try.ntmps60 [_, _] rfl ?_
 refine wc_seq <| wc_region <| wl_e (e_box M rfl) rfl rfl ?_
 rintro _ w1 ⟨b2, rfl, M⟩
 refine wl_as M rfl rfl <| wl_nil ?_
 refine wc_seq <| wc_region <| wl_m M (q_fa fo_25_0 rfl) rfl rfl <| wl_m M (q_ldb 0 Try.underlying3 rfl rfl rfl rfl) rfl rfl <| wl_e (e_make (E := EInt) (zv := 0) (m := m) M Try.underlying22 z3 (by rw [hst]; rfl) (by rw [hst]; rfl) (by show _ * 8 ≤ _; omega)) rfl rfl ?_
 rintro _ w2 ⟨u15, rfl, M⟩
 refine wl_as M rfl rfl <| wl_nil ?_
 refine wc_seq ?_
 refine wc_seq <| wc_region <| wl_mv M rfl rfl <| wl_m M (q_lenr 0 M rfl Try.underlying22 rfl) rfl rfl <| wl_mv M rfl rfl <| wl_nil <| wc_block ?_
 refine wc_loop (α := Nat × (List Int)) [6, 18, 19, 20, 21, 22, 23, 24] (fun ((k0, l_15_0) : Nat × (List Int)) => [(18, .int .i64 (k0 : Int))])
   (fun ((k0, l_15_0) : Nat × (List Int)) w' => (k0 ≤ m) ∧ (l_15_0 = List.replicate k0 (-1) ++ List.replicate (m - k0) 0) ∧ Mem w I I (row EInt (sv u15) l_15_0 :: box b2 25 [.int .i64 t.states, .int .i64 t.start, sv fu1, sv au1] :: []) w')
   (fun ((k0, l_15_0) : Nat × (List Int)) => m - k0) (0, List.replicate m 0) ⟨rfl, trivial⟩ ?_ ?_
 ·refine ⟨Nat.zero_le _, (by simp), ?_⟩
  exact M
 rintro ⟨k0, l_15_0⟩ jj0 w3 ⟨hk0, hr0, M⟩
 refine wc_seq <| wc_region <| wl_m M (q_lss rfl rfl) rfl rfl <| wl_nil ?_
 refine wc_seq ?_
 refine wc_dec rfl (fun ht19 => ?_) (fun ht19 => ?_)
 ·refine wc_skip ?_
  refine wc_seq <| wc_block ?_
  refine wc_seq <| wc_region <| wl_mv M rfl rfl <| wl_as M rfl rfl <| wl_nil <| wc_region <| wl_mv M rfl rfl <| wl_mv M rfl rfl ?_
  refine wl_ixw (j := k0) 0 M rfl Try.underlying22 rfl rfl (by rw [hr0]; simp; omega) rfl (fun b23 o23 p23 => ?_)
  refine wl_e0 (e_str (u := -1) 0 M rfl rfl rfl p23 (by rw [hr0]; simp; omega) rfl) rfl ?_
  intro _ w4 M
  simp only [sC0, sCS] at M
  refine wl_nil <| wc_region <| wl_m M (q_add rfl rfl (IntWalk.i64_in _ (by omega))) rfl rfl ?_
  refine wl_mv M rfl rfl <| wl_nil ?_
  refine ⟨(k0 + 1, l_15_0.set k0 (-1)), ?_, ⟨(by omega), (by rw [hr0, rep_ini (by omega)]), M⟩, ⟨rfl, trivial⟩, unw_look rfl unw_base⟩
  show m - (k0 + 1) < m - k0
  omega
 have hke0 : k0 = m := by omega
 rw [hke0] at hr0
 simp only [Nat.sub_self, List.replicate_zero, List.append_nil] at hr0
 refine wc_exit rfl ?_
 refine wc_seq ?_
 refine wc_seq <| wc_region <| wl_m M (q_fa fo_25_2 rfl) rfl rfl <| wl_m M (q_ldb 1 Try.underlying22 rfl rfl rfl rfl) rfl rfl <| wl_m M (q_lenR Rf1 Try.underlying22 rfl) rfl rfl <| wl_mv M rfl rfl <| wl_nil <| wc_block ?_
 refine wc_loop (α := Nat × (List Int)) [8, 28, 29, 30, 31, 32, 33, 34, 35] (fun ((k2, l_15_2) : Nat × (List Int)) => [(28, .int .i64 (k2 : Int))])
   (fun ((k2, l_15_2) : Nat × (List Int)) w' => (k2 ≤ t.finals.length) ∧ (l_15_2 = iniL m (t.finals.take k2)) ∧ Mem w I I (row EInt (sv u15) l_15_2 :: box b2 25 [.int .i64 t.states, .int .i64 t.start, sv fu1, sv au1] :: []) w')
   (fun ((k2, l_15_2) : Nat × (List Int)) => t.finals.length - k2) (0, l_15_0) ⟨rfl, trivial⟩ ?_ ?_
 ·refine ⟨Nat.zero_le _, (by rw [hr0]; rfl), ?_⟩
  exact M
 rintro ⟨k2, l_15_2⟩ jj2 w5 ⟨hk2, hfi, M⟩
 refine wc_seq <| wc_region <| wl_m M (q_lss rfl rfl) rfl rfl <| wl_nil ?_
 refine wc_seq ?_
 refine wc_dec rfl (fun ht29 => ?_) (fun ht29 => ?_)
 ·obtain ⟨x2, hx2⟩ : ∃ x_, t.finals[k2]? = some x_ := ⟨_, List.getElem?_eq_getElem (by omega)⟩
  have hll2 := (Rf1).len_le
  have hx2r := hf x2 (List.mem_of_getElem? hx2)
  refine wc_skip ?_
  refine wc_seq <| wc_block ?_
  refine wc_seq <| wc_region ?_
  refine wl_ix (j := k2) M Rf1 Try.underlying22 rfl rfl hx2 rfl (fun b30 o30 p30 => ?_)
  refine wl_m M (q_ldp p30 rfl rfl) rfl rfl <| wl_as M rfl rfl <| wl_nil <| wc_region <| wl_mv M rfl rfl <| wl_mv M rfl rfl ?_
  refine wl_ixw (j := x2.toNat) 0 M rfl Try.underlying22 rfl (ixe (by omega)) (by rw [hfi, iniL_len]; omega) rfl (fun b34 o34 p34 => ?_)
  refine wl_e0 (e_str (u := 0) 0 M rfl rfl rfl p34 (by rw [hfi, iniL_len]; omega) rfl) rfl ?_
  intro _ w6 M
  simp only [sC0, sCS] at M
  refine wl_nil <| wc_region <| wl_m M (q_add rfl rfl (IntWalk.i64_in _ (by omega))) rfl rfl ?_
  refine wl_mv M rfl rfl <| wl_nil ?_
  refine ⟨(k2 + 1, l_15_2.set x2.toNat 0), ?_, ⟨(by omega), (by rw [take_snoc hx2, iniL_snoc, hfi]), M⟩, ⟨rfl, trivial⟩, unw_look rfl unw_base⟩
  show t.finals.length - (k2 + 1) < t.finals.length - k2
  omega
 have hke2 : k2 = t.finals.length := by omega
 rw [hke2, List.take_length] at hfi
 refine wc_exit rfl ?_
 refine wc_seq ?_
 refine wc_seq <| wc_region <| wl_as M rfl rfl <| wl_nil <| wc_block ?_
 refine wc_loop (α := Bool × (List Int)) [9, 11, 12, 36, 37, 38, 39, 40, 41, 42, 43, 44, 45, 46, 47, 48, 49, 50, 51, 52, 53, 54, 55, 56, 57, 58, 59, 60, 61, 62, 63, 64, 65, 66, 67, 68, 69, 70, 71, 72, 73, 74, 75, 76, 77, 78, 79, 80, 81] (fun ((ag4, l_15_4) : Bool × (List Int)) => [(9, .bool ag4)])
   (fun ((ag4, l_15_4) : Bool × (List Int)) w' => (LeaIn t readA m l_15_4) ∧ (ag4 = false → ∀ x ∈ t.arcs, leaB readA l_15_4 x = false) ∧ Mem w I I (row EInt (sv u15) l_15_4 :: box b2 25 [.int .i64 t.states, .int .i64 t.start, sv fu1, sv au1] :: []) w')
   (fun ((ag4, l_15_4) : Bool × (List Int)) => 2 * muL m l_15_4 + ag4.toNat) (true, l_15_2) ⟨rfl, trivial⟩ ?_ ?_
 ·refine ⟨(by rw [hfi]; exact LeaIn.init hf), nofun, ?_⟩
  exact M
 rintro ⟨ag4, l_15_4⟩ jj4 w7 ⟨hL, hz, M⟩
 refine wc_seq ?_
 refine wc_seq <| wc_region <| wl_mv M rfl rfl <| wl_nil ?_
 refine wc_cond rfl (fun ht36 => ?_) (fun ht36 => ?_)
 ·refine wc_skip <| wc_block ?_
  refine wc_seq <| wc_region <| wl_as M rfl rfl <| wl_nil ?_
  refine wc_seq <| wc_region <| wl_m M (q_fa fo_25_3 rfl) rfl rfl <| wl_m M (q_ldb 1 Try.underlying23 rfl rfl rfl rfl) rfl rfl <| wl_m M (q_lenR Ra1 Try.underlying23 rfl) rfl rfl <| wl_mv M rfl rfl <| wl_nil <| wc_block ?_
  refine wc_loop (α := Nat × Bool × (List Int)) [9, 11, 12, 40, 41, 42, 43, 44, 45, 46, 47, 48, 49, 50, 51, 52, 53, 54, 55, 56, 57, 58, 59, 60, 61, 62, 63, 64, 65, 66, 67, 68, 69, 70, 71, 72, 73, 74, 75, 76, 77, 78, 79, 80, 81] (fun ((k6, ag6, l_15_6) : Nat × Bool × (List Int)) => [(9, .bool ag6), (40, .int .i64 (k6 : Int))])
    (fun ((k6, ag6, l_15_6) : Nat × Bool × (List Int)) w' => (k6 ≤ t.arcs.length) ∧ (LeaPass t readA m l_15_4 k6 l_15_6 ag6) ∧ Mem w I I (row EInt (sv u15) l_15_6 :: box b2 25 [.int .i64 t.states, .int .i64 t.start, sv fu1, sv au1] :: []) w')
    (fun ((k6, ag6, l_15_6) : Nat × Bool × (List Int)) => t.arcs.length - k6) (0, false, l_15_4) ⟨rfl, rfl, trivial⟩ ?_ ?_
  ·refine ⟨Nat.zero_le _, LeaPass.init hL, ?_⟩
   exact M
  rintro ⟨k6, ag6, l_15_6⟩ jj6 w8 ⟨hk6, hp, M⟩
  refine wc_seq <| wc_region <| wl_m M (q_lss rfl rfl) rfl rfl <| wl_nil ?_
  refine wc_seq ?_
  refine wc_dec rfl (fun ht41 => ?_) (fun ht41 => ?_)
  ·obtain ⟨x6, hx6⟩ : ∃ x_, t.arcs[k6]? = some x_ := ⟨_, List.getElem?_eq_getElem (by omega)⟩
   have hll6 := (Ra1).len_le
   have hx6r := ha.arcs x6 (List.mem_of_getElem? hx6)
   have hll := hp.inn.len
   have hb6 := hp.inn.bm x6.dst
   have hlo6 := hp.inn.low x6.dst
   have hcr := readA_rng x6
   refine wc_skip ?_
   refine wc_seq <| wc_block ?_
   refine wc_seq <| wc_region ?_
   refine wl_ix (j := k6) M Ra1 Try.underlying23 rfl rfl hx6 rfl (fun b42 o42 p42 => ?_)
   refine wl_m M (q_ldp p42 rfl rfl) rfl rfl <| wl_e (e_alloc M z50) rfl rfl ?_
   rintro _ w9 ⟨b11, rfl, M⟩
   refine wl_e0 (e_stW 0 M rfl rfl rfl sz50 rfl rfl) rfl ?_
   intro _ w10 M
   simp only [sC0, sCS] at M
   refine wl_nil ?_
   refine wc_seq <| wc_region <| wl_mv M rfl rfl <| wl_m M (q_fa fo_50_1 rfl) rfl rfl <| wl_m M (q_ldb 0 Try.underlying3 rfl rfl rfl rfl) rfl rfl ?_
   refine wl_ixr (j := x6.dst.toNat) 1 M rfl Try.underlying22 rfl (ixe (by omega)) (lat_get (by rw [hll]; omega)) rfl (fun b47 o47 p47 => ?_)
   refine wl_m M (q_ldp p47 rfl rfl) rfl rfl <| wl_as M rfl rfl <| wl_nil ?_
   refine wc_seq ?_
   refine wc_join (α := Unit) [49, 50, 51, 52, 53, 54, 55, 56, 57, 58, 59, 60, 61, 62, 63, 64, 65, 66, 67, 68, 69, 70, 71] (fun _ => [(71, .bool ((decide (0 ≤ (lat l_15_6 x6.dst))) && ((decide ((lat l_15_6 x6.src) < 0)) || (decide (((lat l_15_6 x6.dst) + (readA x6)) < (lat l_15_6 x6.src))))))]) (fun _ w' => Mem w I I (box b11 50 [.int .i64 x6.src, .int .i64 x6.dst, .int .i32 x6.inp, .int .i32 x6.out] :: row EInt (sv u15) l_15_6 :: box b2 25 [.int .i64 t.states, .int .i64 t.start, sv fu1, sv au1] :: []) w') ?_ ?_
   ·refine wc_draws (fun w' => Mem w I I (box b11 50 [.int .i64 x6.src, .int .i64 x6.dst, .int .i32 x6.inp, .int .i32 x6.out] :: row EInt (sv u15) l_15_6 :: box b2 25 [.int .i64 t.states, .int .i64 t.start, sv fu1, sv au1] :: []) w' ∧ True) [] fol ?_
    replace M := M.drew
    have hS := (⟨M, trivial⟩ : _ ∧ _)
    refine wa_q 0 rfl (by kernel_rfl) (q_move rfl) hS rfl rfl ?_
    refine wa_q 1 rfl (by kernel_rfl) (q_geq rfl rfl) hS rfl rfl ?_
    refine wa_q 2 rfl (by kernel_rfl) (q_move rfl) hS rfl rfl ?_
    rcases Bool.eq_false_or_eq_true (decide (0 ≤ (lat l_15_6 x6.dst))) with hg51 | hg51
    ·refine wa_q 3 rfl (by kernel_rfl) (q_guard 2 rfl rfl rfl hg51 (q_move rfl)) hS rfl rfl ?_
     refine wa_q 4 rfl (by kernel_rfl) (q_guard 2 rfl rfl rfl hg51 (q_fa fo_50_0 rfl)) hS rfl rfl ?_
     refine wa_q 5 rfl (by kernel_rfl) ((q_guard 2 rfl rfl rfl hg51 (q_ldb 0 Try.underlying3 rfl rfl rfl rfl)).mono fun _ h => h.1) hS rfl rfl ?_
     refine wa_ixSG (j := x6.src.toNat) 2 rfl rfl rfl hg51 6 hS (fun _ h => h.1.rd (i := 1) rfl) rfl (by kernel_rfl) Try.underlying22 rfl (ixe (by omega)) (lat_get (by rw [hll]; omega)) rfl (fun b55 o55 p55 => ?_)
     refine wa_q 7 rfl (by kernel_rfl) (q_guard 2 rfl rfl rfl hg51 (q_ldp p55 rfl rfl)) hS rfl rfl ?_
     refine wa_q 8 rfl (by kernel_rfl) (q_guard 2 rfl rfl rfl hg51 (q_lss rfl rfl)) hS rfl rfl ?_
     refine wa_q 9 rfl (by kernel_rfl) (q_guard 2 rfl rfl rfl hg51 (q_move rfl)) hS rfl rfl ?_
     rcases Bool.eq_false_or_eq_true (decide ((lat l_15_6 x6.src) < 0)) with hg58 | hg58
     ·refine wa_q 10 rfl (by kernel_rfl) (q_off 9 rfl rfl rfl hg58) hS rfl rfl ?_
      refine wa_q 11 rfl (by kernel_rfl) (q_off 9 rfl rfl rfl hg58) hS rfl rfl ?_
      refine wa_q 12 rfl (by kernel_rfl) (q_off 9 rfl rfl rfl hg58) hS rfl rfl ?_
      refine wa_q 13 rfl (by kernel_rfl) (q_off 9 rfl rfl rfl hg58) hS rfl rfl ?_
      refine wa_q 14 rfl (by kernel_rfl) (q_off 9 rfl rfl rfl hg58) hS rfl rfl ?_
      refine wa_q 15 rfl (by kernel_rfl) (q_off 9 rfl rfl rfl hg58) hS rfl rfl ?_
      refine wa_q 16 rfl (by kernel_rfl) (q_off 9 rfl rfl rfl hg58) hS rfl rfl ?_
      refine wa_q 17 rfl (by kernel_rfl) (q_off 9 rfl rfl rfl hg58) hS rfl rfl ?_
      refine wa_q 18 rfl (by kernel_rfl) (q_off 9 rfl rfl rfl hg58) hS rfl rfl ?_
      refine wa_q 19 rfl (by kernel_rfl) (q_off 9 rfl rfl rfl hg58) hS rfl rfl ?_
      refine wa_q 20 rfl (by kernel_rfl) (q_off 9 rfl rfl rfl hg58) hS rfl rfl ?_
      refine wa_q 21 rfl (by kernel_rfl) (q_guard 2 rfl rfl rfl hg51 (q_pickT rfl hg58 rfl)) hS rfl rfl ?_
      refine wa_q 22 rfl (by kernel_rfl) (q_pickT rfl hg51 rfl) hS rfl rfl ?_
      refine wa_done (by kernel_rfl) ?_
      exact ⟨(), M, ⟨(show some (Value.bool true) = some (Value.bool ((decide (0 ≤ (lat l_15_6 x6.dst))) && ((decide ((lat l_15_6 x6.src) < 0)) || (decide (((lat l_15_6 x6.dst) + (readA x6)) < (lat l_15_6 x6.src)))))) from by first | (simp only [hg51, hg58, bL8]; done) | (simp_all; done) | (simp_all; omega)), trivial⟩, unw_take 23 rfl rfl⟩
     refine wa_q 10 rfl (by kernel_rfl) (q_guard 9 rfl rfl rfl hg58 (q_move rfl)) hS rfl rfl ?_
     refine wa_q 11 rfl (by kernel_rfl) (q_guard 9 rfl rfl rfl hg58 (q_fa fo_50_0 rfl)) hS rfl rfl ?_
     refine wa_q 12 rfl (by kernel_rfl) ((q_guard 9 rfl rfl rfl hg58 (q_ldb 0 Try.underlying3 rfl rfl rfl rfl)).mono fun _ h => h.1) hS rfl rfl ?_
     refine wa_ixSG (j := x6.src.toNat) 9 rfl rfl rfl hg58 13 hS (fun _ h => h.1.rd (i := 1) rfl) rfl (by kernel_rfl) Try.underlying22 rfl (ixe (by omega)) (lat_get (by rw [hll]; omega)) rfl (fun b62 o62 p62 => ?_)
     refine wa_q 14 rfl (by kernel_rfl) (q_guard 9 rfl rfl rfl hg58 (q_ldp p62 rfl rfl)) hS rfl rfl ?_
     refine wa_q 15 rfl (by kernel_rfl) (q_guard 9 rfl rfl rfl hg58 (q_move rfl)) hS rfl rfl ?_
     refine wa_q 16 rfl (by kernel_rfl) (q_guard 9 rfl rfl rfl hg58 (q_move rfl)) hS rfl rfl ?_
     refine wa_q 17 rfl (by kernel_rfl) ((q_guard 9 rfl rfl rfl hg58 (q_ldbA 0 Try.underlying50 rfl sz50 rfl rfl rfl rfl)).mono fun _ h => h.1) hS rfl rfl ?_
     refine wa_e 18 rfl (by kernel_rfl) (e_guard 9 rfl rfl rfl hg58 (e_callVC (vs := [.agg #[.int .i64 x6.src, .int .i64 x6.dst, .int .i32 x6.inp, .int .i32 x6.out]]) (caps := []) M (reads_c x6 M.imm) Try.func36 rfl rfl rfl)) rfl rfl ?_
     rintro _ w11 ⟨J67, hJ67, rfl, M⟩
     have hS := (⟨(M.less hJ67 (fun _ _ => rfl)), trivial⟩ : _ ∧ _)
     refine ⟨fun _ => hS, ?_⟩
     replace M := M.less hJ67 (fun _ _ => rfl)
     refine wa_q 19 rfl (by kernel_rfl) (q_guard 9 rfl rfl rfl hg58 (q_add rfl rfl (IntWalk.i64_in _ (by omega)))) hS rfl rfl ?_
     refine wa_q 20 rfl (by kernel_rfl) (q_guard 9 rfl rfl rfl hg58 (q_gtr rfl rfl)) hS rfl rfl ?_
     refine wa_q 21 rfl (by kernel_rfl) (q_guard 2 rfl rfl rfl hg51 (q_pickF rfl hg58 rfl)) hS rfl rfl ?_
     refine wa_q 22 rfl (by kernel_rfl) (q_pickT rfl hg51 rfl) hS rfl rfl ?_
     refine wa_done (by kernel_rfl) ?_
     exact ⟨(), M, ⟨(show some (Value.bool (decide (((lat l_15_6 x6.dst) + (readA x6)) < (lat l_15_6 x6.src)))) = some (Value.bool ((decide (0 ≤ (lat l_15_6 x6.dst))) && ((decide ((lat l_15_6 x6.src) < 0)) || (decide (((lat l_15_6 x6.dst) + (readA x6)) < (lat l_15_6 x6.src)))))) from by first | (simp only [hg51, hg58, bL8]; done) | (simp_all; done) | (simp_all; omega)), trivial⟩, unw_take 23 rfl rfl⟩
    refine wa_q 3 rfl (by kernel_rfl) (q_off 2 rfl rfl rfl hg51) hS rfl rfl ?_
    refine wa_q 4 rfl (by kernel_rfl) (q_off 2 rfl rfl rfl hg51) hS rfl rfl ?_
    refine wa_q 5 rfl (by kernel_rfl) (q_off 2 rfl rfl rfl hg51) hS rfl rfl ?_
    refine wa_q 6 rfl (by kernel_rfl) (q_off 2 rfl rfl rfl hg51) hS rfl rfl ?_
    refine wa_q 7 rfl (by kernel_rfl) (q_off 2 rfl rfl rfl hg51) hS rfl rfl ?_
    refine wa_q 8 rfl (by kernel_rfl) (q_off 2 rfl rfl rfl hg51) hS rfl rfl ?_
    refine wa_q 9 rfl (by kernel_rfl) (q_off 2 rfl rfl rfl hg51) hS rfl rfl ?_
    refine wa_q 10 rfl (by kernel_rfl) (q_offu 9 rfl rfl rfl) hS rfl rfl ?_
    refine wa_q 11 rfl (by kernel_rfl) (q_offu 9 rfl rfl rfl) hS rfl rfl ?_
    refine wa_q 12 rfl (by kernel_rfl) (q_offu 9 rfl rfl rfl) hS rfl rfl ?_
    refine wa_q 13 rfl (by kernel_rfl) (q_offu 9 rfl rfl rfl) hS rfl rfl ?_
    refine wa_q 14 rfl (by kernel_rfl) (q_offu 9 rfl rfl rfl) hS rfl rfl ?_
    refine wa_q 15 rfl (by kernel_rfl) (q_offu 9 rfl rfl rfl) hS rfl rfl ?_
    refine wa_q 16 rfl (by kernel_rfl) (q_offu 9 rfl rfl rfl) hS rfl rfl ?_
    refine wa_q 17 rfl (by kernel_rfl) (q_offu 9 rfl rfl rfl) hS rfl rfl ?_
    refine wa_q 18 rfl (by kernel_rfl) (q_offu 9 rfl rfl rfl) hS rfl rfl ?_
    refine wa_q 19 rfl (by kernel_rfl) (q_offu 9 rfl rfl rfl) hS rfl rfl ?_
    refine wa_q 20 rfl (by kernel_rfl) (q_offu 9 rfl rfl rfl) hS rfl rfl ?_
    refine wa_q 21 rfl (by kernel_rfl) (q_off 2 rfl rfl rfl hg51) hS rfl rfl ?_
    refine wa_q 22 rfl (by kernel_rfl) (q_pickF rfl hg51 rfl) hS rfl rfl ?_
    refine wa_done (by kernel_rfl) ?_
    exact ⟨(), M, ⟨(show some (Value.bool false) = some (Value.bool ((decide (0 ≤ (lat l_15_6 x6.dst))) && ((decide ((lat l_15_6 x6.src) < 0)) || (decide (((lat l_15_6 x6.dst) + (readA x6)) < (lat l_15_6 x6.src)))))) from by first | (simp only [hg51, bL8]; done) | (simp_all; done) | (simp_all; omega)), trivial⟩, unw_take 23 rfl rfl⟩
   rintro _ jr19 w12 M
   refine wc_cond rfl (fun ht71 => ?_) (fun ht71 => ?_)
   ·refine wc_seq ?_
    refine wc_draws (fun w' => Mem w I I (box b11 50 [.int .i64 x6.src, .int .i64 x6.dst, .int .i32 x6.inp, .int .i32 x6.out] :: row EInt (sv u15) l_15_6 :: box b2 25 [.int .i64 t.states, .int .i64 t.start, sv fu1, sv au1] :: []) w' ∧ True) [9] fol ?_
    replace M := M.drew
    have hS := (⟨M, trivial⟩ : _ ∧ _)
    refine wa_q 0 rfl (by kernel_rfl) (q_move rfl) hS rfl rfl ?_
    refine wa_q 1 rfl (by kernel_rfl) (q_fa fo_50_0 rfl) hS rfl rfl ?_
    refine wa_q 2 rfl (by kernel_rfl) ((q_ldb 0 Try.underlying3 rfl rfl rfl rfl).mono fun _ h => h.1) hS rfl rfl ?_
    refine wa_q 3 rfl (by kernel_rfl) (q_move rfl) hS rfl rfl ?_
    refine wa_q 4 rfl (by kernel_rfl) (q_move rfl) hS rfl rfl ?_
    refine wa_q 5 rfl (by kernel_rfl) ((q_ldbA 0 Try.underlying50 rfl sz50 rfl rfl rfl rfl).mono fun _ h => h.1) hS rfl rfl ?_
    refine wa_e 6 rfl (by kernel_rfl) (e_callVC (vs := [.agg #[.int .i64 x6.src, .int .i64 x6.dst, .int .i32 x6.inp, .int .i32 x6.out]]) (caps := []) M (reads_c x6 M.imm) Try.func36 rfl rfl rfl) rfl rfl ?_
    rintro _ w13 ⟨J78, hJ78, rfl, M⟩
    have hS := (⟨(M.less hJ78 (fun _ _ => rfl)), trivial⟩ : _ ∧ _)
    refine ⟨fun _ => hS, ?_⟩
    replace M := M.less hJ78 (fun _ _ => rfl)
    refine wa_q 7 rfl (by kernel_rfl) (q_add rfl rfl (IntWalk.i64_in _ (by omega))) hS rfl rfl ?_
    refine wa_ixw (j := x6.src.toNat) 8 1 M hS rfl rfl (by kernel_rfl) Try.underlying22 rfl (ixe (by omega)) (by rw [hll]; omega) rfl (fun b80 o80 p80 => ?_)
    refine wa_e0 9 rfl (by kernel_rfl) (e_str (u := (lat l_15_6 x6.dst) + (readA x6)) 1 M rfl rfl rfl p80 (by rw [hll]; omega) rfl) rfl ?_
    intro _ w14 M
    simp only [sC0, sCS] at M
    refine ⟨nofun, ?_⟩
    refine wa_done (by kernel_rfl) ?_
    refine wc_region <| wl_as M rfl rfl <| wl_nil <| wc_region <| wl_m M (q_add rfl rfl (IntWalk.i64_in _ (by omega))) rfl rfl ?_
    refine wl_mv M rfl rfl <| wl_nil ?_
    replace M := M.drop 0
    refine ⟨(k6 + 1, true, l_15_6.set x6.src.toNat ((lat l_15_6 x6.dst) + (readA x6))), ?_, ⟨(by omega), (hp.hit hx6 hcr hx6r.1 hx6r.2 hf ht71), M⟩, ⟨rfl, rfl, trivial⟩, unw_look rfl (unw_hav rfl (unw_look rfl unw_base))⟩
    show t.arcs.length - (k6 + 1) < t.arcs.length - k6
    omega
   refine wc_skip <| wc_region <| wl_m M (q_add rfl rfl (IntWalk.i64_in _ (by omega))) rfl rfl ?_
   refine wl_mv M rfl rfl <| wl_nil ?_
   replace M := M.drop 0
   refine ⟨(k6 + 1, ag6, l_15_6), ?_, ⟨(by omega), (hp.skip hx6 ht71), M⟩, ⟨rfl, rfl, trivial⟩, unw_look rfl (unw_hav rfl (unw_look rfl unw_base))⟩
   show t.arcs.length - (k6 + 1) < t.arcs.length - k6
   omega
  have hke6 : k6 = t.arcs.length := by omega
  refine wc_exit rfl ?_
  refine ⟨(ag6, l_15_6), ?_, ⟨hp.inn, (fun e => by have := (hp.cl e).2; rw [hke6, List.take_length] at this; rw [(hp.cl e).1]; exact this), M⟩, ⟨rfl, trivial⟩, unw_look rfl (unw_hav rfl (unw_look rfl unw_base))⟩
  show 2 * muL m l_15_6 + ag6.toNat < 2 * muL m l_15_4 + ag4.toNat
  subst ht36
  cases hag : ag6 with
  | true => have := hp.up hag; simp; omega
  | false => have := (hp.cl hag).1; subst this; simp
 refine wc_exit rfl ?_
 refine wc_seq <| wc_region <| wl_mv M rfl rfl <| wl_as M rfl rfl <| wl_nil <| wc_ret ?_
 obtain ⟨K1, M, hK1, Rk1⟩ := M.frzRow 0 rfl
 exact out1 rfl rfl ⟨_, K1, rfl, (M.grow : Grow w I _ K1), _, Rk1, hL.ok (hz ht36)⟩
theorem tight1_c {l : List Int} {ud : SV} {bd : Nat} (x : Int) (hx : 0 ≤ x ∧ x.toNat < l.length) {I : Heap} {w : World} (hI : hle I (hp w)) (Hd : I bd = some (.cells ([sv ud] : List Value).toArray 22 (0, 0))) (Rl : rdSl EInt I (sv ud) l) : Calls A 63 #[.int .i64 x, .pointer (some ⟨bd, 0, none⟩)] w (Ret w I fun r _ => r = .bool (!decide (lat l x = 0))) := by
 have M := Mem.start hI
 refine enter Try.func63 rfl 9 Try.ntmps63 [_, _] rfl ?_
 refine wc_seq <| wc_region <| wl_as M rfl rfl <| wl_nil ?_
 refine wc_seq <| wc_region <| wl_m M (q_ldbI Hd Try.underlying22 rfl rfl rfl) rfl rfl <| wl_mv M rfl rfl ?_
 refine wl_ix (j := x.toNat) M Rl Try.underlying22 rfl (ixe (by omega)) (lat_get hx.2) rfl (fun b6 o6 p6 => ?_)
 refine wl_m M (q_ldp p6 rfl rfl) rfl rfl <| wl_m M (q_neq rfl rfl) rfl rfl <| wl_as M rfl rfl <| wl_nil <| wc_ret ?_
 exact out1 rfl rfl ⟨_, _, rfl, M.grow, rfl⟩
theorem indexT_c {fs l : List Int} {u ud : SV} {bd : Nat} (hz : ∀ f ∈ fs, 0 ≤ f ∧ f.toNat < l.length ∧ lat l f = 0) {I : Heap} {w : World} (hI : hle I (hp w)) (Rf : rdSl EInt I (sv u) fs) (Hd : I bd = some (.cells ([sv ud] : List Value).toArray 22 (0, 0))) (Rl : rdSl EInt I (sv ud) l) : Calls A 75 #[sv u, .func (.func 63) #[] #[.pointer (some ⟨bd, 0, none⟩)]] w (Ret w I fun r _ => r = .int .i64 (-1)) := by
 have hll := Rf.len_le
 have M := Mem.start hI
 refine enter Try.func75 rfl 19 Try.ntmps75 [_, _] rfl ?_
 refine wc_seq <| wc_region <| wl_as M rfl rfl <| wl_nil ?_
 refine wc_seq ?_
 refine wc_seq <| wc_region <| wl_mv M rfl rfl <| wl_m M (q_lenR Rf Try.underlying22 rfl) rfl rfl <| wl_mv M rfl rfl <| wl_nil <| wc_block ?_
 refine wc_loop (α := Nat) [4, 5, 8, 9, 10, 11, 12, 13, 14, 15, 16, 17, 18] (fun (k0 : Nat) => [(8, .int .i64 (k0 : Int))])
   (fun (k0 : Nat) w' => (k0 ≤ fs.length) ∧ Mem w I I ([]) w')
   (fun (k0 : Nat) => fs.length - k0) (0) ⟨rfl, trivial⟩ ?_ ?_
 ·refine ⟨Nat.zero_le _, ?_⟩
  exact M
 rintro k0 jj0 w1 ⟨hk0, M⟩
 refine wc_seq <| wc_region <| wl_m M (q_lss rfl rfl) rfl rfl <| wl_nil ?_
 refine wc_seq ?_
 refine wc_dec rfl (fun ht9 => ?_) (fun ht9 => ?_)
 ·obtain ⟨x0, hx0⟩ : ∃ x_, fs[k0]? = some x_ := ⟨_, List.getElem?_eq_getElem (by omega)⟩
  have hll0 := (Rf).len_le
  have hx0r := hz x0 (List.mem_of_getElem? hx0)
  refine wc_skip ?_
  refine wc_seq <| wc_block ?_
  refine wc_seq <| wc_region <| wl_mv M rfl rfl <| wl_as M rfl rfl <| wl_nil ?_
  refine wc_seq <| wc_region <| wl_mv M rfl rfl <| wl_mv M rfl rfl <| wl_mv M rfl rfl ?_
  refine wl_ix (j := k0) M Rf Try.underlying22 rfl rfl hx0 rfl (fun b14 o14 p14 => ?_)
  refine wl_m M (q_ldp p14 rfl rfl) rfl rfl <| wl_e (e_callVC (vs := [.int .i64 x0]) (caps := [.pointer (some ⟨bd, 0, none⟩)]) M (tight1_c x0 ⟨hx0r.1, hx0r.2.1⟩ M.imm Hd Rl) Try.func63 rfl rfl rfl) rfl rfl ?_
  rintro _ w2 ⟨J16, hJ16, rfl, M⟩
  replace M := M.less hJ16 (fun _ _ => rfl)
  refine wl_nil ?_
  refine wc_cond rfl (fun ht16 => ?_) (fun ht16 => ?_)
  ·exact absurd hx0r.2.2 (nd_t ht16)
  refine wc_skip <| wc_region <| wl_m M (q_add rfl rfl (IntWalk.i64_in _ (by omega))) rfl rfl ?_
  refine wl_mv M rfl rfl <| wl_nil ?_
  refine ⟨(k0 + 1), ?_, ⟨(by omega), M⟩, ⟨rfl, trivial⟩, unw_look rfl unw_base⟩
  show fs.length - (k0 + 1) < fs.length - k0
  omega
 have hke0 : k0 = fs.length := by omega
 refine wc_exit rfl ?_
 refine wc_seq <| wc_region <| wl_as M rfl rfl <| wl_nil <| wc_ret ?_
 exact out1 rfl rfl ⟨_, _, rfl, M.grow, rfl⟩
theorem deleteT_c {fs l : List Int} {u ud : SV} {bd : Nat} (hz : ∀ f ∈ fs, 0 ≤ f ∧ f.toNat < l.length ∧ lat l f = 0) {I : Heap} {w : World} (hI : hle I (hp w)) (Rf : rdSl EInt I (sv u) fs) (Hd : I bd = some (.cells ([sv ud] : List Value).toArray 22 (0, 0))) (Rl : rdSl EInt I (sv ud) l) : Calls A 61 #[sv u, .func (.func 63) #[] #[.pointer (some ⟨bd, 0, none⟩)]] w (Ret w I fun r _ => r = sv u) := by
 have M := Mem.start hI
 refine enter Try.func61 rfl 42 Try.ntmps61 [_, _] rfl ?_
 refine wc_seq <| wc_region <| wl_as M rfl rfl <| wl_nil ?_
 refine wc_seq <| wc_region <| wl_mv M rfl rfl <| wl_mv M rfl rfl <| wl_e (e_callC M (indexT_c hz M.imm Rf Hd Rl) Try.func75 rfl rfl) rfl rfl ?_
 rintro _ w1 ⟨J10, hJ10, rfl, M⟩
 replace M := M.less hJ10 (fun _ _ => rfl)
 refine wl_as M rfl rfl <| wl_nil ?_
 refine wc_seq ?_
 refine wc_seq <| wc_region <| wl_mv M rfl rfl <| wl_m M (q_eql rfl rfl) rfl rfl <| wl_nil ?_
 refine wc_dec rfl (fun ht12 => ?_) (fun ht12 => ?_)
 ·refine wc_seq <| wc_region <| wl_mv M rfl rfl <| wl_as M rfl rfl <| wl_nil <| wc_ret ?_
  exact out1 rfl rfl ⟨_, _, rfl, M.grow, rfl⟩
 exact absurd rfl ht12
set_option maxRecDepth 4000 in
set_option maxHeartbeats 1000000 in
theorem tightC_c {t : Tra} {m : Nat} (ha : t.Ok m) (hf : ∀ f ∈ t.finals, 0 ≤ f ∧ f < m) (hfl : t.finals.length ≤ 4096) {v1 : Value} {I : Heap} {w : World} (hI : hle I (hp w)) (R1 : t.rd I v1) :
    Calls A 33 #[v1, .func (.func 35) #[] #[]] w (Ret w I fun r I' => ∃ l : List Int, LeaOk t costA m l ∧ (tgt t costA l).rd I' r) := by
 obtain ⟨fu1, au1, rfl, Rf1, Ra1⟩ := R1
 have hst := ha.st
 have hmle := ha.le
 have hlf := Rf1.len_le
 have hla := Ra1.len_le
 have hal := ha.alen
 have M := Mem.start hI
 refine enter Try.func33 rfl 58 Try.ntmps33 [_, _] rfl ?_
 refine wc_seq <| wc_region <| wl_e (e_box M rfl) rfl rfl ?_
 rintro _ w1 ⟨b2, rfl, M⟩
 refine wl_e (e_alloc M z25) rfl rfl ?_
 rintro _ w2 ⟨b4, rfl, M⟩
 refine wl_nil ?_
 refine wc_seq <| wc_region <| wl_m M (q_ldbA 1 Try.underlying25 rfl sz25 rfl rfl rfl rfl) rfl rfl <| wl_mv M rfl rfl <| wl_e (e_callC M (leastC_c ha hf M.imm ⟨_, _, rfl, Rf1, Ra1⟩) Try.func60 rfl rfl) rfl rfl ?_
 rintro v11 w3 ⟨J11, hJ11, ⟨l, R11, hlo⟩, M⟩
 obtain ⟨u11, rfl⟩ := rdSl_slice R11
 have hll := hlo.len
 have hoJ11 := M.old
 refine wl_e (e_alloc M z22) rfl rfl ?_
 rintro _ w4 ⟨b5, rfl, M⟩
 refine wl_e0 (e_stW 0 M rfl rfl rfl sz22 rfl rfl) rfl ?_
 intro _ w5 M
 try simp only [sC0, sCS] at M
 refine wl_nil ?_
 refine wc_seq <| wc_region <| wl_m M (q_ldbA 2 Try.underlying25 rfl sz25 rfl rfl rfl rfl) rfl rfl <| wl_e (e_alloc M z25) rfl rfl ?_
 rintro _ w6 ⟨b6, rfl, M⟩
 refine wl_e0 (e_stW 0 M rfl rfl rfl sz25 rfl rfl) rfl ?_
 intro _ w7 M
 try simp only [sC0, sCS] at M
 refine wl_nil ?_
 refine wc_seq <| wc_region <| wl_m M (q_fa fo_25_3 rfl) rfl rfl ?_
 refine wl_e0 (e_stb 0 M rfl rfl rfl sz23 rfl rfl) rfl ?_
 intro _ w8 M
 try simp only [sC0, sCS] at M
 refine wl_nil ?_
 refine wc_seq ?_
 refine wc_seq ?_
 replace M := M.nilRow EArc
 refine wc_region <| wl_m M (q_fa fo_25_3 rfl) rfl rfl <| wl_m M (q_ldb 4 Try.underlying23 rfl rfl rfl rfl) rfl rfl <| wl_m M (q_lenR (Ra1.mono hJ11) Try.underlying23 rfl) rfl rfl <| wl_mv M rfl rfl <| wl_nil <| wc_block ?_
 refine wc_loop (α := Nat × SV × (List Arc)) [8, 17, 18, 19, 20, 21, 22, 23, 24, 25, 26, 27, 28, 29, 30, 31, 32, 33, 34, 35, 36, 37, 38, 39, 40, 41, 42, 43, 44, 45, 46, 47, 48, 49, 50] (fun ((k0, u_a_0, l_a_0) : Nat × SV × (List Arc)) => [(17, .int .i64 (k0 : Int))])
   (fun ((k0, u_a_0, l_a_0) : Nat × SV × (List Arc)) w' => (k0 ≤ t.arcs.length) ∧ (l_a_0 = (t.arcs.take k0).filter (tgA l costA)) ∧ Mem w I J11 (row EArc (sv u_a_0) l_a_0 :: box b6 25 [.int .i64 t.states, .int .i64 t.start, sv fu1, sv u_a_0] :: box b5 22 [sv u11] :: box b4 25 [.int .i64 0, .int .i64 0, .slice none 0 0, .slice none 0 0] :: box b2 25 [.int .i64 t.states, .int .i64 t.start, sv fu1, sv au1] :: []) w')
   (fun ((k0, u_a_0, l_a_0) : Nat × SV × (List Arc)) => t.arcs.length - k0) (0, nilV, []) ⟨rfl, trivial⟩ ?_ ?_
 ·refine ⟨Nat.zero_le _, rfl, ?_⟩
  exact M
 rintro ⟨k0, u_a_0, l_a_0⟩ jj0 w9 ⟨hk0, haa, M⟩
 have hoJ11 := M.old
 refine wc_seq <| wc_region <| wl_m M (q_lss rfl rfl) rfl rfl <| wl_nil ?_
 refine wc_seq ?_
 refine wc_dec rfl (fun ht18 => ?_) (fun ht18 => ?_)
 ·obtain ⟨x0, hx0⟩ : ∃ x_, t.arcs[k0]? = some x_ := ⟨_, List.getElem?_eq_getElem (by omega)⟩
  have hll0 := ((Ra1.mono hJ11)).len_le
  have hxr := ha.arcs x0 (List.mem_of_getElem? hx0)
  have hb0 := hlo.bnd x0.dst
  have hlo0 := hlo.low x0.dst
  have hcr := costA_rng x0
  refine wc_skip ?_
  refine wc_seq <| wc_block ?_
  refine wc_seq <| wc_region ?_
  refine wl_ix (j := k0) M (Ra1.mono hJ11) Try.underlying23 rfl rfl hx0 rfl (fun b19 o19 p19 => ?_)
  refine wl_m M (q_ldp p19 rfl rfl) rfl rfl <| wl_e (e_alloc M z50) rfl rfl ?_
  rintro _ w10 ⟨b8, rfl, M⟩
  refine wl_e0 (e_stW 0 M rfl rfl rfl sz50 rfl rfl) rfl ?_
  intro _ w11 M
  try simp only [sC0, sCS] at M
  refine wl_nil ?_
  refine wc_seq ?_
  refine wc_join (α := Unit) [21, 22, 23, 24, 25, 26, 27, 28, 29, 30, 31, 32, 33, 34, 35, 36, 37, 38, 39, 40, 41, 42, 43] (fun _ => [(43, .bool ((decide (0 ≤ (lat l x0.dst))) && (decide ((lat l x0.src) = ((lat l x0.dst) + (costA x0))))))]) (fun _ w' => Mem w I J11 (box b8 50 [.int .i64 x0.src, .int .i64 x0.dst, .int .i32 x0.inp, .int .i32 x0.out] :: row EArc (sv u_a_0) l_a_0 :: box b6 25 [.int .i64 t.states, .int .i64 t.start, sv fu1, sv u_a_0] :: box b5 22 [sv u11] :: box b4 25 [.int .i64 0, .int .i64 0, .slice none 0 0, .slice none 0 0] :: box b2 25 [.int .i64 t.states, .int .i64 t.start, sv fu1, sv au1] :: []) w') ?_ ?_
  ·refine wc_draws (fun w' => Mem w I J11 (box b8 50 [.int .i64 x0.src, .int .i64 x0.dst, .int .i32 x0.inp, .int .i32 x0.out] :: row EArc (sv u_a_0) l_a_0 :: box b6 25 [.int .i64 t.states, .int .i64 t.start, sv fu1, sv u_a_0] :: box b5 22 [sv u11] :: box b4 25 [.int .i64 0, .int .i64 0, .slice none 0 0, .slice none 0 0] :: box b2 25 [.int .i64 t.states, .int .i64 t.start, sv fu1, sv au1] :: []) w' ∧ True) [] fol ?_
   replace M := M.drew
   have hS := (⟨M, trivial⟩ : _ ∧ _)
   refine wa_q 0 rfl (by kernel_rfl) ((q_ldb 3 Try.underlying22 rfl rfl rfl rfl).mono fun _ h => h.1) hS rfl rfl ?_
   refine wa_q 1 rfl (by kernel_rfl) (q_fa fo_50_1 rfl) hS rfl rfl ?_
   refine wa_q 2 rfl (by kernel_rfl) ((q_ldb 0 Try.underlying3 rfl rfl rfl rfl).mono fun _ h => h.1) hS rfl rfl ?_
   refine wa_ixS (j := x0.dst.toNat) 3 hS (fun _ h => R11.mono h.1.imm) rfl (by kernel_rfl) Try.underlying22 rfl (ixe (by omega)) (lat_get (by rw [hll]; omega)) rfl (fun b24 o24 p24 => ?_)
   refine wa_q 4 rfl (by kernel_rfl) (q_ldp p24 rfl rfl) hS rfl rfl ?_
   refine wa_q 5 rfl (by kernel_rfl) (q_geq rfl rfl) hS rfl rfl ?_
   refine wa_q 6 rfl (by kernel_rfl) (q_move rfl) hS rfl rfl ?_
   rcases Bool.eq_false_or_eq_true (decide (0 ≤ (lat l x0.dst))) with hg27 | hg27
   ·refine wa_q 7 rfl (by kernel_rfl) ((q_guard 6 rfl rfl rfl hg27 (q_ldb 3 Try.underlying22 rfl rfl rfl rfl)).mono fun _ h => h.1) hS rfl rfl ?_
    refine wa_q 8 rfl (by kernel_rfl) (q_guard 6 rfl rfl rfl hg27 (q_fa fo_50_0 rfl)) hS rfl rfl ?_
    refine wa_q 9 rfl (by kernel_rfl) ((q_guard 6 rfl rfl rfl hg27 (q_ldb 0 Try.underlying3 rfl rfl rfl rfl)).mono fun _ h => h.1) hS rfl rfl ?_
    refine wa_ixSG (j := x0.src.toNat) 6 rfl rfl rfl hg27 10 hS (fun _ h => R11.mono h.1.imm) rfl (by kernel_rfl) Try.underlying22 rfl (ixe (by omega)) (lat_get (by rw [hll]; omega)) rfl (fun b31 o31 p31 => ?_)
    refine wa_q 11 rfl (by kernel_rfl) (q_guard 6 rfl rfl rfl hg27 (q_ldp p31 rfl rfl)) hS rfl rfl ?_
    refine wa_q 12 rfl (by kernel_rfl) ((q_guard 6 rfl rfl rfl hg27 (q_ldb 3 Try.underlying22 rfl rfl rfl rfl)).mono fun _ h => h.1) hS rfl rfl ?_
    refine wa_q 13 rfl (by kernel_rfl) (q_guard 6 rfl rfl rfl hg27 (q_fa fo_50_1 rfl)) hS rfl rfl ?_
    refine wa_q 14 rfl (by kernel_rfl) ((q_guard 6 rfl rfl rfl hg27 (q_ldb 0 Try.underlying3 rfl rfl rfl rfl)).mono fun _ h => h.1) hS rfl rfl ?_
    refine wa_ixSG (j := x0.dst.toNat) 6 rfl rfl rfl hg27 15 hS (fun _ h => R11.mono h.1.imm) rfl (by kernel_rfl) Try.underlying22 rfl (ixe (by omega)) (lat_get (by rw [hll]; omega)) rfl (fun b36 o36 p36 => ?_)
    refine wa_q 16 rfl (by kernel_rfl) (q_guard 6 rfl rfl rfl hg27 (q_ldp p36 rfl rfl)) hS rfl rfl ?_
    refine wa_q 17 rfl (by kernel_rfl) (q_guard 6 rfl rfl rfl hg27 (q_move rfl)) hS rfl rfl ?_
    refine wa_q 18 rfl (by kernel_rfl) ((q_guard 6 rfl rfl rfl hg27 (q_ldbA 0 Try.underlying50 rfl sz50 rfl rfl rfl rfl)).mono fun _ h => h.1) hS rfl rfl ?_
    refine wa_e 19 rfl (by kernel_rfl) (e_guard 6 rfl rfl rfl hg27 (e_callVC (vs := [.agg #[.int .i64 x0.src, .int .i64 x0.dst, .int .i32 x0.inp, .int .i32 x0.out]]) (caps := []) M (cost_c x0 M.imm) Try.func35 rfl rfl rfl)) rfl rfl ?_
    rintro _ w12 ⟨J40, hJ40, rfl, M⟩
    have hS := (⟨(M.less hJ40 hoJ11), trivial⟩ : _ ∧ _)
    refine ⟨fun _ => hS, ?_⟩
    replace M := M.less hJ40 hoJ11
    refine wa_q 20 rfl (by kernel_rfl) (q_guard 6 rfl rfl rfl hg27 (q_add rfl rfl (IntWalk.i64_in _ (by omega)))) hS rfl rfl ?_
    refine wa_q 21 rfl (by kernel_rfl) (q_guard 6 rfl rfl rfl hg27 (q_eql rfl rfl)) hS rfl rfl ?_
    refine wa_q 22 rfl (by kernel_rfl) (q_pickT rfl hg27 rfl) hS rfl rfl ?_
    refine wa_done (by kernel_rfl) ?_
    exact ⟨(), M, ⟨(show some (Value.bool (decide ((lat l x0.src) = ((lat l x0.dst) + (costA x0))))) = some (Value.bool ((decide (0 ≤ (lat l x0.dst))) && (decide ((lat l x0.src) = ((lat l x0.dst) + (costA x0)))))) from by first | (simp only [hg27, bL8]; done) | (simp_all; done) | (simp_all; omega)), trivial⟩, unw_take 23 rfl rfl⟩
   refine wa_q 7 rfl (by kernel_rfl) (q_off 6 rfl rfl rfl hg27) hS rfl rfl ?_
   refine wa_q 8 rfl (by kernel_rfl) (q_off 6 rfl rfl rfl hg27) hS rfl rfl ?_
   refine wa_q 9 rfl (by kernel_rfl) (q_off 6 rfl rfl rfl hg27) hS rfl rfl ?_
   refine wa_q 10 rfl (by kernel_rfl) (q_off 6 rfl rfl rfl hg27) hS rfl rfl ?_
   refine wa_q 11 rfl (by kernel_rfl) (q_off 6 rfl rfl rfl hg27) hS rfl rfl ?_
   refine wa_q 12 rfl (by kernel_rfl) (q_off 6 rfl rfl rfl hg27) hS rfl rfl ?_
   refine wa_q 13 rfl (by kernel_rfl) (q_off 6 rfl rfl rfl hg27) hS rfl rfl ?_
   refine wa_q 14 rfl (by kernel_rfl) (q_off 6 rfl rfl rfl hg27) hS rfl rfl ?_
   refine wa_q 15 rfl (by kernel_rfl) (q_off 6 rfl rfl rfl hg27) hS rfl rfl ?_
   refine wa_q 16 rfl (by kernel_rfl) (q_off 6 rfl rfl rfl hg27) hS rfl rfl ?_
   refine wa_q 17 rfl (by kernel_rfl) (q_off 6 rfl rfl rfl hg27) hS rfl rfl ?_
   refine wa_q 18 rfl (by kernel_rfl) (q_off 6 rfl rfl rfl hg27) hS rfl rfl ?_
   refine wa_q 19 rfl (by kernel_rfl) (q_off 6 rfl rfl rfl hg27) hS rfl rfl ?_
   refine wa_q 20 rfl (by kernel_rfl) (q_off 6 rfl rfl rfl hg27) hS rfl rfl ?_
   refine wa_q 21 rfl (by kernel_rfl) (q_off 6 rfl rfl rfl hg27) hS rfl rfl ?_
   refine wa_q 22 rfl (by kernel_rfl) (q_pickF rfl hg27 rfl) hS rfl rfl ?_
   refine wa_done (by kernel_rfl) ?_
   exact ⟨(), M, ⟨(show some (Value.bool false) = some (Value.bool ((decide (0 ≤ (lat l x0.dst))) && (decide ((lat l x0.src) = ((lat l x0.dst) + (costA x0)))))) from by first | (simp only [hg27, bL8]; done) | (simp_all; done) | (simp_all; omega)), trivial⟩, unw_take 23 rfl rfl⟩
  rintro _ jr7 w13 M
  refine wc_cond rfl (fun ht43 => ?_) (fun ht43 => ?_)
  ·refine wc_region <| wl_m M (q_fa fo_25_3 rfl) rfl rfl <| wl_m M (q_ldb 2 Try.underlying23 rfl rfl rfl rfl) rfl rfl <| wl_m M (q_ldbA 0 Try.underlying50 rfl sz50 rfl rfl rfl rfl) rfl rfl <| wl_e (e_bsI (E := EArc) (xs := [x0]) M (bs_23_1 _ _ _ _) ⟨⟨rfl, rfl⟩, trivial⟩ rfl rfl (by decide)) rfl rfl ?_
   rintro _ w14 ⟨u47, J47, rfl, hJ47, R47, M⟩
   have hoJ47 := M.old
   refine wl_e (e_app 1 M rfl R47 Try.underlying23 rfl rfl (by rw [haa]; have := List.length_filter_le (tgA l costA) (t.arcs.take k0); rw [List.length_take] at this; show (_ + 1) * 24 ≤ _; omega)) rfl rfl ?_
   rintro _ w15 ⟨u48, rfl, M⟩
   replace M := M.less hJ47 hoJ11
   try simp only [sC0, sCS] at M
   refine wl_m M (q_fa fo_25_3 rfl) rfl rfl ?_
   refine wl_e0 (e_stb 2 M rfl rfl rfl sz23 rfl rfl) rfl ?_
   intro _ w16 M
   try simp only [sC0, sCS] at M
   refine wl_nil <| wc_region <| wl_m M (q_add rfl rfl (IntWalk.i64_in _ (by omega))) rfl rfl ?_
   refine wl_mv M rfl rfl <| wl_nil ?_
   replace M := M.drop 0
   refine ⟨(k0 + 1, u48, l_a_0 ++ [x0]), ?_, ⟨(by omega), (by rw [take_snoc hx0, List.filter_append, haa, List.filter_cons, tgA, ht43]; rfl), M⟩, ⟨rfl, trivial⟩, unw_look rfl (unw_hav rfl (unw_look rfl unw_base))⟩
   show t.arcs.length - (k0 + 1) < t.arcs.length - k0
   omega
  refine wc_skip <| wc_region <| wl_m M (q_add rfl rfl (IntWalk.i64_in _ (by omega))) rfl rfl ?_
  refine wl_mv M rfl rfl <| wl_nil ?_
  replace M := M.drop 0
  refine ⟨(k0 + 1, u_a_0, l_a_0), ?_, ⟨(by omega), (by rw [take_snoc hx0, List.filter_append, haa, List.filter_cons, tgA, ht43]; simp), M⟩, ⟨rfl, trivial⟩, unw_look rfl (unw_hav rfl (unw_look rfl unw_base))⟩
  show t.arcs.length - (k0 + 1) < t.arcs.length - k0
  omega
 have hke0 : k0 = t.arcs.length := by omega
 refine wc_exit rfl ?_
 refine wc_seq ?_
 rw [hke0, List.take_length] at haa
 obtain ⟨I12, M, hI12, Hd⟩ := M.frzBox 2 rfl
 have hoI12 := M.old
 refine wc_region <| wl_m M (q_fa fo_25_2 rfl) rfl rfl <| wl_m M (q_ldb 3 Try.underlying22 rfl rfl rfl rfl) rfl rfl <| wl_e (e_callO (val := sv) Try.func62 rfl (vs := [sv fu1]) rfl (clone_c (by omega) M ((Rf1.mono hJ11).mono hI12))) rfl rfl ?_
 rintro _ w17 ⟨u53, rfl, M⟩
 obtain ⟨I20, M, hI20, Rc⟩ := M.frzRow 0 rfl
 have hoI20 := M.old
 refine wl_m M (q_makeFunc (vs := [.pointer (some ⟨b5, 0, none⟩)]) rfl) rfl rfl <| wl_e (e_callC M (deleteT_c (fs := t.finals) (l := l) (fun f hf1 => ⟨(hf f hf1).1, by have := hf f hf1; rw [hll]; omega, hlo.fin f hf1⟩) M.imm Rc (hI20 _ _ Hd) ((R11.mono hI12).mono hI20)) Try.func61 rfl rfl) rfl rfl ?_
 rintro _ w18 ⟨J55, hJ55, rfl, M⟩
 have hoJ55 := M.old
 refine wl_m M (q_fa fo_25_2 rfl) rfl rfl ?_
 refine wl_e0 (e_stb 1 M rfl rfl rfl sz22 rfl rfl) rfl ?_
 intro _ w19 M
 try simp only [sC0, sCS] at M
 refine wl_nil ?_
 refine wc_seq <| wc_region <| wl_m M (q_ldbA 1 Try.underlying25 rfl sz25 rfl rfl rfl rfl) rfl rfl ?_
 refine wl_e0 (e_stW 2 M rfl rfl rfl sz25 rfl rfl) rfl ?_
 intro _ w20 M
 try simp only [sC0, sCS] at M
 refine wl_nil <| wc_ret ?_
 obtain ⟨K1, M, hK1, Rk1⟩ := M.frzRow 0 rfl
 rw [haa] at Rk1
 exact outc rfl rfl (load_boxA M 1 Try.underlying25 rfl sz25 rfl rfl rfl) ⟨_, K1, rfl, (M.grow : Grow w I _ K1), l, hlo, ⟨_, _, rfl, ((Rc.mono hJ55).mono hK1), Rk1⟩⟩
set_option maxRecDepth 4000 in
set_option maxHeartbeats 1000000 in
theorem tightR_c {t : Tra} {m : Nat} (ha : t.Ok m) (hf : ∀ f ∈ t.finals, 0 ≤ f ∧ f < m) (hfl : t.finals.length ≤ 4096) {v1 : Value} {I : Heap} {w : World} (hI : hle I (hp w)) (R1 : t.rd I v1) :
    Calls A 33 #[v1, .func (.func 36) #[] #[]] w (Ret w I fun r I' => ∃ l : List Int, LeaOk t readA m l ∧ (tgt t readA l).rd I' r) := by
 obtain ⟨fu1, au1, rfl, Rf1, Ra1⟩ := R1
 have hst := ha.st
 have hmle := ha.le
 have hlf := Rf1.len_le
 have hla := Ra1.len_le
 have hal := ha.alen
 have M := Mem.start hI
 refine enter Try.func33 rfl 58 Try.ntmps33 [_, _] rfl ?_
 refine wc_seq <| wc_region <| wl_e (e_box M rfl) rfl rfl ?_
 rintro _ w1 ⟨b2, rfl, M⟩
 refine wl_e (e_alloc M z25) rfl rfl ?_
 rintro _ w2 ⟨b4, rfl, M⟩
 refine wl_nil ?_
 refine wc_seq <| wc_region <| wl_m M (q_ldbA 1 Try.underlying25 rfl sz25 rfl rfl rfl rfl) rfl rfl <| wl_mv M rfl rfl <| wl_e (e_callC M (leastR_c ha hf M.imm ⟨_, _, rfl, Rf1, Ra1⟩) Try.func60 rfl rfl) rfl rfl ?_
 rintro v11 w3 ⟨J11, hJ11, ⟨l, R11, hlo⟩, M⟩
 obtain ⟨u11, rfl⟩ := rdSl_slice R11
 have hll := hlo.len
 have hoJ11 := M.old
 refine wl_e (e_alloc M z22) rfl rfl ?_
 rintro _ w4 ⟨b5, rfl, M⟩
 refine wl_e0 (e_stW 0 M rfl rfl rfl sz22 rfl rfl) rfl ?_
 intro _ w5 M
 try simp only [sC0, sCS] at M
 refine wl_nil ?_
 refine wc_seq <| wc_region <| wl_m M (q_ldbA 2 Try.underlying25 rfl sz25 rfl rfl rfl rfl) rfl rfl <| wl_e (e_alloc M z25) rfl rfl ?_
 rintro _ w6 ⟨b6, rfl, M⟩
 refine wl_e0 (e_stW 0 M rfl rfl rfl sz25 rfl rfl) rfl ?_
 intro _ w7 M
 try simp only [sC0, sCS] at M
 refine wl_nil ?_
 refine wc_seq <| wc_region <| wl_m M (q_fa fo_25_3 rfl) rfl rfl ?_
 refine wl_e0 (e_stb 0 M rfl rfl rfl sz23 rfl rfl) rfl ?_
 intro _ w8 M
 try simp only [sC0, sCS] at M
 refine wl_nil ?_
 refine wc_seq ?_
 refine wc_seq ?_
 replace M := M.nilRow EArc
 refine wc_region <| wl_m M (q_fa fo_25_3 rfl) rfl rfl <| wl_m M (q_ldb 4 Try.underlying23 rfl rfl rfl rfl) rfl rfl <| wl_m M (q_lenR (Ra1.mono hJ11) Try.underlying23 rfl) rfl rfl <| wl_mv M rfl rfl <| wl_nil <| wc_block ?_
 refine wc_loop (α := Nat × SV × (List Arc)) [8, 17, 18, 19, 20, 21, 22, 23, 24, 25, 26, 27, 28, 29, 30, 31, 32, 33, 34, 35, 36, 37, 38, 39, 40, 41, 42, 43, 44, 45, 46, 47, 48, 49, 50] (fun ((k0, u_a_0, l_a_0) : Nat × SV × (List Arc)) => [(17, .int .i64 (k0 : Int))])
   (fun ((k0, u_a_0, l_a_0) : Nat × SV × (List Arc)) w' => (k0 ≤ t.arcs.length) ∧ (l_a_0 = (t.arcs.take k0).filter (tgA l readA)) ∧ Mem w I J11 (row EArc (sv u_a_0) l_a_0 :: box b6 25 [.int .i64 t.states, .int .i64 t.start, sv fu1, sv u_a_0] :: box b5 22 [sv u11] :: box b4 25 [.int .i64 0, .int .i64 0, .slice none 0 0, .slice none 0 0] :: box b2 25 [.int .i64 t.states, .int .i64 t.start, sv fu1, sv au1] :: []) w')
   (fun ((k0, u_a_0, l_a_0) : Nat × SV × (List Arc)) => t.arcs.length - k0) (0, nilV, []) ⟨rfl, trivial⟩ ?_ ?_
 ·refine ⟨Nat.zero_le _, rfl, ?_⟩
  exact M
 rintro ⟨k0, u_a_0, l_a_0⟩ jj0 w9 ⟨hk0, haa, M⟩
 have hoJ11 := M.old
 refine wc_seq <| wc_region <| wl_m M (q_lss rfl rfl) rfl rfl <| wl_nil ?_
 refine wc_seq ?_
 refine wc_dec rfl (fun ht18 => ?_) (fun ht18 => ?_)
 ·obtain ⟨x0, hx0⟩ : ∃ x_, t.arcs[k0]? = some x_ := ⟨_, List.getElem?_eq_getElem (by omega)⟩
  have hll0 := ((Ra1.mono hJ11)).len_le
  have hxr := ha.arcs x0 (List.mem_of_getElem? hx0)
  have hb0 := hlo.bnd x0.dst
  have hlo0 := hlo.low x0.dst
  have hcr := readA_rng x0
  refine wc_skip ?_
  refine wc_seq <| wc_block ?_
  refine wc_seq <| wc_region ?_
  refine wl_ix (j := k0) M (Ra1.mono hJ11) Try.underlying23 rfl rfl hx0 rfl (fun b19 o19 p19 => ?_)
  refine wl_m M (q_ldp p19 rfl rfl) rfl rfl <| wl_e (e_alloc M z50) rfl rfl ?_
  rintro _ w10 ⟨b8, rfl, M⟩
  refine wl_e0 (e_stW 0 M rfl rfl rfl sz50 rfl rfl) rfl ?_
  intro _ w11 M
  try simp only [sC0, sCS] at M
  refine wl_nil ?_
  refine wc_seq ?_
  refine wc_join (α := Unit) [21, 22, 23, 24, 25, 26, 27, 28, 29, 30, 31, 32, 33, 34, 35, 36, 37, 38, 39, 40, 41, 42, 43] (fun _ => [(43, .bool ((decide (0 ≤ (lat l x0.dst))) && (decide ((lat l x0.src) = ((lat l x0.dst) + (readA x0))))))]) (fun _ w' => Mem w I J11 (box b8 50 [.int .i64 x0.src, .int .i64 x0.dst, .int .i32 x0.inp, .int .i32 x0.out] :: row EArc (sv u_a_0) l_a_0 :: box b6 25 [.int .i64 t.states, .int .i64 t.start, sv fu1, sv u_a_0] :: box b5 22 [sv u11] :: box b4 25 [.int .i64 0, .int .i64 0, .slice none 0 0, .slice none 0 0] :: box b2 25 [.int .i64 t.states, .int .i64 t.start, sv fu1, sv au1] :: []) w') ?_ ?_
  ·refine wc_draws (fun w' => Mem w I J11 (box b8 50 [.int .i64 x0.src, .int .i64 x0.dst, .int .i32 x0.inp, .int .i32 x0.out] :: row EArc (sv u_a_0) l_a_0 :: box b6 25 [.int .i64 t.states, .int .i64 t.start, sv fu1, sv u_a_0] :: box b5 22 [sv u11] :: box b4 25 [.int .i64 0, .int .i64 0, .slice none 0 0, .slice none 0 0] :: box b2 25 [.int .i64 t.states, .int .i64 t.start, sv fu1, sv au1] :: []) w' ∧ True) [] fol ?_
   replace M := M.drew
   have hS := (⟨M, trivial⟩ : _ ∧ _)
   refine wa_q 0 rfl (by kernel_rfl) ((q_ldb 3 Try.underlying22 rfl rfl rfl rfl).mono fun _ h => h.1) hS rfl rfl ?_
   refine wa_q 1 rfl (by kernel_rfl) (q_fa fo_50_1 rfl) hS rfl rfl ?_
   refine wa_q 2 rfl (by kernel_rfl) ((q_ldb 0 Try.underlying3 rfl rfl rfl rfl).mono fun _ h => h.1) hS rfl rfl ?_
   refine wa_ixS (j := x0.dst.toNat) 3 hS (fun _ h => R11.mono h.1.imm) rfl (by kernel_rfl) Try.underlying22 rfl (ixe (by omega)) (lat_get (by rw [hll]; omega)) rfl (fun b24 o24 p24 => ?_)
   refine wa_q 4 rfl (by kernel_rfl) (q_ldp p24 rfl rfl) hS rfl rfl ?_
   refine wa_q 5 rfl (by kernel_rfl) (q_geq rfl rfl) hS rfl rfl ?_
   refine wa_q 6 rfl (by kernel_rfl) (q_move rfl) hS rfl rfl ?_
   rcases Bool.eq_false_or_eq_true (decide (0 ≤ (lat l x0.dst))) with hg27 | hg27
   ·refine wa_q 7 rfl (by kernel_rfl) ((q_guard 6 rfl rfl rfl hg27 (q_ldb 3 Try.underlying22 rfl rfl rfl rfl)).mono fun _ h => h.1) hS rfl rfl ?_
    refine wa_q 8 rfl (by kernel_rfl) (q_guard 6 rfl rfl rfl hg27 (q_fa fo_50_0 rfl)) hS rfl rfl ?_
    refine wa_q 9 rfl (by kernel_rfl) ((q_guard 6 rfl rfl rfl hg27 (q_ldb 0 Try.underlying3 rfl rfl rfl rfl)).mono fun _ h => h.1) hS rfl rfl ?_
    refine wa_ixSG (j := x0.src.toNat) 6 rfl rfl rfl hg27 10 hS (fun _ h => R11.mono h.1.imm) rfl (by kernel_rfl) Try.underlying22 rfl (ixe (by omega)) (lat_get (by rw [hll]; omega)) rfl (fun b31 o31 p31 => ?_)
    refine wa_q 11 rfl (by kernel_rfl) (q_guard 6 rfl rfl rfl hg27 (q_ldp p31 rfl rfl)) hS rfl rfl ?_
    refine wa_q 12 rfl (by kernel_rfl) ((q_guard 6 rfl rfl rfl hg27 (q_ldb 3 Try.underlying22 rfl rfl rfl rfl)).mono fun _ h => h.1) hS rfl rfl ?_
    refine wa_q 13 rfl (by kernel_rfl) (q_guard 6 rfl rfl rfl hg27 (q_fa fo_50_1 rfl)) hS rfl rfl ?_
    refine wa_q 14 rfl (by kernel_rfl) ((q_guard 6 rfl rfl rfl hg27 (q_ldb 0 Try.underlying3 rfl rfl rfl rfl)).mono fun _ h => h.1) hS rfl rfl ?_
    refine wa_ixSG (j := x0.dst.toNat) 6 rfl rfl rfl hg27 15 hS (fun _ h => R11.mono h.1.imm) rfl (by kernel_rfl) Try.underlying22 rfl (ixe (by omega)) (lat_get (by rw [hll]; omega)) rfl (fun b36 o36 p36 => ?_)
    refine wa_q 16 rfl (by kernel_rfl) (q_guard 6 rfl rfl rfl hg27 (q_ldp p36 rfl rfl)) hS rfl rfl ?_
    refine wa_q 17 rfl (by kernel_rfl) (q_guard 6 rfl rfl rfl hg27 (q_move rfl)) hS rfl rfl ?_
    refine wa_q 18 rfl (by kernel_rfl) ((q_guard 6 rfl rfl rfl hg27 (q_ldbA 0 Try.underlying50 rfl sz50 rfl rfl rfl rfl)).mono fun _ h => h.1) hS rfl rfl ?_
    refine wa_e 19 rfl (by kernel_rfl) (e_guard 6 rfl rfl rfl hg27 (e_callVC (vs := [.agg #[.int .i64 x0.src, .int .i64 x0.dst, .int .i32 x0.inp, .int .i32 x0.out]]) (caps := []) M (reads_c x0 M.imm) Try.func36 rfl rfl rfl)) rfl rfl ?_
    rintro _ w12 ⟨J40, hJ40, rfl, M⟩
    have hS := (⟨(M.less hJ40 hoJ11), trivial⟩ : _ ∧ _)
    refine ⟨fun _ => hS, ?_⟩
    replace M := M.less hJ40 hoJ11
    refine wa_q 20 rfl (by kernel_rfl) (q_guard 6 rfl rfl rfl hg27 (q_add rfl rfl (IntWalk.i64_in _ (by omega)))) hS rfl rfl ?_
    refine wa_q 21 rfl (by kernel_rfl) (q_guard 6 rfl rfl rfl hg27 (q_eql rfl rfl)) hS rfl rfl ?_
    refine wa_q 22 rfl (by kernel_rfl) (q_pickT rfl hg27 rfl) hS rfl rfl ?_
    refine wa_done (by kernel_rfl) ?_
    exact ⟨(), M, ⟨(show some (Value.bool (decide ((lat l x0.src) = ((lat l x0.dst) + (readA x0))))) = some (Value.bool ((decide (0 ≤ (lat l x0.dst))) && (decide ((lat l x0.src) = ((lat l x0.dst) + (readA x0)))))) from by first | (simp only [hg27, bL8]; done) | (simp_all; done) | (simp_all; omega)), trivial⟩, unw_take 23 rfl rfl⟩
   refine wa_q 7 rfl (by kernel_rfl) (q_off 6 rfl rfl rfl hg27) hS rfl rfl ?_
   refine wa_q 8 rfl (by kernel_rfl) (q_off 6 rfl rfl rfl hg27) hS rfl rfl ?_
   refine wa_q 9 rfl (by kernel_rfl) (q_off 6 rfl rfl rfl hg27) hS rfl rfl ?_
   refine wa_q 10 rfl (by kernel_rfl) (q_off 6 rfl rfl rfl hg27) hS rfl rfl ?_
   refine wa_q 11 rfl (by kernel_rfl) (q_off 6 rfl rfl rfl hg27) hS rfl rfl ?_
   refine wa_q 12 rfl (by kernel_rfl) (q_off 6 rfl rfl rfl hg27) hS rfl rfl ?_
   refine wa_q 13 rfl (by kernel_rfl) (q_off 6 rfl rfl rfl hg27) hS rfl rfl ?_
   refine wa_q 14 rfl (by kernel_rfl) (q_off 6 rfl rfl rfl hg27) hS rfl rfl ?_
   refine wa_q 15 rfl (by kernel_rfl) (q_off 6 rfl rfl rfl hg27) hS rfl rfl ?_
   refine wa_q 16 rfl (by kernel_rfl) (q_off 6 rfl rfl rfl hg27) hS rfl rfl ?_
   refine wa_q 17 rfl (by kernel_rfl) (q_off 6 rfl rfl rfl hg27) hS rfl rfl ?_
   refine wa_q 18 rfl (by kernel_rfl) (q_off 6 rfl rfl rfl hg27) hS rfl rfl ?_
   refine wa_q 19 rfl (by kernel_rfl) (q_off 6 rfl rfl rfl hg27) hS rfl rfl ?_
   refine wa_q 20 rfl (by kernel_rfl) (q_off 6 rfl rfl rfl hg27) hS rfl rfl ?_
   refine wa_q 21 rfl (by kernel_rfl) (q_off 6 rfl rfl rfl hg27) hS rfl rfl ?_
   refine wa_q 22 rfl (by kernel_rfl) (q_pickF rfl hg27 rfl) hS rfl rfl ?_
   refine wa_done (by kernel_rfl) ?_
   exact ⟨(), M, ⟨(show some (Value.bool false) = some (Value.bool ((decide (0 ≤ (lat l x0.dst))) && (decide ((lat l x0.src) = ((lat l x0.dst) + (readA x0)))))) from by first | (simp only [hg27, bL8]; done) | (simp_all; done) | (simp_all; omega)), trivial⟩, unw_take 23 rfl rfl⟩
  rintro _ jr7 w13 M
  refine wc_cond rfl (fun ht43 => ?_) (fun ht43 => ?_)
  ·refine wc_region <| wl_m M (q_fa fo_25_3 rfl) rfl rfl <| wl_m M (q_ldb 2 Try.underlying23 rfl rfl rfl rfl) rfl rfl <| wl_m M (q_ldbA 0 Try.underlying50 rfl sz50 rfl rfl rfl rfl) rfl rfl <| wl_e (e_bsI (E := EArc) (xs := [x0]) M (bs_23_1 _ _ _ _) ⟨⟨rfl, rfl⟩, trivial⟩ rfl rfl (by decide)) rfl rfl ?_
   rintro _ w14 ⟨u47, J47, rfl, hJ47, R47, M⟩
   have hoJ47 := M.old
   refine wl_e (e_app 1 M rfl R47 Try.underlying23 rfl rfl (by rw [haa]; have := List.length_filter_le (tgA l readA) (t.arcs.take k0); rw [List.length_take] at this; show (_ + 1) * 24 ≤ _; omega)) rfl rfl ?_
   rintro _ w15 ⟨u48, rfl, M⟩
   replace M := M.less hJ47 hoJ11
   try simp only [sC0, sCS] at M
   refine wl_m M (q_fa fo_25_3 rfl) rfl rfl ?_
   refine wl_e0 (e_stb 2 M rfl rfl rfl sz23 rfl rfl) rfl ?_
   intro _ w16 M
   try simp only [sC0, sCS] at M
   refine wl_nil <| wc_region <| wl_m M (q_add rfl rfl (IntWalk.i64_in _ (by omega))) rfl rfl ?_
   refine wl_mv M rfl rfl <| wl_nil ?_
   replace M := M.drop 0
   refine ⟨(k0 + 1, u48, l_a_0 ++ [x0]), ?_, ⟨(by omega), (by rw [take_snoc hx0, List.filter_append, haa, List.filter_cons, tgA, ht43]; rfl), M⟩, ⟨rfl, trivial⟩, unw_look rfl (unw_hav rfl (unw_look rfl unw_base))⟩
   show t.arcs.length - (k0 + 1) < t.arcs.length - k0
   omega
  refine wc_skip <| wc_region <| wl_m M (q_add rfl rfl (IntWalk.i64_in _ (by omega))) rfl rfl ?_
  refine wl_mv M rfl rfl <| wl_nil ?_
  replace M := M.drop 0
  refine ⟨(k0 + 1, u_a_0, l_a_0), ?_, ⟨(by omega), (by rw [take_snoc hx0, List.filter_append, haa, List.filter_cons, tgA, ht43]; simp), M⟩, ⟨rfl, trivial⟩, unw_look rfl (unw_hav rfl (unw_look rfl unw_base))⟩
  show t.arcs.length - (k0 + 1) < t.arcs.length - k0
  omega
 have hke0 : k0 = t.arcs.length := by omega
 refine wc_exit rfl ?_
 refine wc_seq ?_
 rw [hke0, List.take_length] at haa
 obtain ⟨I12, M, hI12, Hd⟩ := M.frzBox 2 rfl
 have hoI12 := M.old
 refine wc_region <| wl_m M (q_fa fo_25_2 rfl) rfl rfl <| wl_m M (q_ldb 3 Try.underlying22 rfl rfl rfl rfl) rfl rfl <| wl_e (e_callO (val := sv) Try.func62 rfl (vs := [sv fu1]) rfl (clone_c (by omega) M ((Rf1.mono hJ11).mono hI12))) rfl rfl ?_
 rintro _ w17 ⟨u53, rfl, M⟩
 obtain ⟨I20, M, hI20, Rc⟩ := M.frzRow 0 rfl
 have hoI20 := M.old
 refine wl_m M (q_makeFunc (vs := [.pointer (some ⟨b5, 0, none⟩)]) rfl) rfl rfl <| wl_e (e_callC M (deleteT_c (fs := t.finals) (l := l) (fun f hf1 => ⟨(hf f hf1).1, by have := hf f hf1; rw [hll]; omega, hlo.fin f hf1⟩) M.imm Rc (hI20 _ _ Hd) ((R11.mono hI12).mono hI20)) Try.func61 rfl rfl) rfl rfl ?_
 rintro _ w18 ⟨J55, hJ55, rfl, M⟩
 have hoJ55 := M.old
 refine wl_m M (q_fa fo_25_2 rfl) rfl rfl ?_
 refine wl_e0 (e_stb 1 M rfl rfl rfl sz22 rfl rfl) rfl ?_
 intro _ w19 M
 try simp only [sC0, sCS] at M
 refine wl_nil ?_
 refine wc_seq <| wc_region <| wl_m M (q_ldbA 1 Try.underlying25 rfl sz25 rfl rfl rfl rfl) rfl rfl ?_
 refine wl_e0 (e_stW 2 M rfl rfl rfl sz25 rfl rfl) rfl ?_
 intro _ w20 M
 try simp only [sC0, sCS] at M
 refine wl_nil <| wc_ret ?_
 obtain ⟨K1, M, hK1, Rk1⟩ := M.frzRow 0 rfl
 rw [haa] at Rk1
 exact outc rfl rfl (load_boxA M 1 Try.underlying25 rfl sz25 rfl rfl rfl) ⟨_, K1, rfl, (M.grow : Grow w I _ K1), l, hlo, ⟨_, _, rfl, ((Rc.mono hJ55).mono hK1), Rk1⟩⟩
set_option maxRecDepth 4000 in
set_option maxHeartbeats 1000000 in
theorem firstIn_c {t : Tra} {m : Nat} (ha : t.Ok m) {P : Int → Int} (hP : PotR t P) (hb : P t.start ≤ 100000) {v1 : Value} {I : Heap} {w : World} (hI : hle I (hp w)) (R1 : t.rd I v1) :
    Calls A 37 #[v1] w (Ret w I fun r I' => ∃ xs : List Int, rdSl ERune I' r xs ∧ Greedy t xs ∧ (xs.length : Int) ≤ max 0 (P t.start)) := by
 obtain ⟨fu1, au1, rfl, Rf1, Ra1⟩ := R1
 have hst := ha.st
 have hmle := ha.le
 have hal := ha.alen
 have M := Mem.start hI
 refine enter Try.func37 rfl 99 Try.ntmps37 [_] rfl ?_
 refine wc_seq <| wc_region <| wl_e (e_box M rfl) rfl rfl ?_
 rintro _ w1 ⟨b1, rfl, M⟩
 refine wl_as M rfl rfl <| wl_nil ?_
 refine wc_seq <| wc_region <| wl_m M (q_ldbA 0 Try.underlying25 rfl sz25 rfl rfl rfl rfl) rfl rfl <| wl_e (e_callC M (leavingT_c t m ha.st ha.le (fun x hx => (ha.arcs x hx).1) ha.alen M.imm ⟨_, _, rfl, Rf1, Ra1⟩) Try.func46 rfl rfl) rfl rfl ?_
 rintro v15 w2 ⟨J15, hJ15, R15, M⟩
 obtain ⟨u15, rfl⟩ := rdMat_slice R15
 have hoJ15 := M.old
 refine wl_as M rfl rfl <| wl_nil ?_
 refine wc_seq <| wc_region <| wl_as M rfl rfl ?_
 replace M := M.nilRow ERune
 refine wl_nil ?_
 refine wc_seq <| wc_region <| wl_mv M rfl rfl <| wl_m M (q_fa fo_25_1 rfl) rfl rfl <| wl_m M (q_ldb 1 Try.underlying3 rfl rfl rfl rfl) rfl rfl <| wl_e (e_bsI (E := EInt) (xs := [t.start]) M (bs_22_1 _) ⟨⟨rfl, rfl⟩, trivial⟩ rfl rfl (by decide)) rfl rfl ?_
 rintro _ w3 ⟨u19, J19, rfl, hJ19, R19, M⟩
 have hoJ19 := M.old
 refine wl_e (e_callC M (silentT_c (fr := [t.start]) ha.le ha.arcs ha.alen (fun f hf => by rw [List.mem_singleton.1 hf]; exact ha.start) (by simp) M.imm (R15.mono hJ19) R19) Try.func54 rfl rfl) rfl rfl ?_
 rintro v20 w4 ⟨J20, hJ20, ⟨bs20, R20, hbl20, hb20⟩, M⟩
 obtain ⟨u20, rfl⟩ := rdSl_slice R20
 have hoJ20 := M.old
 refine wl_as M rfl rfl <| wl_nil <| wc_block ?_
 refine wc_loop (α := Heap × (List Bool) × SV × SV × (List Int)) [2, 4, 5, 6, 7, 9, 10, 11, 13, 21, 22, 23, 24, 25, 26, 27, 28, 29, 30, 31, 32, 33, 34, 35, 36, 37, 38, 39, 40, 41, 42, 43, 44, 45, 46, 47, 48, 49, 50, 51, 52, 53, 54, 55, 56, 57, 58, 59, 60, 61, 62, 63, 64, 65, 66, 67, 68, 69, 70, 71, 72, 73, 74, 75, 76, 77, 78, 79, 80, 81, 82, 83, 84, 85, 86, 87, 88, 89, 90, 91, 92, 93, 94, 95, 96, 97, 98] (fun ((Ic, bs, ub, u_4_0, l_4_0) : Heap × (List Bool) × SV × SV × (List Int)) => [(5, sv ub), (4, sv u_4_0)])
   (fun ((Ic, bs, ub, u_4_0, l_4_0) : Heap × (List Bool) × SV × SV × (List Int)) w' => (hle J20 Ic) ∧ (GreedyIn t l_4_0) ∧ (bs.length = m ∧ ∀ s, bt bs s ↔ Rd t l_4_0 s) ∧ (rdSl EBool Ic (sv ub) bs) ∧ ((l_4_0.length : Int) ≤ max 0 (P t.start)) ∧ Mem w I Ic (row ERune (sv u_4_0) l_4_0 :: box b1 25 [.int .i64 t.states, .int .i64 t.start, sv fu1, sv au1] :: []) w')
   (fun ((Ic, bs, ub, u_4_0, l_4_0) : Heap × (List Bool) × SV × SV × (List Int)) => (P t.start).toNat - l_4_0.length) (J20, bs20, u20, nilV, []) ⟨rfl, rfl, trivial⟩ ?_ ?_
 ·refine ⟨hle.refl _, (fun k r h => by simp at h), ⟨hbl20, fun s => by rw [hb20, rd_nil]⟩, R20, (by simp; omega), ?_⟩
  exact M
 rintro ⟨Ic, bs, ub, u_4_0, l_4_0⟩ jj0 w5 ⟨hIc, hG, hbs, hRb, hrl, M⟩
 have hoIc := M.old
 refine wc_block ?_
 refine wc_seq <| wc_region <| wl_as M rfl rfl <| wl_nil ?_
 refine wc_seq ?_
 refine wc_seq <| wc_region <| wl_m M (q_fa fo_25_0 rfl) rfl rfl <| wl_m M (q_ldb 1 Try.underlying3 rfl rfl rfl rfl) rfl rfl <| wl_mv M rfl rfl <| wl_nil <| wc_block ?_
 refine wc_loop (α := Nat × Int) [6, 7, 9, 23, 24, 25, 26, 27, 28, 29, 30, 31, 32, 33, 34, 35, 36, 37, 38, 39, 40, 41, 42, 43, 44, 45, 46, 47, 48, 49, 50, 51, 52, 53, 54, 55, 56, 57] (fun ((k2, b2) : Nat × Int) => [(6, .int .i32 b2), (23, .int .i64 (k2 : Int))])
   (fun ((k2, b2) : Nat × Int) w' => (k2 ≤ m) ∧ (b2 = bsN t bs k2) ∧ Mem w I Ic (row ERune (sv u_4_0) l_4_0 :: box b1 25 [.int .i64 t.states, .int .i64 t.start, sv fu1, sv au1] :: []) w')
   (fun ((k2, b2) : Nat × Int) => m - k2) (0, 0) ⟨rfl, rfl, trivial⟩ ?_ ?_
 ·refine ⟨Nat.zero_le _, rfl, ?_⟩
  exact M
 rintro ⟨k2, b2⟩ jj2 w6 ⟨hk2, hb2, M⟩
 have hoIc := M.old
 refine wc_seq <| wc_region <| wl_m M (q_lss rfl rfl) rfl rfl <| wl_nil ?_
 refine wc_seq ?_
 refine wc_dec rfl (fun ht24 => ?_) (fun ht24 => ?_)
 ·have hk2m : k2 < m := by have := ht24; omega
  have hbl := hbs.1
  refine wc_skip ?_
  refine wc_seq <| wc_block ?_
  refine wc_seq <| wc_region <| wl_mv M rfl rfl <| wl_as M rfl rfl <| wl_nil ?_
  refine wc_seq <| wc_region <| wl_mv M rfl rfl <| wl_mv M rfl rfl ?_
  obtain ⟨os28, u28, Ro28, ho28, R28⟩ := ((((R15.mono hJ19).mono hJ20).mono hIc)).at_ (lv_at hk2m)
  replace R28 : rdSl EArc Ic (sv u28) ((t.outs (k2 : Int))) := R28
  refine wl_ix (j := k2) M Ro28 Try.underlying79 rfl rfl ho28 rfl (fun b28 o28 p28 => ?_)
  refine wl_m M (q_ldp p28 rfl rfl) rfl rfl <| wl_m M (q_lenR R28 Try.underlying23 rfl) rfl rfl <| wl_mv M rfl rfl <| wl_nil <| wc_block ?_
  refine wc_loop (α := Nat × Int) [6, 9, 31, 32, 33, 34, 35, 36, 37, 38, 39, 40, 41, 42, 43, 44, 45, 46, 47, 48, 49, 50, 51, 52, 53, 54, 55, 56] (fun ((k4, b4) : Nat × Int) => [(6, .int .i32 b4), (31, .int .i64 (k4 : Int))])
    (fun ((k4, b4) : Nat × Int) w' => (k4 ≤ (t.outs (k2 : Int)).length) ∧ (b4 = ((t.outs (k2 : Int)).take k4).foldl (fun b x => bsS b (bs.getD k2 false) x) b2) ∧ Mem w I Ic (row ERune (sv u_4_0) l_4_0 :: box b1 25 [.int .i64 t.states, .int .i64 t.start, sv fu1, sv au1] :: []) w')
    (fun ((k4, b4) : Nat × Int) => (t.outs (k2 : Int)).length - k4) (0, b2) ⟨rfl, rfl, trivial⟩ ?_ ?_
  ·refine ⟨Nat.zero_le _, rfl, ?_⟩
   exact M
  rintro ⟨k4, b4⟩ jj4 w7 ⟨hk4, hb4, M⟩
  have hoIc := M.old
  refine wc_seq <| wc_region <| wl_m M (q_lss rfl rfl) rfl rfl <| wl_nil ?_
  refine wc_seq ?_
  refine wc_dec rfl (fun ht32 => ?_) (fun ht32 => ?_)
  ·obtain ⟨x4, hx4⟩ : ∃ x_, (t.outs (k2 : Int))[k4]? = some x_ := ⟨_, List.getElem?_eq_getElem (by omega)⟩
   have hll4 := (R28).len_le
   refine wc_skip ?_
   refine wc_seq <| wc_block ?_
   refine wc_seq <| wc_region ?_
   refine wl_ix (j := k4) M R28 Try.underlying23 rfl rfl hx4 rfl (fun b33 o33 p33 => ?_)
   refine wl_m M (q_ldp p33 rfl rfl) rfl rfl <| wl_e (e_alloc M z50) rfl rfl ?_
   rintro _ w8 ⟨b9, rfl, M⟩
   refine wl_e0 (e_stW 0 M rfl rfl rfl sz50 rfl rfl) rfl ?_
   intro _ w9 M
   try simp only [sC0, sCS] at M
   refine wl_nil ?_
   refine wc_seq ?_
   refine wc_join (α := Unit) [35, 36, 37, 38, 39, 40, 41, 42, 43, 44, 45, 46, 47, 48, 49, 50, 51, 52, 53] (fun _ => [(53, .bool (((bs.getD k2 false) && (!decide (x4.inp = 0))) && ((decide (b4 = 0)) || (decide (x4.inp < b4)))))]) (fun _ w' => Mem w I Ic (box b9 50 [.int .i64 x4.src, .int .i64 x4.dst, .int .i32 x4.inp, .int .i32 x4.out] :: row ERune (sv u_4_0) l_4_0 :: box b1 25 [.int .i64 t.states, .int .i64 t.start, sv fu1, sv au1] :: []) w') ?_ ?_
   ·refine wc_region <| wl_mv M rfl rfl <| wl_mv M rfl rfl ?_
    refine wl_ix (j := k2) M hRb Try.underlying89 rfl (ixe (by omega)) (getD_at (d := false) (by omega)) rfl (fun b37 o37 p37 => ?_)
    refine wl_m M (q_ldp p37 rfl rfl) rfl rfl <| wl_mv M rfl rfl ?_
    rcases Bool.eq_false_or_eq_true ((bs.getD k2 false)) with hg39 | hg39
    ·refine wl_m M (q_guard 4 rfl rfl rfl hg39 (q_fa fo_50_2 rfl)) rfl rfl <| wl_m M (q_guard 4 rfl rfl rfl hg39 (q_ldb 0 Try.underlying21 rfl rfl rfl rfl)) rfl rfl <| wl_m M (q_guard 4 rfl rfl rfl hg39 (q_neq rfl rfl)) rfl rfl <| wl_m M (q_pickT rfl hg39 rfl) rfl rfl <| wl_mv M rfl rfl ?_
     rcases Bool.eq_false_or_eq_true (!decide (x4.inp = 0)) with hg44 | hg44
     ·refine wl_m M (q_guard 9 rfl rfl rfl hg44 (q_move rfl)) rfl rfl <| wl_m M (q_guard 9 rfl rfl rfl hg44 (q_eql rfl rfl)) rfl rfl <| wl_m M (q_guard 9 rfl rfl rfl hg44 (q_move rfl)) rfl rfl ?_
      rcases Bool.eq_false_or_eq_true (decide (b4 = 0)) with hg47 | hg47
      ·refine wl_m M (q_off 12 rfl rfl rfl hg47) rfl rfl <| wl_m M (q_off 12 rfl rfl rfl hg47) rfl rfl <| wl_m M (q_off 12 rfl rfl rfl hg47) rfl rfl <| wl_m M (q_off 12 rfl rfl rfl hg47) rfl rfl <| wl_m M (q_guard 9 rfl rfl rfl hg44 (q_pickT rfl hg47 rfl)) rfl rfl <| wl_m M (q_pickT rfl hg44 rfl) rfl rfl <| wl_nil ?_
       exact ⟨(), M, ⟨(show some (Value.bool true) = some (Value.bool (((bs.getD k2 false) && (!decide (x4.inp = 0))) && ((decide (b4 = 0)) || (decide (x4.inp < b4))))) from by first | (simp only [hg39, hg44, hg47, bL8]; done) | (simp_all; done) | (simp_all; omega)), trivial⟩, unw_take 19 rfl rfl⟩
      refine wl_m M (q_guard 12 rfl rfl rfl hg47 (q_fa fo_50_2 rfl)) rfl rfl <| wl_m M (q_guard 12 rfl rfl rfl hg47 (q_ldb 0 Try.underlying21 rfl rfl rfl rfl)) rfl rfl <| wl_m M (q_guard 12 rfl rfl rfl hg47 (q_move rfl)) rfl rfl <| wl_m M (q_guard 12 rfl rfl rfl hg47 (q_lss rfl rfl)) rfl rfl <| wl_m M (q_guard 9 rfl rfl rfl hg44 (q_pickF rfl hg47 rfl)) rfl rfl <| wl_m M (q_pickT rfl hg44 rfl) rfl rfl <| wl_nil ?_
      exact ⟨(), M, ⟨(show some (Value.bool (decide (x4.inp < b4))) = some (Value.bool (((bs.getD k2 false) && (!decide (x4.inp = 0))) && ((decide (b4 = 0)) || (decide (x4.inp < b4))))) from by first | (simp only [hg39, hg44, hg47, bL8]; done) | (simp_all; done) | (simp_all; omega)), trivial⟩, unw_take 19 rfl rfl⟩
     refine wl_m M (q_off 9 rfl rfl rfl hg44) rfl rfl <| wl_m M (q_off 9 rfl rfl rfl hg44) rfl rfl <| wl_m M (q_off 9 rfl rfl rfl hg44) rfl rfl <| wl_m M (q_offu 12 rfl rfl rfl) rfl rfl <| wl_m M (q_offu 12 rfl rfl rfl) rfl rfl <| wl_m M (q_offu 12 rfl rfl rfl) rfl rfl <| wl_m M (q_offu 12 rfl rfl rfl) rfl rfl <| wl_m M (q_off 9 rfl rfl rfl hg44) rfl rfl <| wl_m M (q_pickF rfl hg44 rfl) rfl rfl <| wl_nil ?_
     exact ⟨(), M, ⟨(show some (Value.bool false) = some (Value.bool (((bs.getD k2 false) && (!decide (x4.inp = 0))) && ((decide (b4 = 0)) || (decide (x4.inp < b4))))) from by first | (simp only [hg39, hg44, bL8]; done) | (simp_all; done) | (simp_all; omega)), trivial⟩, unw_take 19 rfl rfl⟩
    refine wl_m M (q_off 4 rfl rfl rfl hg39) rfl rfl <| wl_m M (q_off 4 rfl rfl rfl hg39) rfl rfl <| wl_m M (q_off 4 rfl rfl rfl hg39) rfl rfl <| wl_m M (q_pickF rfl hg39 rfl) rfl rfl <| wl_mv M rfl rfl <| wl_m M (q_off 9 rfl rfl rfl rfl) rfl rfl <| wl_m M (q_off 9 rfl rfl rfl rfl) rfl rfl <| wl_m M (q_off 9 rfl rfl rfl rfl) rfl rfl <| wl_m M (q_offu 12 rfl rfl rfl) rfl rfl <| wl_m M (q_offu 12 rfl rfl rfl) rfl rfl <| wl_m M (q_offu 12 rfl rfl rfl) rfl rfl <| wl_m M (q_offu 12 rfl rfl rfl) rfl rfl <| wl_m M (q_off 9 rfl rfl rfl rfl) rfl rfl ?_
    refine wl_m M (q_pickF rfl rfl rfl) rfl rfl <| wl_nil ?_
    exact ⟨(), M, ⟨(show some (Value.bool false) = some (Value.bool (((bs.getD k2 false) && (!decide (x4.inp = 0))) && ((decide (b4 = 0)) || (decide (x4.inp < b4))))) from by first | (simp only [hg39, bL8]; done) | (simp_all; done) | (simp_all; omega)), trivial⟩, unw_take 19 rfl rfl⟩
   rintro _ jr11 w10 M
   refine wc_cond rfl (fun ht53 => ?_) (fun ht53 => ?_)
   ·refine wc_region <| wl_m M (q_fa fo_50_2 rfl) rfl rfl <| wl_m M (q_ldb 0 Try.underlying21 rfl rfl rfl rfl) rfl rfl <| wl_as M rfl rfl <| wl_nil <| wc_region <| wl_m M (q_add rfl rfl (IntWalk.i64_in _ (by omega))) rfl rfl ?_
    refine wl_mv M rfl rfl <| wl_nil ?_
    replace M := M.drop 0
    refine ⟨(k4 + 1, x4.inp), ?_, ⟨(by omega), (by rw [bsF_snoc hx4, ← hb4, bsS, if_pos ht53]), M⟩, ⟨rfl, rfl, trivial⟩, unw_look rfl (unw_hav rfl (unw_look rfl unw_base))⟩
    show (t.outs (k2 : Int)).length - (k4 + 1) < (t.outs (k2 : Int)).length - k4
    omega
   refine wc_skip <| wc_region <| wl_m M (q_add rfl rfl (IntWalk.i64_in _ (by omega))) rfl rfl ?_
   refine wl_mv M rfl rfl <| wl_nil ?_
   replace M := M.drop 0
   refine ⟨(k4 + 1, b4), ?_, ⟨(by omega), (by rw [bsF_snoc hx4, ← hb4, bsS, if_neg (by rw [ht53]; decide)]), M⟩, ⟨rfl, rfl, trivial⟩, unw_look rfl (unw_hav rfl (unw_look rfl unw_base))⟩
   show (t.outs (k2 : Int)).length - (k4 + 1) < (t.outs (k2 : Int)).length - k4
   omega
  have hke4 : k4 = (t.outs (k2 : Int)).length := by omega
  rw [hke4, List.take_length] at hb4
  refine wc_exit rfl <| wc_region <| wl_m M (q_add rfl rfl (IntWalk.i64_in _ (by omega))) rfl rfl ?_
  refine wl_mv M rfl rfl <| wl_nil ?_
  refine ⟨(k2 + 1, b4), ?_, ⟨(by omega), (by rw [bsN_succ, ← hb2]; exact hb4), M⟩, ⟨rfl, rfl, trivial⟩, unw_look rfl (unw_hav rfl (unw_look rfl unw_base))⟩
  show m - (k2 + 1) < m - k2
  omega
 have hke2 : k2 = m := by omega
 rw [hke2] at hb2
 have hl := bsN_goes ha hbs.2
 rw [← hb2] at hl
 refine wc_exit rfl ?_
 refine wc_seq ?_
 refine wc_seq <| wc_region <| wl_mv M rfl rfl <| wl_m M (q_eql rfl rfl) rfl rfl <| wl_nil ?_
 refine wc_dec rfl (fun ht59 => ?_) (fun ht59 => ?_)
 ·refine wc_seq <| wc_region <| wl_mv M rfl rfl <| wl_as M rfl rfl <| wl_nil <| wc_ret ?_
  obtain ⟨K1, M, hK1, Rk1⟩ := M.frzRow 0 rfl
  exact out1 rfl rfl ⟨_, K1, rfl, (M.grow : Grow w I _ K1), _, Rk1, greedy_fin hG hl ht59, hrl⟩
 have hlt := goes_pot hP (hl.1 ht59) ht59
 refine wc_skip ?_
 refine wc_seq <| wc_region <| wl_mv M rfl rfl <| wl_mv M rfl rfl <| wl_e (e_bsI (E := ERune) (xs := [b2]) M (bs_40_1 _) ⟨⟨rfl, rfl⟩, trivial⟩ rfl rfl (by decide)) rfl rfl ?_
 rintro _ w11 ⟨u63, J63, rfl, hJ63, R63, M⟩
 have hoJ63 := M.old
 refine wl_e (e_app 0 M rfl R63 Try.underlying40 rfl rfl (by show (_ + 1) * 4 ≤ _; omega)) rfl rfl ?_
 rintro _ w12 ⟨u64, rfl, M⟩
 replace M := M.less hJ63 hoIc
 try simp only [sC0, sCS] at M
 refine wl_as M rfl rfl <| wl_nil ?_
 refine wc_seq <| wc_region <| wl_as M rfl rfl ?_
 replace M := M.nilRow EInt
 refine wl_nil ?_
 refine wc_seq ?_
 refine wc_seq <| wc_region <| wl_m M (q_fa fo_25_0 rfl) rfl rfl <| wl_m M (q_ldb 2 Try.underlying3 rfl rfl rfl rfl) rfl rfl <| wl_mv M rfl rfl <| wl_nil <| wc_block ?_
 refine wc_loop (α := Nat × SV × (List Int)) [10, 11, 13, 67, 68, 69, 70, 71, 72, 73, 74, 75, 76, 77, 78, 79, 80, 81, 82, 83, 84, 85, 86, 87, 88, 89, 90, 91, 92, 93, 94, 95] (fun ((k6, u_10_6, l_10_6) : Nat × SV × (List Int)) => [(67, .int .i64 (k6 : Int)), (10, sv u_10_6)])
   (fun ((k6, u_10_6, l_10_6) : Nat × SV × (List Int)) w' => (k6 ≤ m) ∧ (l_10_6 = nxR t bs b2 k6) ∧ Mem w I Ic (row EInt (sv u_10_6) l_10_6 :: row ERune (sv u64) (l_4_0 ++ [b2]) :: box b1 25 [.int .i64 t.states, .int .i64 t.start, sv fu1, sv au1] :: []) w')
   (fun ((k6, u_10_6, l_10_6) : Nat × SV × (List Int)) => m - k6) (0, nilV, []) ⟨rfl, rfl, trivial⟩ ?_ ?_
 ·refine ⟨Nat.zero_le _, rfl, ?_⟩
  exact M
 rintro ⟨k6, u_10_6, l_10_6⟩ jj6 w13 ⟨hk6, hnx, M⟩
 have hoIc := M.old
 refine wc_seq <| wc_region <| wl_m M (q_lss rfl rfl) rfl rfl <| wl_nil ?_
 refine wc_seq ?_
 refine wc_dec rfl (fun ht68 => ?_) (fun ht68 => ?_)
 ·have hk6m : k6 < m := by have := ht68; omega
  have hbl := hbs.1
  refine wc_skip ?_
  refine wc_seq <| wc_block ?_
  refine wc_seq <| wc_region <| wl_mv M rfl rfl <| wl_as M rfl rfl <| wl_nil ?_
  refine wc_seq <| wc_region <| wl_mv M rfl rfl <| wl_mv M rfl rfl ?_
  obtain ⟨os72, u72, Ro72, ho72, R72⟩ := ((((R15.mono hJ19).mono hJ20).mono hIc)).at_ (lv_at hk6m)
  replace R72 : rdSl EArc Ic (sv u72) ((t.outs (k6 : Int))) := R72
  refine wl_ix (j := k6) M Ro72 Try.underlying79 rfl rfl ho72 rfl (fun b72 o72 p72 => ?_)
  refine wl_m M (q_ldp p72 rfl rfl) rfl rfl <| wl_m M (q_lenR R72 Try.underlying23 rfl) rfl rfl <| wl_mv M rfl rfl <| wl_nil <| wc_block ?_
  refine wc_loop (α := Nat × SV × (List Int)) [10, 13, 75, 76, 77, 78, 79, 80, 81, 82, 83, 84, 85, 86, 87, 88, 89, 90, 91, 92, 93, 94] (fun ((k8, u_10_8, l_10_8) : Nat × SV × (List Int)) => [(75, .int .i64 (k8 : Int)), (10, sv u_10_8)])
    (fun ((k8, u_10_8, l_10_8) : Nat × SV × (List Int)) w' => (k8 ≤ (t.outs (k6 : Int)).length) ∧ (l_10_8 = nxR t bs b2 k6 ++ (((t.outs (k6 : Int)).take k8).filter (stB b2 (bs.getD k6 false))).map (·.dst)) ∧ Mem w I Ic (row EInt (sv u_10_8) l_10_8 :: row ERune (sv u64) (l_4_0 ++ [b2]) :: box b1 25 [.int .i64 t.states, .int .i64 t.start, sv fu1, sv au1] :: []) w')
    (fun ((k8, u_10_8, l_10_8) : Nat × SV × (List Int)) => (t.outs (k6 : Int)).length - k8) (0, u_10_6, l_10_6) ⟨rfl, rfl, trivial⟩ ?_ ?_
  ·refine ⟨Nat.zero_le _, (by rw [hnx]; simp), ?_⟩
   exact M
  rintro ⟨k8, u_10_8, l_10_8⟩ jj8 w14 ⟨hk8, hnx8, M⟩
  have hoIc := M.old
  refine wc_seq <| wc_region <| wl_m M (q_lss rfl rfl) rfl rfl <| wl_nil ?_
  refine wc_seq ?_
  refine wc_dec rfl (fun ht76 => ?_) (fun ht76 => ?_)
  ·obtain ⟨x8, hx8⟩ : ∃ x_, (t.outs (k6 : Int))[k8]? = some x_ := ⟨_, List.getElem?_eq_getElem (by omega)⟩
   have hll8 := (R72).len_le
   refine wc_skip ?_
   refine wc_seq <| wc_block ?_
   refine wc_seq <| wc_region ?_
   refine wl_ix (j := k8) M R72 Try.underlying23 rfl rfl hx8 rfl (fun b77 o77 p77 => ?_)
   refine wl_m M (q_ldp p77 rfl rfl) rfl rfl <| wl_e (e_alloc M z50) rfl rfl ?_
   rintro _ w15 ⟨b13, rfl, M⟩
   refine wl_e0 (e_stW 0 M rfl rfl rfl sz50 rfl rfl) rfl ?_
   intro _ w16 M
   try simp only [sC0, sCS] at M
   refine wl_nil ?_
   refine wc_seq ?_
   refine wc_join (α := Unit) [79, 80, 81, 82, 83, 84, 85, 86, 87, 88] (fun _ => [(88, .bool ((bs.getD k6 false) && (decide (x8.inp = b2))))]) (fun _ w' => Mem w I Ic (box b13 50 [.int .i64 x8.src, .int .i64 x8.dst, .int .i32 x8.inp, .int .i32 x8.out] :: row EInt (sv u_10_8) l_10_8 :: row ERune (sv u64) (l_4_0 ++ [b2]) :: box b1 25 [.int .i64 t.states, .int .i64 t.start, sv fu1, sv au1] :: []) w') ?_ ?_
   ·refine wc_region <| wl_mv M rfl rfl <| wl_mv M rfl rfl ?_
    refine wl_ix (j := k6) M hRb Try.underlying89 rfl (ixe (by omega)) (getD_at (d := false) (by omega)) rfl (fun b81 o81 p81 => ?_)
    refine wl_m M (q_ldp p81 rfl rfl) rfl rfl <| wl_mv M rfl rfl ?_
    rcases Bool.eq_false_or_eq_true ((bs.getD k6 false)) with hg83 | hg83
    ·refine wl_m M (q_guard 4 rfl rfl rfl hg83 (q_fa fo_50_2 rfl)) rfl rfl <| wl_m M (q_guard 4 rfl rfl rfl hg83 (q_ldb 0 Try.underlying21 rfl rfl rfl rfl)) rfl rfl <| wl_m M (q_guard 4 rfl rfl rfl hg83 (q_move rfl)) rfl rfl <| wl_m M (q_guard 4 rfl rfl rfl hg83 (q_eql rfl rfl)) rfl rfl <| wl_m M (q_pickT rfl hg83 rfl) rfl rfl <| wl_nil ?_
     exact ⟨(), M, ⟨(show some (Value.bool (decide (x8.inp = b2))) = some (Value.bool ((bs.getD k6 false) && (decide (x8.inp = b2)))) from by first | (simp only [hg83, bL8]; done) | (simp_all; done) | (simp_all; omega)), trivial⟩, unw_take 10 rfl rfl⟩
    refine wl_m M (q_off 4 rfl rfl rfl hg83) rfl rfl <| wl_m M (q_off 4 rfl rfl rfl hg83) rfl rfl <| wl_m M (q_off 4 rfl rfl rfl hg83) rfl rfl <| wl_m M (q_off 4 rfl rfl rfl hg83) rfl rfl <| wl_m M (q_pickF rfl hg83 rfl) rfl rfl <| wl_nil ?_
    exact ⟨(), M, ⟨(show some (Value.bool false) = some (Value.bool ((bs.getD k6 false) && (decide (x8.inp = b2)))) from by first | (simp only [hg83, bL8]; done) | (simp_all; done) | (simp_all; omega)), trivial⟩, unw_take 10 rfl rfl⟩
   rintro _ jr25 w17 M
   refine wc_cond rfl (fun ht88 => ?_) (fun ht88 => ?_)
   ·refine wc_region <| wl_mv M rfl rfl <| wl_m M (q_fa fo_50_1 rfl) rfl rfl <| wl_m M (q_ldb 0 Try.underlying3 rfl rfl rfl rfl) rfl rfl <| wl_e (e_bsI (E := EInt) (xs := [x8.dst]) M (bs_22_1 _) ⟨⟨rfl, rfl⟩, trivial⟩ rfl rfl (by decide)) rfl rfl ?_
    rintro _ w18 ⟨u92, J92, rfl, hJ92, R92, M⟩
    have hoJ92 := M.old
    refine wl_e (e_app 1 M rfl R92 Try.underlying22 rfl rfl (by have h1 := nxR_len t bs b2 k6; have h0 := Nat.mul_le_mul (show k6 ≤ 512 by omega) hal; have h2 : (((t.outs (k6 : Int)).take k8).filter (stB b2 (bs.getD k6 false))).length ≤ t.arcs.length := Nat.le_trans (List.length_filter_le _ _) (Nat.le_trans (List.length_take_le' _ _) (t.outs_len _)); rw [hnx8, List.length_append, List.length_map]; show (_ + 1) * 8 ≤ _; omega)) rfl rfl ?_
    rintro _ w19 ⟨u93, rfl, M⟩
    replace M := M.less hJ92 hoIc
    try simp only [sC0, sCS] at M
    refine wl_as M rfl rfl <| wl_nil <| wc_region <| wl_m M (q_add rfl rfl (IntWalk.i64_in _ (by omega))) rfl rfl ?_
    refine wl_mv M rfl rfl <| wl_nil ?_
    replace M := M.drop 0
    refine ⟨(k8 + 1, u93, l_10_8 ++ [x8.dst]), ?_, ⟨(by omega), (by rw [take_snoc hx8, List.filter_append, List.map_append, ← List.append_assoc, ← hnx8, List.filter_cons, stB, ht88]; rfl), M⟩, ⟨rfl, rfl, trivial⟩, unw_look rfl (unw_hav rfl (unw_look rfl unw_base))⟩
    show (t.outs (k6 : Int)).length - (k8 + 1) < (t.outs (k6 : Int)).length - k8
    omega
   refine wc_skip <| wc_region <| wl_m M (q_add rfl rfl (IntWalk.i64_in _ (by omega))) rfl rfl ?_
   refine wl_mv M rfl rfl <| wl_nil ?_
   replace M := M.drop 0
   refine ⟨(k8 + 1, u_10_8, l_10_8), ?_, ⟨(by omega), (by rw [take_snoc hx8, List.filter_append, hnx8, List.filter_cons, stB, ht88]; simp), M⟩, ⟨rfl, rfl, trivial⟩, unw_look rfl (unw_hav rfl (unw_look rfl unw_base))⟩
   show (t.outs (k6 : Int)).length - (k8 + 1) < (t.outs (k6 : Int)).length - k8
   omega
  have hke8 : k8 = (t.outs (k6 : Int)).length := by omega
  rw [hke8, List.take_length] at hnx8
  refine wc_exit rfl <| wc_region <| wl_m M (q_add rfl rfl (IntWalk.i64_in _ (by omega))) rfl rfl ?_
  refine wl_mv M rfl rfl <| wl_nil ?_
  refine ⟨(k6 + 1, u_10_8, l_10_8), ?_, ⟨(by omega), (by rw [nxR_succ]; exact hnx8), M⟩, ⟨rfl, rfl, trivial⟩, unw_look rfl (unw_hav rfl (unw_look rfl unw_base))⟩
  show m - (k6 + 1) < m - k6
  omega
 have hke6 : k6 = m := by omega
 refine wc_exit rfl ?_
 rw [hke6] at hnx
 obtain ⟨I9, M, hI9, Rx⟩ := M.frzRow 0 rfl
 have hoI9 := M.old
 rw [hnx] at Rx
 have hxl := nxR_len t bs b2 m
 have hxm := Nat.mul_le_mul hmle hal
 refine wc_region <| wl_mv M rfl rfl <| wl_mv M rfl rfl <| wl_e (e_callC M (silentT_c (fr := nxR t bs b2 m) ha.le ha.arcs ha.alen (nxR_rng ha.arcs) (by omega) M.imm ((((R15.mono hJ19).mono hJ20).mono hIc).mono hI9) Rx) Try.func54 rfl rfl) rfl rfl ?_
 rintro v98 w20 ⟨J98, hJ98, ⟨bs98, R98, hbl98, hb98⟩, M⟩
 obtain ⟨u98, rfl⟩ := rdSl_slice R98
 have hoJ98 := M.old
 refine wl_as M rfl rfl <| wl_nil ?_
 refine ⟨(J98, bs98, u98, u64, l_4_0 ++ [b2]), ?_, ⟨(hle.trans (hle.trans hIc hI9) hJ98), (greedy_snoc hG ht59 hl), ⟨hbl98, fun s => by rw [hb98, rd_snoc ha ht59 hbs.2]⟩, R98, (by rw [List.length_append, List.length_singleton]; omega), M⟩, ⟨rfl, rfl, trivial⟩, unw_look rfl (unw_hav rfl (unw_look rfl (unw_hav rfl (unw_look rfl unw_base))))⟩
 show (P t.start).toNat - (l_4_0 ++ [b2]).length < (P t.start).toNat - l_4_0.length
 rw [List.length_append, List.length_singleton]; omega
end Go.Proofs.Ytfepjcmjkaolgaa.G
