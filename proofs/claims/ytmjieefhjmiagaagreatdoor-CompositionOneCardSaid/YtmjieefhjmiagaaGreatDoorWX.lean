/- Walks of the program's functions. -/
import Derived.Test.YtmjieefhjmiagaaGreatDoorGBtw
set_option linter.all false
namespace Go.Proofs.YtmjieefhjmiagaaGreatDoor.G
open Go Go.RowKit
theorem few_c {ts : List Tra} {v : Value} {I : Heap} {w : World} (hI : hle I (hp w)) (R : rdTras I v ts) : Calls A 9 #[v] w (Ret w I fun r _ => r = .bool (ts.all fewB)) := by
 obtain ⟨rs, R0, hl, hts⟩ := R
 obtain ⟨u, rfl⟩ := rdSl_slice R0
 have M := Mem.start hI
 refine enter Tryz.func9 rfl 34 Tryz.ntmps9 [_] rfl ?_
 refine wc_seq ?_
 refine wc_region ?_
 refine wl_as M rfl rfl ?_
 refine wl_nil ?_
 refine wc_seq ?_
 refine wc_seq ?_
 refine wc_region ?_
 refine wl_as M rfl rfl ?_
 refine wl_nil ?_
 refine wc_block ?_
 refine wc_loop (α := Nat) [2, 3, 4, 5, 6, 7, 8, 9, 10, 11, 12, 13, 14, 15, 16, 17, 18, 19, 20, 21, 22, 23, 24, 25, 26, 27, 28, 29, 30, 31, 32, 33] (fun (k0 : Nat) => [(3, .int .i64 (k0 : Int))])
   (fun (k0 : Nat) w' => (k0 ≤ rs.length) ∧ ((ts.take k0).all fewB = true) ∧ Mem w I I ([]) w')
   (fun (k0 : Nat) => rs.length - k0) (0) ⟨rfl, trivial⟩ ?_ ?_
 ·refine ⟨Nat.zero_le _, rfl, ?_⟩
  exact M
 rintro k0 jj0 w1 ⟨hk0, ha, M⟩
 refine wc_seq ?_
 refine wc_seq ?_
 refine wc_region ?_
 refine wl_mv M rfl rfl ?_
 refine wl_mv M rfl rfl ?_
 refine wl_m M (q_lenR R0 Tryz.underlying54 rfl) rfl rfl ?_
 refine wl_m M (q_lss rfl rfl) rfl rfl ?_
 refine wl_nil ?_
 refine wc_dec rfl (fun ht7 => ?_) (fun ht7 => ?_)
 ·obtain ⟨x0, hx0⟩ : ∃ x_, rs[k0]? = some x_ := ⟨_, List.getElem?_eq_getElem (by omega)⟩
  have hll0 := (R0).len_le
  have hll0 := R0.len_le
  obtain ⟨t0, ht0⟩ : ∃ t, ts[k0]? = some t := ⟨_, List.getElem?_eq_getElem (by omega)⟩
  obtain ⟨fu0, au0, he0, Rf0, Ra0⟩ := hts k0 x0 t0 hx0 ht0
  obtain rfl := RTra.eq he0
  refine wc_skip ?_
  refine wc_seq ?_
  refine wc_block ?_
  refine wc_seq ?_
  refine wc_join (α := Unit) [10, 11, 12, 13, 14, 15, 16, 17, 18, 19, 20, 21, 22, 23, 24, 25, 26, 27, 28, 29, 30, 31, 32, 33] (fun _ => [(33, .bool (((decide (5 < t0.states)) || (decide (12 < (t0.arcs.length : Int)))) || (decide (6 < (t0.finals.length : Int)))))]) (fun _ w' => Mem w I I ([]) w') ?_ ?_
  ·refine wc_region ?_
   refine wl_mv M rfl rfl ?_
   refine wl_mv M rfl rfl ?_
   refine wl_ix (j := k0) M R0 Tryz.underlying54 rfl rfl hx0 rfl (fun b12 o12 p12 => ?_)
   refine wl_m M (q_fa fo_25_0 rfl) rfl rfl ?_
   refine wl_m M (q_ldf p12 Tryz.underlying3 rfl rfl rfl) rfl rfl ?_
   refine wl_m M (q_gtr rfl rfl) rfl rfl ?_
   refine wl_mv M rfl rfl ?_
   rcases Bool.eq_false_or_eq_true (decide (5 < t0.states)) with hg16 | hg16
   ·refine wl_m M (q_off 6 rfl rfl rfl hg16) rfl rfl ?_
    refine wl_m M (q_off 6 rfl rfl rfl hg16) rfl rfl ?_
    refine wl_m M (q_off 6 rfl rfl rfl hg16) rfl rfl ?_
    refine wl_m M (q_off 6 rfl rfl rfl hg16) rfl rfl ?_
    refine wl_m M (q_off 6 rfl rfl rfl hg16) rfl rfl ?_
    refine wl_m M (q_off 6 rfl rfl rfl hg16) rfl rfl ?_
    refine wl_m M (q_off 6 rfl rfl rfl hg16) rfl rfl ?_
    refine wl_m M (q_pickT rfl hg16 rfl) rfl rfl ?_
    refine wl_mv M rfl rfl ?_
    refine wl_m M (q_off 15 rfl rfl rfl rfl) rfl rfl ?_
    refine wl_m M (q_off 15 rfl rfl rfl rfl) rfl rfl ?_
    refine wl_m M (q_off 15 rfl rfl rfl rfl) rfl rfl ?_
    refine wl_m M (q_off 15 rfl rfl rfl rfl) rfl rfl ?_
    refine wl_m M (q_off 15 rfl rfl rfl rfl) rfl rfl ?_
    refine wl_m M (q_off 15 rfl rfl rfl rfl) rfl rfl ?_
    refine wl_m M (q_off 15 rfl rfl rfl rfl) rfl rfl ?_
    refine wl_m M (q_pickT rfl rfl rfl) rfl rfl ?_
    refine wl_nil ?_
    exact ⟨(), M, ⟨(show some (Value.bool true) = some (Value.bool (((decide (5 < t0.states)) || (decide (12 < (t0.arcs.length : Int)))) || (decide (6 < (t0.finals.length : Int))))) from by first | (simp only [hg16, Bool.true_or, Bool.false_or, Bool.true_and, Bool.false_and, Bool.or_true, Bool.or_false, Bool.and_true, Bool.and_false]; done) | (simp_all; done) | (simp_all; omega)), trivial⟩, unw_take 24 rfl rfl⟩
   refine wl_m M (q_guard 6 rfl rfl rfl hg16 (q_move rfl)) rfl rfl ?_
   refine wl_m M (q_guard 6 rfl rfl rfl hg16 (q_move rfl)) rfl rfl ?_
   refine wl_ixG (j := k0) 6 rfl rfl rfl hg16 M R0 Tryz.underlying54 rfl rfl hx0 rfl (fun b19 o19 p19 => ?_)
   refine wl_m M (q_guard 6 rfl rfl rfl hg16 (q_fa fo_25_3 rfl)) rfl rfl ?_
   refine wl_m M (q_guard 6 rfl rfl rfl hg16 (q_ldf p19 Tryz.underlying23 rfl rfl rfl)) rfl rfl ?_
   refine wl_m M (q_guard 6 rfl rfl rfl hg16 (q_lenR Ra0 Tryz.underlying23 rfl)) rfl rfl ?_
   refine wl_m M (q_guard 6 rfl rfl rfl hg16 (q_gtr rfl rfl)) rfl rfl ?_
   refine wl_m M (q_pickF rfl hg16 rfl) rfl rfl ?_
   refine wl_mv M rfl rfl ?_
   rcases Bool.eq_false_or_eq_true (decide (12 < (t0.arcs.length : Int))) with hg25 | hg25
   ·refine wl_m M (q_off 15 rfl rfl rfl hg25) rfl rfl ?_
    refine wl_m M (q_off 15 rfl rfl rfl hg25) rfl rfl ?_
    refine wl_m M (q_off 15 rfl rfl rfl hg25) rfl rfl ?_
    refine wl_m M (q_off 15 rfl rfl rfl hg25) rfl rfl ?_
    refine wl_m M (q_off 15 rfl rfl rfl hg25) rfl rfl ?_
    refine wl_m M (q_off 15 rfl rfl rfl hg25) rfl rfl ?_
    refine wl_m M (q_off 15 rfl rfl rfl hg25) rfl rfl ?_
    refine wl_m M (q_pickT rfl hg25 rfl) rfl rfl ?_
    refine wl_nil ?_
    exact ⟨(), M, ⟨(show some (Value.bool true) = some (Value.bool (((decide (5 < t0.states)) || (decide (12 < (t0.arcs.length : Int)))) || (decide (6 < (t0.finals.length : Int))))) from by first | (simp only [hg16, hg25, Bool.true_or, Bool.false_or, Bool.true_and, Bool.false_and, Bool.or_true, Bool.or_false, Bool.and_true, Bool.and_false]; done) | (simp_all; done) | (simp_all; omega)), trivial⟩, unw_take 24 rfl rfl⟩
   refine wl_m M (q_guard 15 rfl rfl rfl hg25 (q_move rfl)) rfl rfl ?_
   refine wl_m M (q_guard 15 rfl rfl rfl hg25 (q_move rfl)) rfl rfl ?_
   refine wl_ixG (j := k0) 15 rfl rfl rfl hg25 M R0 Tryz.underlying54 rfl rfl hx0 rfl (fun b28 o28 p28 => ?_)
   refine wl_m M (q_guard 15 rfl rfl rfl hg25 (q_fa fo_25_2 rfl)) rfl rfl ?_
   refine wl_m M (q_guard 15 rfl rfl rfl hg25 (q_ldf p28 Tryz.underlying22 rfl rfl rfl)) rfl rfl ?_
   refine wl_m M (q_guard 15 rfl rfl rfl hg25 (q_lenR Rf0 Tryz.underlying22 rfl)) rfl rfl ?_
   refine wl_m M (q_guard 15 rfl rfl rfl hg25 (q_gtr rfl rfl)) rfl rfl ?_
   refine wl_m M (q_pickF rfl hg25 rfl) rfl rfl ?_
   refine wl_nil ?_
   exact ⟨(), M, ⟨(show some (Value.bool (decide (6 < (t0.finals.length : Int)))) = some (Value.bool (((decide (5 < t0.states)) || (decide (12 < (t0.arcs.length : Int)))) || (decide (6 < (t0.finals.length : Int))))) from by first | (simp only [hg16, hg25, Bool.true_or, Bool.false_or, Bool.true_and, Bool.false_and, Bool.or_true, Bool.or_false, Bool.and_true, Bool.and_false]; done) | (simp_all; done) | (simp_all; omega)), trivial⟩, unw_take 24 rfl rfl⟩
  rintro _ jr4 w2 M
  refine wc_cond rfl (fun ht33 => ?_) (fun ht33 => ?_)
  ·refine wc_seq ?_
   refine wc_region ?_
   refine wl_as M rfl rfl ?_
   refine wl_nil ?_
   refine wc_ret ?_
   exact out1 rfl rfl ⟨_, _, rfl, M.grow, by rw [all_false_at ht0 (by rw [fewB, ht33]; rfl)]⟩
  refine wc_skip ?_
  refine wc_region ?_
  refine wl_mv M rfl rfl ?_
  refine wl_m M (q_add rfl rfl (IntWalk.i64_in _ (by omega))) rfl rfl ?_
  refine wl_as M rfl rfl ?_
  refine wl_nil ?_
  refine ⟨(k0 + 1), ?_, ⟨(by omega), (all_take_succ ht0 ha (by rw [fewB, ht33]; rfl)), M⟩, ⟨rfl, trivial⟩, unw_look rfl (unw_hav rfl (unw_look rfl unw_base))⟩
  show rs.length - (k0 + 1) < rs.length - k0
  omega
 have hke0 : k0 = rs.length := by omega
 rw [hke0, hl, List.take_length] at ha
 refine wc_exit rfl ?_
 refine wc_seq ?_
 refine wc_region ?_
 refine wl_as M rfl rfl ?_
 refine wl_nil ?_
 refine wc_ret ?_
 exact out1 rfl rfl ⟨_, _, rfl, M.grow, by rw [ha]⟩
theorem brief_c {ss : List ByteArray} {u : SV} {I : Heap} {w : World} (hI : hle I (hp w)) (R0 : rdSl EStr I (sv u) ss) : Calls A 10 #[sv u] w (Ret w I fun r _ => r = .bool (ss.all (fun s => !decide (20 < (s.size : Int))) && decide ((ss.length : Int) ≤ 6))) := by
 have M := Mem.start hI
 refine enter Tryz.func10 rfl 19 Tryz.ntmps10 [_] rfl ?_
 refine wc_seq ?_
 refine wc_region ?_
 refine wl_as M rfl rfl ?_
 refine wl_nil ?_
 refine wc_seq ?_
 refine wc_seq ?_
 refine wc_region ?_
 refine wl_as M rfl rfl ?_
 refine wl_nil ?_
 refine wc_block ?_
 refine wc_loop (α := Nat) [2, 3, 4, 5, 6, 7, 8, 9, 10, 11, 12, 13, 14, 15] (fun (k0 : Nat) => [(3, .int .i64 (k0 : Int))])
   (fun (k0 : Nat) w' => (k0 ≤ ss.length) ∧ ((ss.take k0).all (fun s => !decide (20 < (s.size : Int))) = true) ∧ Mem w I I ([]) w')
   (fun (k0 : Nat) => ss.length - k0) (0) ⟨rfl, trivial⟩ ?_ ?_
 ·refine ⟨Nat.zero_le _, rfl, ?_⟩
  exact M
 rintro k0 jj0 w1 ⟨hk0, ha, M⟩
 refine wc_seq ?_
 refine wc_seq ?_
 refine wc_region ?_
 refine wl_mv M rfl rfl ?_
 refine wl_mv M rfl rfl ?_
 refine wl_m M (q_lenR R0 Tryz.underlying31 rfl) rfl rfl ?_
 refine wl_m M (q_lss rfl rfl) rfl rfl ?_
 refine wl_nil ?_
 refine wc_dec rfl (fun ht7 => ?_) (fun ht7 => ?_)
 ·obtain ⟨x0, hx0⟩ : ∃ x_, ss[k0]? = some x_ := ⟨_, List.getElem?_eq_getElem (by omega)⟩
  have hll0 := (R0).len_le
  have hll0 := R0.len_le
  refine wc_skip ?_
  refine wc_seq ?_
  refine wc_block ?_
  refine wc_seq ?_
  refine wc_region ?_
  refine wl_mv M rfl rfl ?_
  refine wl_mv M rfl rfl ?_
  refine wl_ix (j := k0) M R0 Tryz.underlying31 rfl rfl hx0 rfl (fun b12 o12 p12 => ?_)
  refine wl_m M (q_ldp p12 rfl rfl) rfl rfl ?_
  refine wl_m M (q_lenStr Tryz.underlying9 rfl) rfl rfl ?_
  refine wl_m M (q_gtr rfl rfl) rfl rfl ?_
  refine wl_nil ?_
  refine wc_dec rfl (fun ht15 => ?_) (fun ht15 => ?_)
  ·refine wc_seq ?_
   refine wc_region ?_
   refine wl_as M rfl rfl ?_
   refine wl_nil ?_
   refine wc_ret ?_
   exact out1 rfl rfl ⟨_, _, rfl, M.grow, by rw [all_false_at (f := fun s : ByteArray => !decide (20 < (s.size : Int))) hx0 (by simpa using ht15)]; rfl⟩
  refine wc_skip ?_
  refine wc_region ?_
  refine wl_mv M rfl rfl ?_
  refine wl_m M (q_add rfl rfl (IntWalk.i64_in _ (by omega))) rfl rfl ?_
  refine wl_as M rfl rfl ?_
  refine wl_nil ?_
  refine ⟨(k0 + 1), ?_, ⟨(by omega), (all_take_succ hx0 ha (by simpa using ht15)), M⟩, ⟨rfl, trivial⟩, unw_look rfl unw_base⟩
  show ss.length - (k0 + 1) < ss.length - k0
  omega
 have hke0 : k0 = ss.length := by omega
 rw [hke0, List.take_length] at ha
 refine wc_exit rfl ?_
 refine wc_seq ?_
 refine wc_region ?_
 refine wl_mv M rfl rfl ?_
 refine wl_m M (q_lenR R0 Tryz.underlying31 rfl) rfl rfl ?_
 refine wl_m M (q_leq rfl rfl) rfl rfl ?_
 refine wl_as M rfl rfl ?_
 refine wl_nil ?_
 refine wc_ret ?_
 exact out1 rfl rfl ⟨_, _, rfl, M.grow, by rw [ha]; rfl⟩
theorem eat_c {l : List Int} {u : SV} (k : Nat) (r : Int) (hk : k ≤ 1073741824) {I : Heap} {w : World} (hI : hle I (hp w)) (R0 : rdSl ERune I (sv u) l) : Calls A 73 #[sv u, .int .i64 (k : Int), .int .i32 r] w (Ret w I fun v _ => v = .tuple #[.int .i64 (eatK k r), .bool (eatB l k r)]) := by
 have M := Mem.start hI
 refine enter Tryz.func73 rfl 25 Tryz.ntmps73 [_, _, _] rfl ?_
 refine wc_seq ?_
 refine wc_region ?_
 refine wl_as M rfl rfl ?_
 refine wl_as M rfl rfl ?_
 refine wl_nil ?_
 refine wc_seq ?_
 refine wc_seq ?_
 refine wc_region ?_
 refine wl_mv M rfl rfl ?_
 refine wl_m M (q_eql rfl rfl) rfl rfl ?_
 refine wl_nil ?_
 refine wc_dec rfl (fun ht9 => ?_) (fun ht9 => ?_)
 ·refine wc_seq ?_
  refine wc_region ?_
  refine wl_mv M rfl rfl ?_
  refine wl_as M rfl rfl ?_
  refine wl_as M rfl rfl ?_
  refine wl_nil ?_
  refine wc_ret ?_
  exact out2 rfl rfl rfl ⟨_, _, rfl, M.grow, by rw [eatK, eatB, if_pos ht9, if_pos ht9]⟩
 refine wc_skip ?_
 refine wc_seq ?_
 refine wc_join (α := Unit) [6, 7, 11, 12, 13, 14, 15, 16, 17, 18, 19, 20, 21, 22, 23, 24] (fun _ => [(6, .int .i64 ((k : Int) + 1)), (7, .bool ((decide ((k : Int) < (l.length : Int))) && (decide ((l.getD k 0) = r))))]) (fun _ w' => Mem w I I ([]) w') ?_ ?_
 ·refine wc_draws (fun w' => Mem w I I ([]) w' ∧ True) [] fol ?_
  replace M := M.drew
  have hS := (⟨M, trivial⟩ : _ ∧ _)
  refine wa_q 0 rfl (by kernel_rfl) (q_move rfl) hS rfl rfl ?_
  refine wa_q 1 rfl (by kernel_rfl) (q_add rfl rfl (IntWalk.i64_in _ (by omega))) hS rfl rfl ?_
  refine wa_q 2 rfl (by kernel_rfl) (q_move rfl) hS rfl rfl ?_
  refine wa_q 3 rfl (by kernel_rfl) (q_move rfl) hS rfl rfl ?_
  refine wa_q 4 rfl (by kernel_rfl) (q_lenR R0 Tryz.underlying29 rfl) hS rfl rfl ?_
  refine wa_q 5 rfl (by kernel_rfl) (q_lss rfl rfl) hS rfl rfl ?_
  refine wa_q 6 rfl (by kernel_rfl) (q_move rfl) hS rfl rfl ?_
  rcases Bool.eq_false_or_eq_true (decide ((k : Int) < (l.length : Int))) with hg17 | hg17
  ·refine wa_q 7 rfl (by kernel_rfl) (q_guard 6 rfl rfl rfl hg17 (q_move rfl)) hS rfl rfl ?_
   refine wa_q 8 rfl (by kernel_rfl) (q_guard 6 rfl rfl rfl hg17 (q_move rfl)) hS rfl rfl ?_
   have hk17 := of_decide_eq_true hg17
   refine wa_ixSG (j := k) 6 rfl rfl rfl hg17 9 hS (fun _ h => R0.mono h.1.imm) rfl (by kernel_rfl) Tryz.underlying29 rfl rfl (getD_at (d := 0) (by omega)) rfl (fun b20 o20 p20 => ?_)
   refine wa_q 10 rfl (by kernel_rfl) (q_guard 6 rfl rfl rfl hg17 (q_ldp p20 rfl rfl)) hS rfl rfl ?_
   refine wa_q 11 rfl (by kernel_rfl) (q_guard 6 rfl rfl rfl hg17 (q_move rfl)) hS rfl rfl ?_
   refine wa_q 12 rfl (by kernel_rfl) (q_guard 6 rfl rfl rfl hg17 (q_eql rfl rfl)) hS rfl rfl ?_
   refine wa_q 13 rfl (by kernel_rfl) (q_pickT rfl hg17 rfl) hS rfl rfl ?_
   refine wa_q 14 rfl (by kernel_rfl) (q_assign rfl) hS rfl rfl ?_
   refine wa_q 15 rfl (by kernel_rfl) (q_assign rfl) hS rfl rfl ?_
   refine wa_done (by kernel_rfl) ?_
   exact ⟨(), M, ⟨rfl, (show some (Value.bool (decide ((l.getD k 0) = r))) = some (Value.bool ((decide ((k : Int) < (l.length : Int))) && (decide ((l.getD k 0) = r)))) from by first | (simp only [hg17, Bool.true_or, Bool.false_or, Bool.true_and, Bool.false_and, Bool.or_true, Bool.or_false, Bool.and_true, Bool.and_false]; done) | (simp_all; done) | (simp_all; omega)), trivial⟩, unw_take 16 rfl rfl⟩
  refine wa_q 7 rfl (by kernel_rfl) (q_off 6 rfl rfl rfl hg17) hS rfl rfl ?_
  refine wa_q 8 rfl (by kernel_rfl) (q_off 6 rfl rfl rfl hg17) hS rfl rfl ?_
  refine wa_q 9 rfl (by kernel_rfl) (q_off 6 rfl rfl rfl hg17) hS rfl rfl ?_
  refine wa_q 10 rfl (by kernel_rfl) (q_off 6 rfl rfl rfl hg17) hS rfl rfl ?_
  refine wa_q 11 rfl (by kernel_rfl) (q_off 6 rfl rfl rfl hg17) hS rfl rfl ?_
  refine wa_q 12 rfl (by kernel_rfl) (q_off 6 rfl rfl rfl hg17) hS rfl rfl ?_
  refine wa_q 13 rfl (by kernel_rfl) (q_pickF rfl hg17 rfl) hS rfl rfl ?_
  refine wa_q 14 rfl (by kernel_rfl) (q_assign rfl) hS rfl rfl ?_
  refine wa_q 15 rfl (by kernel_rfl) (q_assign rfl) hS rfl rfl ?_
  refine wa_done (by kernel_rfl) ?_
  exact ⟨(), M, ⟨rfl, (show some (Value.bool false) = some (Value.bool ((decide ((k : Int) < (l.length : Int))) && (decide ((l.getD k 0) = r)))) from by first | (simp only [hg17, Bool.true_or, Bool.false_or, Bool.true_and, Bool.false_and, Bool.or_true, Bool.or_false, Bool.and_true, Bool.and_false]; done) | (simp_all; done) | (simp_all; omega)), trivial⟩, unw_take 16 rfl rfl⟩
 rintro _ jr3 w1 M
 refine wc_ret ?_
 exact out2 rfl rfl rfl ⟨_, _, rfl, M.grow, by rw [eatK, eatB, if_neg ht9, if_neg ht9]⟩
theorem silent_c {a b : Tra} {fu1 au1 fu2 au2 ux uz uf ut : SV} {xs zs : List Int} {m n sb : Nat} {w0 w : World} {I0 I : Heap} {Lt : List Res} {p i q j : Nat} (hp1 : p < m) (hq1 : q < n) (hij : i ≤ 1073741824 ∧ j ≤ 1073741824) (hal : a.arcs.length ≤ 4096 ∧ b.arcs.length ≤ 4096) (M : Mem w0 I0 I Lt w) (Hs : I sb = some (.cells ([.int .i64 a.states, .int .i64 a.start, sv fu1, sv au1, .int .i64 b.states, .int .i64 b.start, sv fu2, sv au2, sv ux, sv uz, sv uf, sv ut] : List Value).toArray 131 (0, 0))) (Rf1 : rdSl EInt I (sv fu1) a.finals) (Rf2 : rdSl EInt I (sv fu2) b.finals) (Rx : rdSl ERune I (sv ux) xs) (Rz : rdSl ERune I (sv uz) zs) (Rm1 : rdMat EArc VArc I (sv uf) (lv m a.arcs)) (Rm2 : rdMat EArc VArc I (sv ut) (lv n b.arcs)) :
    Calls A 37 #[.pointer (some ⟨sb, 0, none⟩), .agg #[.int .i64 (p : Int), .int .i64 (i : Int), .int .i64 (q : Int), .int .i64 (j : Int)]] w (fun e w' => ∃ u : SV, e = .returned (sv u) ∧ Mem w0 I0 I (row EConfig (sv u) (silL a b xs zs ⟨(p : Int), (i : Int), (q : Int), (j : Int)⟩) :: Lt) w') := by
 have hA := a.outs_len p
 have hB := b.outs_len q
 rw [silL_of]
 have hoI := M.old
 refine enter Tryz.func37 rfl 101 Tryz.ntmps37 [_, _] rfl ?_
 refine wc_seq ?_
 refine wc_region ?_
 refine wl_e (e_box M rfl) rfl rfl ?_
 rintro _ w1 ⟨b3, rfl, M⟩
 refine wl_as M rfl rfl ?_
 refine wl_nil ?_
 refine wc_seq ?_
 refine wc_region ?_
 refine wl_as M rfl rfl ?_
 replace M := M.nilRow EConfig
 refine wl_nil ?_
 refine wc_seq ?_
 refine wc_seq ?_
 refine wc_draws (fun w' => Mem w0 I0 I (row EConfig (sv nilV) [] :: box b3 63 [.int .i64 (p : Int), .int .i64 (i : Int), .int .i64 (q : Int), .int .i64 (j : Int)] :: Lt) w' ∧ True) [] fol ?_
 replace M := M.drew
 have hS := (⟨M, trivial⟩ : _ ∧ _)
 refine wa_q 0 rfl (by kernel_rfl) (q_move rfl) hS rfl rfl ?_
 refine wa_q 1 rfl (by kernel_rfl) (q_nilCheck rfl) hS rfl rfl ?_
 refine wa_q 2 rfl (by kernel_rfl) (q_fa fo_131_4 rfl) hS rfl rfl ?_
 refine wa_q 3 rfl (by kernel_rfl) ((q_ldbI Hs Tryz.underlying75 rfl rfl rfl).mono fun _ h => h.1) hS rfl rfl ?_
 refine wa_q 4 rfl (by kernel_rfl) (q_fa fo_63_0 rfl) hS rfl rfl ?_
 refine wa_q 5 rfl (by kernel_rfl) ((q_ldb 1 Tryz.underlying3 rfl rfl rfl rfl).mono fun _ h => h.1) hS rfl rfl ?_
 obtain ⟨os20, u20, Ro20, ho20, R20⟩ := (Rm1).at_ (lv_at hp1)
 replace R20 : rdSl EArc I (sv u20) ((a.outs p)) := R20
 refine wa_ixS (j := p) 6 hS (fun _ h => Ro20.mono h.1.imm) rfl (by kernel_rfl) Tryz.underlying75 rfl rfl ho20 rfl (fun b20 o20 p20 => ?_)
 refine wa_q 7 rfl (by kernel_rfl) (q_ldp p20 rfl rfl) hS rfl rfl ?_
 refine wa_q 8 rfl (by kernel_rfl) (q_lenR R20 Tryz.underlying23 rfl) hS rfl rfl ?_
 refine wa_q 9 rfl (by kernel_rfl) (q_move rfl) hS rfl rfl ?_
 refine wa_done (by kernel_rfl) ?_
 refine wc_block ?_
 refine wc_loop (α := Nat × SV × (List Config)) [5, 7, 8, 9, 23, 24, 25, 26, 27, 28, 29, 30, 31, 32, 33, 34, 35, 36, 37, 38, 39, 40, 41, 42, 43, 44, 45, 46, 47, 48, 49, 50, 51, 52, 53, 54, 55, 56] (fun ((k0, u_5_0, l_5_0) : Nat × SV × (List Config)) => [(23, .int .i64 (k0 : Int)), (5, sv u_5_0)])
   (fun ((k0, u_5_0, l_5_0) : Nat × SV × (List Config)) w' => (k0 ≤ (a.outs p).length) ∧ (l_5_0 = ((a.outs p).take k0).flatMap (silA xs i q j)) ∧ Mem w0 I0 I (row EConfig (sv u_5_0) l_5_0 :: box b3 63 [.int .i64 (p : Int), .int .i64 (i : Int), .int .i64 (q : Int), .int .i64 (j : Int)] :: Lt) w')
   (fun ((k0, u_5_0, l_5_0) : Nat × SV × (List Config)) => (a.outs p).length - k0) (0, nilV, []) ⟨rfl, rfl, trivial⟩ ?_ ?_
 ·refine ⟨Nat.zero_le _, rfl, ?_⟩
  exact M
 rintro ⟨k0, u_5_0, l_5_0⟩ jj0 w2 ⟨hk0, hl, M⟩
 refine wc_seq ?_
 refine wc_region ?_
 refine wl_m M (q_lss rfl rfl) rfl rfl ?_
 refine wl_nil ?_
 refine wc_seq ?_
 refine wc_dec rfl (fun ht24 => ?_) (fun ht24 => ?_)
 ·obtain ⟨x0, hx0⟩ : ∃ x_, (a.outs p)[k0]? = some x_ := ⟨_, List.getElem?_eq_getElem (by omega)⟩
  have hll0 := (R20).len_le
  refine wc_skip ?_
  refine wc_seq ?_
  refine wc_block ?_
  refine wc_seq ?_
  refine wc_region ?_
  refine wl_ix (j := k0) M R20 Tryz.underlying23 rfl rfl hx0 rfl (fun b25 o25 p25 => ?_)
  refine wl_m M (q_ldp p25 rfl rfl) rfl rfl ?_
  refine wl_e (e_alloc M z51) rfl rfl ?_
  rintro _ w3 ⟨b7, rfl, M⟩
  refine wl_e0 (e_stW 0 M rfl rfl rfl sz51 rfl rfl) rfl ?_
  intro _ w4 M
  simp only [sC0, sCS] at M
  refine wl_nil ?_
  refine wc_seq ?_
  refine wc_draws (fun w' => Mem w0 I0 I (box b7 51 [.int .i64 x0.src, .int .i64 x0.dst, .int .i32 x0.inp, .int .i32 x0.out] :: row EConfig (sv u_5_0) l_5_0 :: box b3 63 [.int .i64 (p : Int), .int .i64 (i : Int), .int .i64 (q : Int), .int .i64 (j : Int)] :: Lt) w' ∧ True) [] fol ?_
  replace M := M.drew
  have hS := (⟨M, trivial⟩ : _ ∧ _)
  refine wa_q 0 rfl (by kernel_rfl) (q_move rfl) hS rfl rfl ?_
  refine wa_q 1 rfl (by kernel_rfl) (q_nilCheck rfl) hS rfl rfl ?_
  refine wa_q 2 rfl (by kernel_rfl) (q_fa fo_131_2 rfl) hS rfl rfl ?_
  refine wa_q 3 rfl (by kernel_rfl) ((q_ldbI Hs Tryz.underlying29 rfl rfl rfl).mono fun _ h => h.1) hS rfl rfl ?_
  refine wa_q 4 rfl (by kernel_rfl) (q_fa fo_63_1 rfl) hS rfl rfl ?_
  refine wa_q 5 rfl (by kernel_rfl) ((q_ldb 2 Tryz.underlying3 rfl rfl rfl rfl).mono fun _ h => h.1) hS rfl rfl ?_
  refine wa_q 6 rfl (by kernel_rfl) (q_fa fo_51_2 rfl) hS rfl rfl ?_
  refine wa_q 7 rfl (by kernel_rfl) ((q_ldb 0 Tryz.underlying21 rfl rfl rfl rfl).mono fun _ h => h.1) hS rfl rfl ?_
  refine wa_e 8 rfl (by kernel_rfl) (e_callC M (eat_c i x0.inp (by omega) M.imm Rx) Tryz.func73 rfl rfl) rfl rfl ?_
  rintro _ w5 ⟨J36, hJ36, rfl, M⟩
  have hS := (⟨(M.less hJ36 hoI), trivial⟩ : _ ∧ _)
  refine ⟨fun _ => hS, ?_⟩
  replace M := M.less hJ36 hoI
  refine wa_q 9 rfl (by kernel_rfl) (q_move rfl) hS rfl rfl ?_
  refine wa_q 10 rfl (by kernel_rfl) (q_ext rfl rfl) hS rfl rfl ?_
  refine wa_q 11 rfl (by kernel_rfl) (q_ext rfl rfl) hS rfl rfl ?_
  refine wa_q 12 rfl (by kernel_rfl) (q_assign rfl) hS rfl rfl ?_
  refine wa_q 13 rfl (by kernel_rfl) (q_assign rfl) hS rfl rfl ?_
  refine wa_done (by kernel_rfl) ?_
  refine wc_seq ?_
  refine wc_join (α := Unit) [39, 40, 41, 42, 43, 44] (fun _ => [(44, .bool ((eatB xs i x0.inp) && (decide (x0.out = 0))))]) (fun _ w' => Mem w0 I0 I (box b7 51 [.int .i64 x0.src, .int .i64 x0.dst, .int .i32 x0.inp, .int .i32 x0.out] :: row EConfig (sv u_5_0) l_5_0 :: box b3 63 [.int .i64 (p : Int), .int .i64 (i : Int), .int .i64 (q : Int), .int .i64 (j : Int)] :: Lt) w') ?_ ?_
  ·refine wc_region ?_
   refine wl_mv M rfl rfl ?_
   refine wl_mv M rfl rfl ?_
   rcases Bool.eq_false_or_eq_true (eatB xs i x0.inp) with hg40 | hg40
   ·refine wl_m M (q_guard 1 rfl rfl rfl hg40 (q_fa fo_51_3 rfl)) rfl rfl ?_
    refine wl_m M (q_guard 1 rfl rfl rfl hg40 (q_ldb 0 Tryz.underlying21 rfl rfl rfl rfl)) rfl rfl ?_
    refine wl_m M (q_guard 1 rfl rfl rfl hg40 (q_eql rfl rfl)) rfl rfl ?_
    refine wl_m M (q_pickT rfl hg40 rfl) rfl rfl ?_
    refine wl_nil ?_
    exact ⟨(), M, ⟨(show some (Value.bool (decide (x0.out = 0))) = some (Value.bool ((eatB xs i x0.inp) && (decide (x0.out = 0)))) from by first | (simp only [hg40, Bool.true_or, Bool.false_or, Bool.true_and, Bool.false_and, Bool.or_true, Bool.or_false, Bool.and_true, Bool.and_false]; done) | (simp_all; done) | (simp_all; omega)), trivial⟩, unw_take 6 rfl rfl⟩
   refine wl_m M (q_off 1 rfl rfl rfl hg40) rfl rfl ?_
   refine wl_m M (q_off 1 rfl rfl rfl hg40) rfl rfl ?_
   refine wl_m M (q_off 1 rfl rfl rfl hg40) rfl rfl ?_
   refine wl_m M (q_pickF rfl hg40 rfl) rfl rfl ?_
   refine wl_nil ?_
   exact ⟨(), M, ⟨(show some (Value.bool false) = some (Value.bool ((eatB xs i x0.inp) && (decide (x0.out = 0)))) from by first | (simp only [hg40, Bool.true_or, Bool.false_or, Bool.true_and, Bool.false_and, Bool.or_true, Bool.or_false, Bool.and_true, Bool.and_false]; done) | (simp_all; done) | (simp_all; omega)), trivial⟩, unw_take 6 rfl rfl⟩
  rintro _ jr6 w6 M
  refine wc_cond rfl (fun ht44 => ?_) (fun ht44 => ?_)
  ·refine wc_region ?_
   refine wl_mv M rfl rfl ?_
   refine wl_m M (q_fa fo_51_1 rfl) rfl rfl ?_
   refine wl_m M (q_ldb 0 Tryz.underlying3 rfl rfl rfl rfl) rfl rfl ?_
   refine wl_mv M rfl rfl ?_
   refine wl_m M (q_fa fo_63_2 rfl) rfl rfl ?_
   refine wl_m M (q_ldb 2 Tryz.underlying3 rfl rfl rfl rfl) rfl rfl ?_
   refine wl_m M (q_fa fo_63_3 rfl) rfl rfl ?_
   refine wl_m M (q_ldb 2 Tryz.underlying3 rfl rfl rfl rfl) rfl rfl ?_
   refine wl_m M (q_build (bd_63_0_1_2_3 _ _ _ _) ⟨⟨rfl, rfl⟩, ⟨rfl, rfl⟩, ⟨rfl, rfl⟩, ⟨rfl, rfl⟩, trivial⟩) rfl rfl ?_
   refine wl_e (e_bsI (E := EConfig) (xs := [(Config.mk x0.dst (eatK i x0.inp) (q : Int) (j : Int))]) M (bs_64_1 _ _ _ _) ⟨⟨rfl, rfl⟩, trivial⟩ rfl rfl (by decide)) rfl rfl ?_
   rintro _ w7 ⟨u54, J54, rfl, hJ54, R54, M⟩
   have hoJ54 := M.old
   refine wl_e (e_app 1 M rfl R54 Tryz.underlying64 rfl rfl (by have := take_flat_len (silA_len xs i q j) (a.outs p) k0; rw [hl]; show (_ + 1) * 32 ≤ _; omega)) rfl rfl ?_
   rintro _ w8 ⟨u55, rfl, M⟩
   replace M := M.less hJ54 hoI
   simp only [sC0, sCS] at M
   refine wl_as M rfl rfl ?_
   refine wl_nil ?_
   refine wc_region ?_
   refine wl_m M (q_add rfl rfl (IntWalk.i64_in _ (by omega))) rfl rfl ?_
   refine wl_mv M rfl rfl ?_
   refine wl_nil ?_
   replace M := M.drop 0
   refine ⟨(k0 + 1, u55, l_5_0 ++ [(Config.mk x0.dst (eatK i x0.inp) (q : Int) (j : Int))]), ?_, ⟨(by omega), (by rw [take_flat hx0, hl, silA, if_pos ht44]), M⟩, ⟨rfl, rfl, trivial⟩, unw_look rfl (unw_hav rfl (unw_look rfl unw_base))⟩
   show (a.outs p).length - (k0 + 1) < (a.outs p).length - k0
   omega
  refine wc_skip ?_
  refine wc_region ?_
  refine wl_m M (q_add rfl rfl (IntWalk.i64_in _ (by omega))) rfl rfl ?_
  refine wl_mv M rfl rfl ?_
  refine wl_nil ?_
  replace M := M.drop 0
  refine ⟨(k0 + 1, u_5_0, l_5_0), ?_, ⟨(by omega), (by rw [take_flat hx0, hl, silA, if_neg (by rw [ht44]; decide), List.append_nil]), M⟩, ⟨rfl, rfl, trivial⟩, unw_look rfl (unw_hav rfl (unw_look rfl unw_base))⟩
  show (a.outs p).length - (k0 + 1) < (a.outs p).length - k0
  omega
 have hke0 : k0 = (a.outs p).length := by omega
 rw [hke0, List.take_length] at hl
 refine wc_exit rfl ?_
 refine wc_seq ?_
 refine wc_seq ?_
 refine wc_draws (fun w' => Mem w0 I0 I (row EConfig (sv u_5_0) l_5_0 :: box b3 63 [.int .i64 (p : Int), .int .i64 (i : Int), .int .i64 (q : Int), .int .i64 (j : Int)] :: Lt) w' ∧ True) [] fol ?_
 replace M := M.drew
 have hS := (⟨M, trivial⟩ : _ ∧ _)
 refine wa_q 0 rfl (by kernel_rfl) (q_move rfl) hS rfl rfl ?_
 refine wa_q 1 rfl (by kernel_rfl) (q_nilCheck rfl) hS rfl rfl ?_
 refine wa_q 2 rfl (by kernel_rfl) (q_fa fo_131_5 rfl) hS rfl rfl ?_
 refine wa_q 3 rfl (by kernel_rfl) ((q_ldbI Hs Tryz.underlying75 rfl rfl rfl).mono fun _ h => h.1) hS rfl rfl ?_
 refine wa_q 4 rfl (by kernel_rfl) (q_fa fo_63_2 rfl) hS rfl rfl ?_
 refine wa_q 5 rfl (by kernel_rfl) ((q_ldb 1 Tryz.underlying3 rfl rfl rfl rfl).mono fun _ h => h.1) hS rfl rfl ?_
 obtain ⟨os63, u63, Ro63, ho63, R63⟩ := (Rm2).at_ (lv_at hq1)
 replace R63 : rdSl EArc I (sv u63) ((b.outs q)) := R63
 refine wa_ixS (j := q) 6 hS (fun _ h => Ro63.mono h.1.imm) rfl (by kernel_rfl) Tryz.underlying75 rfl rfl ho63 rfl (fun b63 o63 p63 => ?_)
 refine wa_q 7 rfl (by kernel_rfl) (q_ldp p63 rfl rfl) hS rfl rfl ?_
 refine wa_q 8 rfl (by kernel_rfl) (q_lenR R63 Tryz.underlying23 rfl) hS rfl rfl ?_
 refine wa_q 9 rfl (by kernel_rfl) (q_move rfl) hS rfl rfl ?_
 refine wa_done (by kernel_rfl) ?_
 refine wc_block ?_
 refine wc_loop (α := Nat × SV × (List Config)) [5, 11, 12, 13, 66, 67, 68, 69, 70, 71, 72, 73, 74, 75, 76, 77, 78, 79, 80, 81, 82, 83, 84, 85, 86, 87, 88, 89, 90, 91, 92, 93, 94, 95, 96, 97, 98, 99] (fun ((k2, u_5_2, l_5_2) : Nat × SV × (List Config)) => [(66, .int .i64 (k2 : Int)), (5, sv u_5_2)])
   (fun ((k2, u_5_2, l_5_2) : Nat × SV × (List Config)) w' => (k2 ≤ (b.outs q).length) ∧ (l_5_2 = (a.outs p).flatMap (silA xs i q j) ++ ((b.outs q).take k2).flatMap (silB zs p i j)) ∧ Mem w0 I0 I (row EConfig (sv u_5_2) l_5_2 :: box b3 63 [.int .i64 (p : Int), .int .i64 (i : Int), .int .i64 (q : Int), .int .i64 (j : Int)] :: Lt) w')
   (fun ((k2, u_5_2, l_5_2) : Nat × SV × (List Config)) => (b.outs q).length - k2) (0, u_5_0, l_5_0) ⟨rfl, rfl, trivial⟩ ?_ ?_
 ·refine ⟨Nat.zero_le _, (by rw [hl]; simp), ?_⟩
  exact M
 rintro ⟨k2, u_5_2, l_5_2⟩ jj2 w9 ⟨hk2, hl2, M⟩
 refine wc_seq ?_
 refine wc_region ?_
 refine wl_m M (q_lss rfl rfl) rfl rfl ?_
 refine wl_nil ?_
 refine wc_seq ?_
 refine wc_dec rfl (fun ht67 => ?_) (fun ht67 => ?_)
 ·obtain ⟨x2, hx2⟩ : ∃ x_, (b.outs q)[k2]? = some x_ := ⟨_, List.getElem?_eq_getElem (by omega)⟩
  have hll2 := (R63).len_le
  refine wc_skip ?_
  refine wc_seq ?_
  refine wc_block ?_
  refine wc_seq ?_
  refine wc_region ?_
  refine wl_ix (j := k2) M R63 Tryz.underlying23 rfl rfl hx2 rfl (fun b68 o68 p68 => ?_)
  refine wl_m M (q_ldp p68 rfl rfl) rfl rfl ?_
  refine wl_e (e_alloc M z51) rfl rfl ?_
  rintro _ w10 ⟨b11, rfl, M⟩
  refine wl_e0 (e_stW 0 M rfl rfl rfl sz51 rfl rfl) rfl ?_
  intro _ w11 M
  simp only [sC0, sCS] at M
  refine wl_nil ?_
  refine wc_seq ?_
  refine wc_draws (fun w' => Mem w0 I0 I (box b11 51 [.int .i64 x2.src, .int .i64 x2.dst, .int .i32 x2.inp, .int .i32 x2.out] :: row EConfig (sv u_5_2) l_5_2 :: box b3 63 [.int .i64 (p : Int), .int .i64 (i : Int), .int .i64 (q : Int), .int .i64 (j : Int)] :: Lt) w' ∧ True) [] fol ?_
  replace M := M.drew
  have hS := (⟨M, trivial⟩ : _ ∧ _)
  refine wa_q 0 rfl (by kernel_rfl) (q_move rfl) hS rfl rfl ?_
  refine wa_q 1 rfl (by kernel_rfl) (q_nilCheck rfl) hS rfl rfl ?_
  refine wa_q 2 rfl (by kernel_rfl) (q_fa fo_131_3 rfl) hS rfl rfl ?_
  refine wa_q 3 rfl (by kernel_rfl) ((q_ldbI Hs Tryz.underlying29 rfl rfl rfl).mono fun _ h => h.1) hS rfl rfl ?_
  refine wa_q 4 rfl (by kernel_rfl) (q_fa fo_63_3 rfl) hS rfl rfl ?_
  refine wa_q 5 rfl (by kernel_rfl) ((q_ldb 2 Tryz.underlying3 rfl rfl rfl rfl).mono fun _ h => h.1) hS rfl rfl ?_
  refine wa_q 6 rfl (by kernel_rfl) (q_fa fo_51_3 rfl) hS rfl rfl ?_
  refine wa_q 7 rfl (by kernel_rfl) ((q_ldb 0 Tryz.underlying21 rfl rfl rfl rfl).mono fun _ h => h.1) hS rfl rfl ?_
  refine wa_e 8 rfl (by kernel_rfl) (e_callC M (eat_c j x2.out (by omega) M.imm Rz) Tryz.func73 rfl rfl) rfl rfl ?_
  rintro _ w12 ⟨J79, hJ79, rfl, M⟩
  have hS := (⟨(M.less hJ79 hoI), trivial⟩ : _ ∧ _)
  refine ⟨fun _ => hS, ?_⟩
  replace M := M.less hJ79 hoI
  refine wa_q 9 rfl (by kernel_rfl) (q_move rfl) hS rfl rfl ?_
  refine wa_q 10 rfl (by kernel_rfl) (q_ext rfl rfl) hS rfl rfl ?_
  refine wa_q 11 rfl (by kernel_rfl) (q_ext rfl rfl) hS rfl rfl ?_
  refine wa_q 12 rfl (by kernel_rfl) (q_assign rfl) hS rfl rfl ?_
  refine wa_q 13 rfl (by kernel_rfl) (q_assign rfl) hS rfl rfl ?_
  refine wa_done (by kernel_rfl) ?_
  refine wc_seq ?_
  refine wc_join (α := Unit) [82, 83, 84, 85, 86, 87] (fun _ => [(87, .bool ((eatB zs j x2.out) && (decide (x2.inp = 0))))]) (fun _ w' => Mem w0 I0 I (box b11 51 [.int .i64 x2.src, .int .i64 x2.dst, .int .i32 x2.inp, .int .i32 x2.out] :: row EConfig (sv u_5_2) l_5_2 :: box b3 63 [.int .i64 (p : Int), .int .i64 (i : Int), .int .i64 (q : Int), .int .i64 (j : Int)] :: Lt) w') ?_ ?_
  ·refine wc_region ?_
   refine wl_mv M rfl rfl ?_
   refine wl_mv M rfl rfl ?_
   rcases Bool.eq_false_or_eq_true (eatB zs j x2.out) with hg83 | hg83
   ·refine wl_m M (q_guard 1 rfl rfl rfl hg83 (q_fa fo_51_2 rfl)) rfl rfl ?_
    refine wl_m M (q_guard 1 rfl rfl rfl hg83 (q_ldb 0 Tryz.underlying21 rfl rfl rfl rfl)) rfl rfl ?_
    refine wl_m M (q_guard 1 rfl rfl rfl hg83 (q_eql rfl rfl)) rfl rfl ?_
    refine wl_m M (q_pickT rfl hg83 rfl) rfl rfl ?_
    refine wl_nil ?_
    exact ⟨(), M, ⟨(show some (Value.bool (decide (x2.inp = 0))) = some (Value.bool ((eatB zs j x2.out) && (decide (x2.inp = 0)))) from by first | (simp only [hg83, Bool.true_or, Bool.false_or, Bool.true_and, Bool.false_and, Bool.or_true, Bool.or_false, Bool.and_true, Bool.and_false]; done) | (simp_all; done) | (simp_all; omega)), trivial⟩, unw_take 6 rfl rfl⟩
   refine wl_m M (q_off 1 rfl rfl rfl hg83) rfl rfl ?_
   refine wl_m M (q_off 1 rfl rfl rfl hg83) rfl rfl ?_
   refine wl_m M (q_off 1 rfl rfl rfl hg83) rfl rfl ?_
   refine wl_m M (q_pickF rfl hg83 rfl) rfl rfl ?_
   refine wl_nil ?_
   exact ⟨(), M, ⟨(show some (Value.bool false) = some (Value.bool ((eatB zs j x2.out) && (decide (x2.inp = 0)))) from by first | (simp only [hg83, Bool.true_or, Bool.false_or, Bool.true_and, Bool.false_and, Bool.or_true, Bool.or_false, Bool.and_true, Bool.and_false]; done) | (simp_all; done) | (simp_all; omega)), trivial⟩, unw_take 6 rfl rfl⟩
  rintro _ jr13 w13 M
  refine wc_cond rfl (fun ht87 => ?_) (fun ht87 => ?_)
  ·refine wc_region ?_
   refine wl_mv M rfl rfl ?_
   refine wl_m M (q_fa fo_63_0 rfl) rfl rfl ?_
   refine wl_m M (q_ldb 2 Tryz.underlying3 rfl rfl rfl rfl) rfl rfl ?_
   refine wl_m M (q_fa fo_63_1 rfl) rfl rfl ?_
   refine wl_m M (q_ldb 2 Tryz.underlying3 rfl rfl rfl rfl) rfl rfl ?_
   refine wl_m M (q_fa fo_51_1 rfl) rfl rfl ?_
   refine wl_m M (q_ldb 0 Tryz.underlying3 rfl rfl rfl rfl) rfl rfl ?_
   refine wl_mv M rfl rfl ?_
   refine wl_m M (q_build (bd_63_0_1_2_3 _ _ _ _) ⟨⟨rfl, rfl⟩, ⟨rfl, rfl⟩, ⟨rfl, rfl⟩, ⟨rfl, rfl⟩, trivial⟩) rfl rfl ?_
   refine wl_e (e_bsI (E := EConfig) (xs := [(Config.mk (p : Int) (i : Int) x2.dst (eatK j x2.out))]) M (bs_64_1 _ _ _ _) ⟨⟨rfl, rfl⟩, trivial⟩ rfl rfl (by decide)) rfl rfl ?_
   rintro _ w14 ⟨u97, J97, rfl, hJ97, R97, M⟩
   have hoJ97 := M.old
   refine wl_e (e_app 1 M rfl R97 Tryz.underlying64 rfl rfl (by have := flat_len (silA_len xs i q j) (a.outs p); have := take_flat_len (silB_len zs p i j) (b.outs q) k2; rw [hl2, List.length_append]; show (_ + 1) * 32 ≤ _; omega)) rfl rfl ?_
   rintro _ w15 ⟨u98, rfl, M⟩
   replace M := M.less hJ97 hoI
   simp only [sC0, sCS] at M
   refine wl_as M rfl rfl ?_
   refine wl_nil ?_
   refine wc_region ?_
   refine wl_m M (q_add rfl rfl (IntWalk.i64_in _ (by omega))) rfl rfl ?_
   refine wl_mv M rfl rfl ?_
   refine wl_nil ?_
   replace M := M.drop 0
   refine ⟨(k2 + 1, u98, l_5_2 ++ [(Config.mk (p : Int) (i : Int) x2.dst (eatK j x2.out))]), ?_, ⟨(by omega), (by rw [take_flat hx2, hl2, silB, if_pos ht87, List.append_assoc]), M⟩, ⟨rfl, rfl, trivial⟩, unw_look rfl (unw_hav rfl (unw_look rfl unw_base))⟩
   show (b.outs q).length - (k2 + 1) < (b.outs q).length - k2
   omega
  refine wc_skip ?_
  refine wc_region ?_
  refine wl_m M (q_add rfl rfl (IntWalk.i64_in _ (by omega))) rfl rfl ?_
  refine wl_mv M rfl rfl ?_
  refine wl_nil ?_
  replace M := M.drop 0
  refine ⟨(k2 + 1, u_5_2, l_5_2), ?_, ⟨(by omega), (by rw [take_flat hx2, hl2, silB, if_neg (by rw [ht87]; decide), List.append_nil]), M⟩, ⟨rfl, rfl, trivial⟩, unw_look rfl (unw_hav rfl (unw_look rfl unw_base))⟩
  show (b.outs q).length - (k2 + 1) < (b.outs q).length - k2
  omega
 have hke2 : k2 = (b.outs q).length := by omega
 rw [hke2, List.take_length] at hl2
 refine wc_exit rfl ?_
 refine wc_seq ?_
 refine wc_region ?_
 refine wl_mv M rfl rfl ?_
 refine wl_as M rfl rfl ?_
 refine wl_nil ?_
 refine wc_ret ?_
 replace M := M.drop 1
 rw [hl2] at M
 exact out1 rfl rfl ⟨_, rfl, M⟩
theorem spoken_c {a b : Tra} {fu1 au1 fu2 au2 ux uz uf ut : SV} {xs zs : List Int} {m n sb : Nat} {I : Heap} {w : World} {p i q j : Nat} (hp1 : p < m) (hq1 : q < n) (hij : i ≤ 1073741824 ∧ j ≤ 1073741824) (hal : a.arcs.length ≤ 4096 ∧ b.arcs.length ≤ 4096) (hI : hle I (hp w)) (Hs : I sb = some (.cells ([.int .i64 a.states, .int .i64 a.start, sv fu1, sv au1, .int .i64 b.states, .int .i64 b.start, sv fu2, sv au2, sv ux, sv uz, sv uf, sv ut] : List Value).toArray 131 (0, 0))) (Rf1 : rdSl EInt I (sv fu1) a.finals) (Rf2 : rdSl EInt I (sv fu2) b.finals) (Rx : rdSl ERune I (sv ux) xs) (Rz : rdSl ERune I (sv uz) zs) (Rm1 : rdMat EArc VArc I (sv uf) (lv m a.arcs)) (Rm2 : rdMat EArc VArc I (sv ut) (lv n b.arcs)) :
    Calls A 38 #[.pointer (some ⟨sb, 0, none⟩), .agg #[.int .i64 (p : Int), .int .i64 (i : Int), .int .i64 (q : Int), .int .i64 (j : Int)]] w (Ret w I fun r I' => rdGm QRune EConfig I' r (grp (fun e : Int × Config => e.1) (fun e : Int × Config => e.2) (spkL a b xs zs ⟨(p : Int), (i : Int), (q : Int), (j : Int)⟩))) := by
 have hA := a.outs_len p
 have hB := b.outs_len q
 have hAB := Nat.mul_le_mul (Nat.le_trans hA hal.1) (Nat.le_trans hB hal.2)
 rw [spkL_of]
 have M := Mem.start hI
 refine enter Tryz.func38 rfl 99 Tryz.ntmps38 [_, _] rfl ?_
 refine wc_seq ?_
 refine wc_region ?_
 refine wl_e (e_box M rfl) rfl rfl ?_
 rintro _ w1 ⟨b3, rfl, M⟩
 refine wl_as M rfl rfl ?_
 refine wl_nil ?_
 refine wc_seq ?_
 refine wc_region ?_
 refine wl_e (e_mkm QRune sv M) rfl rfl ?_
 rintro _ w2 ⟨b14, rfl, M⟩
 replace M := M.toGm 0 EConfig rfl
 simp only [sC0, sCS] at M
 refine wl_as M rfl rfl ?_
 refine wl_nil ?_
 refine wc_seq ?_
 refine wc_seq ?_
 refine wc_draws (fun w' => Mem w I I (gmap QRune EConfig b14 [] [] [] :: box b3 63 [.int .i64 (p : Int), .int .i64 (i : Int), .int .i64 (q : Int), .int .i64 (j : Int)] :: []) w' ∧ True) [] fol ?_
 replace M := M.drew
 have hS := (⟨M, trivial⟩ : _ ∧ _)
 refine wa_q 0 rfl (by kernel_rfl) (q_move rfl) hS rfl rfl ?_
 refine wa_q 1 rfl (by kernel_rfl) (q_nilCheck rfl) hS rfl rfl ?_
 refine wa_q 2 rfl (by kernel_rfl) (q_fa fo_131_4 rfl) hS rfl rfl ?_
 refine wa_q 3 rfl (by kernel_rfl) ((q_ldbI Hs Tryz.underlying75 rfl rfl rfl).mono fun _ h => h.1) hS rfl rfl ?_
 refine wa_q 4 rfl (by kernel_rfl) (q_fa fo_63_0 rfl) hS rfl rfl ?_
 refine wa_q 5 rfl (by kernel_rfl) ((q_ldb 1 Tryz.underlying3 rfl rfl rfl rfl).mono fun _ h => h.1) hS rfl rfl ?_
 obtain ⟨os21, u21, Ro21, ho21, R21⟩ := (Rm1).at_ (lv_at hp1)
 replace R21 : rdSl EArc I (sv u21) ((a.outs p)) := R21
 refine wa_ixS (j := p) 6 hS (fun _ h => Ro21.mono h.1.imm) rfl (by kernel_rfl) Tryz.underlying75 rfl rfl ho21 rfl (fun b21 o21 p21 => ?_)
 refine wa_q 7 rfl (by kernel_rfl) (q_ldp p21 rfl rfl) hS rfl rfl ?_
 refine wa_q 8 rfl (by kernel_rfl) (q_lenR R21 Tryz.underlying23 rfl) hS rfl rfl ?_
 refine wa_q 9 rfl (by kernel_rfl) (q_move rfl) hS rfl rfl ?_
 refine wa_done (by kernel_rfl) ?_
 refine wc_block ?_
 refine wc_loop (α := Nat × (List SV) × (List (Int × List Config))) [7, 8, 9, 11, 12, 13, 24, 25, 26, 27, 28, 29, 30, 31, 32, 33, 34, 35, 36, 37, 38, 39, 40, 41, 42, 43, 44, 45, 46, 47, 48, 49, 50, 51, 52, 53, 54, 55, 56, 57, 58, 59, 60, 61, 62, 63, 64, 65, 66, 67, 68, 69, 70, 71, 72, 73, 74, 75, 76, 77, 78, 79, 80, 81, 82, 83, 84, 85, 86, 87, 88, 89, 90, 91, 92, 93, 94, 95, 96, 97] (fun ((k0, us_14_0, g_14_0) : Nat × (List SV) × (List (Int × List Config))) => [(24, .int .i64 (k0 : Int))])
   (fun ((k0, us_14_0, g_14_0) : Nat × (List SV) × (List (Int × List Config))) w' => (k0 ≤ (a.outs p).length) ∧ (g_14_0 = grp (fun e : Int × Config => e.1) (fun e : Int × Config => e.2) (((a.outs p).take k0).flatMap (spkA xs zs i j (b.outs q)))) ∧ Mem w I I (gmap QRune EConfig b14 us_14_0 us_14_0 g_14_0 :: box b3 63 [.int .i64 (p : Int), .int .i64 (i : Int), .int .i64 (q : Int), .int .i64 (j : Int)] :: []) w')
   (fun ((k0, us_14_0, g_14_0) : Nat × (List SV) × (List (Int × List Config))) => (a.outs p).length - k0) (0, [], []) ⟨rfl, trivial⟩ ?_ ?_
 ·refine ⟨Nat.zero_le _, rfl, ?_⟩
  exact M
 rintro ⟨k0, us_14_0, g_14_0⟩ jj0 w3 ⟨hk0, hg, M⟩
 refine wc_seq ?_
 refine wc_region ?_
 refine wl_m M (q_lss rfl rfl) rfl rfl ?_
 refine wl_nil ?_
 refine wc_seq ?_
 refine wc_dec rfl (fun ht25 => ?_) (fun ht25 => ?_)
 ·obtain ⟨x0, hx0⟩ : ∃ x_, (a.outs p)[k0]? = some x_ := ⟨_, List.getElem?_eq_getElem (by omega)⟩
  have hll0 := (R21).len_le
  refine wc_skip ?_
  refine wc_seq ?_
  refine wc_block ?_
  refine wc_seq ?_
  refine wc_region ?_
  refine wl_ix (j := k0) M R21 Tryz.underlying23 rfl rfl hx0 rfl (fun b26 o26 p26 => ?_)
  refine wl_m M (q_ldp p26 rfl rfl) rfl rfl ?_
  refine wl_e (e_alloc M z51) rfl rfl ?_
  rintro _ w4 ⟨b7, rfl, M⟩
  refine wl_e0 (e_stW 0 M rfl rfl rfl sz51 rfl rfl) rfl ?_
  intro _ w5 M
  simp only [sC0, sCS] at M
  refine wl_nil ?_
  refine wc_seq ?_
  refine wc_draws (fun w' => Mem w I I (box b7 51 [.int .i64 x0.src, .int .i64 x0.dst, .int .i32 x0.inp, .int .i32 x0.out] :: gmap QRune EConfig b14 us_14_0 us_14_0 g_14_0 :: box b3 63 [.int .i64 (p : Int), .int .i64 (i : Int), .int .i64 (q : Int), .int .i64 (j : Int)] :: []) w' ∧ True) [] fol ?_
  replace M := M.drew
  have hS := (⟨M, trivial⟩ : _ ∧ _)
  refine wa_q 0 rfl (by kernel_rfl) (q_move rfl) hS rfl rfl ?_
  refine wa_q 1 rfl (by kernel_rfl) (q_nilCheck rfl) hS rfl rfl ?_
  refine wa_q 2 rfl (by kernel_rfl) (q_fa fo_131_2 rfl) hS rfl rfl ?_
  refine wa_q 3 rfl (by kernel_rfl) ((q_ldbI Hs Tryz.underlying29 rfl rfl rfl).mono fun _ h => h.1) hS rfl rfl ?_
  refine wa_q 4 rfl (by kernel_rfl) (q_fa fo_63_1 rfl) hS rfl rfl ?_
  refine wa_q 5 rfl (by kernel_rfl) ((q_ldb 2 Tryz.underlying3 rfl rfl rfl rfl).mono fun _ h => h.1) hS rfl rfl ?_
  refine wa_q 6 rfl (by kernel_rfl) (q_fa fo_51_2 rfl) hS rfl rfl ?_
  refine wa_q 7 rfl (by kernel_rfl) ((q_ldb 0 Tryz.underlying21 rfl rfl rfl rfl).mono fun _ h => h.1) hS rfl rfl ?_
  refine wa_e 8 rfl (by kernel_rfl) (e_callC M (eat_c i x0.inp (by omega) M.imm Rx) Tryz.func73 rfl rfl) rfl rfl ?_
  rintro _ w6 ⟨J37, hJ37, rfl, M⟩
  have hS := (⟨(M.less hJ37 (fun _ _ => rfl)), trivial⟩ : _ ∧ _)
  refine ⟨fun _ => hS, ?_⟩
  replace M := M.less hJ37 (fun _ _ => rfl)
  refine wa_q 9 rfl (by kernel_rfl) (q_move rfl) hS rfl rfl ?_
  refine wa_q 10 rfl (by kernel_rfl) (q_ext rfl rfl) hS rfl rfl ?_
  refine wa_q 11 rfl (by kernel_rfl) (q_ext rfl rfl) hS rfl rfl ?_
  refine wa_q 12 rfl (by kernel_rfl) (q_assign rfl) hS rfl rfl ?_
  refine wa_q 13 rfl (by kernel_rfl) (q_assign rfl) hS rfl rfl ?_
  refine wa_done (by kernel_rfl) ?_
  refine wc_seq ?_
  refine wc_seq ?_
  refine wc_join (α := Unit) [40, 41, 42, 43, 44, 45, 46] (fun _ => [(46, .bool ((!(eatB xs i x0.inp)) || (decide (x0.out = 0))))]) (fun _ w' => Mem w I I (box b7 51 [.int .i64 x0.src, .int .i64 x0.dst, .int .i32 x0.inp, .int .i32 x0.out] :: gmap QRune EConfig b14 us_14_0 us_14_0 g_14_0 :: box b3 63 [.int .i64 (p : Int), .int .i64 (i : Int), .int .i64 (q : Int), .int .i64 (j : Int)] :: []) w') ?_ ?_
  ·refine wc_region ?_
   refine wl_mv M rfl rfl ?_
   refine wl_m M (q_not rfl) rfl rfl ?_
   refine wl_mv M rfl rfl ?_
   rcases Bool.eq_false_or_eq_true (!(eatB xs i x0.inp)) with hg42 | hg42
   ·refine wl_m M (q_off 2 rfl rfl rfl hg42) rfl rfl ?_
    refine wl_m M (q_off 2 rfl rfl rfl hg42) rfl rfl ?_
    refine wl_m M (q_off 2 rfl rfl rfl hg42) rfl rfl ?_
    refine wl_m M (q_pickT rfl hg42 rfl) rfl rfl ?_
    refine wl_nil ?_
    exact ⟨(), M, ⟨(show some (Value.bool true) = some (Value.bool ((!(eatB xs i x0.inp)) || (decide (x0.out = 0)))) from by first | (simp only [hg42, Bool.true_or, Bool.false_or, Bool.true_and, Bool.false_and, Bool.or_true, Bool.or_false, Bool.and_true, Bool.and_false]; done) | (simp_all; done) | (simp_all; omega)), trivial⟩, unw_take 7 rfl rfl⟩
   refine wl_m M (q_guard 2 rfl rfl rfl hg42 (q_fa fo_51_3 rfl)) rfl rfl ?_
   refine wl_m M (q_guard 2 rfl rfl rfl hg42 (q_ldb 0 Tryz.underlying21 rfl rfl rfl rfl)) rfl rfl ?_
   refine wl_m M (q_guard 2 rfl rfl rfl hg42 (q_eql rfl rfl)) rfl rfl ?_
   refine wl_m M (q_pickF rfl hg42 rfl) rfl rfl ?_
   refine wl_nil ?_
   exact ⟨(), M, ⟨(show some (Value.bool (decide (x0.out = 0))) = some (Value.bool ((!(eatB xs i x0.inp)) || (decide (x0.out = 0)))) from by first | (simp only [hg42, Bool.true_or, Bool.false_or, Bool.true_and, Bool.false_and, Bool.or_true, Bool.or_false, Bool.and_true, Bool.and_false]; done) | (simp_all; done) | (simp_all; omega)), trivial⟩, unw_take 7 rfl rfl⟩
  rintro _ jr6 w7 M
  refine wc_cond rfl (fun ht46 => ?_) (fun ht46 => ?_)
  ·refine wc_exit rfl ?_
   refine wc_region ?_
   refine wl_m M (q_add rfl rfl (IntWalk.i64_in _ (by omega))) rfl rfl ?_
   refine wl_mv M rfl rfl ?_
   refine wl_nil ?_
   replace M := M.drop 0
   refine ⟨(k0 + 1, us_14_0, g_14_0), ?_, ⟨(by omega), (by rw [take_flat hx0, hg, spkA, if_pos ht46, List.append_nil]), M⟩, ⟨rfl, trivial⟩, unw_look rfl (unw_hav rfl (unw_look rfl unw_base))⟩
   show (a.outs p).length - (k0 + 1) < (a.outs p).length - k0
   omega
  refine wc_skip ?_
  refine wc_seq ?_
  refine wc_draws (fun w' => Mem w I I (box b7 51 [.int .i64 x0.src, .int .i64 x0.dst, .int .i32 x0.inp, .int .i32 x0.out] :: gmap QRune EConfig b14 us_14_0 us_14_0 g_14_0 :: box b3 63 [.int .i64 (p : Int), .int .i64 (i : Int), .int .i64 (q : Int), .int .i64 (j : Int)] :: []) w' ∧ True) [] fol ?_
  replace M := M.drew
  have hS := (⟨M, trivial⟩ : _ ∧ _)
  refine wa_q 0 rfl (by kernel_rfl) (q_move rfl) hS rfl rfl ?_
  refine wa_q 1 rfl (by kernel_rfl) (q_nilCheck rfl) hS rfl rfl ?_
  refine wa_q 2 rfl (by kernel_rfl) (q_fa fo_131_5 rfl) hS rfl rfl ?_
  refine wa_q 3 rfl (by kernel_rfl) ((q_ldbI Hs Tryz.underlying75 rfl rfl rfl).mono fun _ h => h.1) hS rfl rfl ?_
  refine wa_q 4 rfl (by kernel_rfl) (q_fa fo_63_2 rfl) hS rfl rfl ?_
  refine wa_q 5 rfl (by kernel_rfl) ((q_ldb 2 Tryz.underlying3 rfl rfl rfl rfl).mono fun _ h => h.1) hS rfl rfl ?_
  obtain ⟨os53, u53, Ro53, ho53, R53⟩ := (Rm2).at_ (lv_at hq1)
  replace R53 : rdSl EArc I (sv u53) ((b.outs q)) := R53
  refine wa_ixS (j := q) 6 hS (fun _ h => Ro53.mono h.1.imm) rfl (by kernel_rfl) Tryz.underlying75 rfl rfl ho53 rfl (fun b53 o53 p53 => ?_)
  refine wa_q 7 rfl (by kernel_rfl) (q_ldp p53 rfl rfl) hS rfl rfl ?_
  refine wa_q 8 rfl (by kernel_rfl) (q_lenR R53 Tryz.underlying23 rfl) hS rfl rfl ?_
  refine wa_q 9 rfl (by kernel_rfl) (q_move rfl) hS rfl rfl ?_
  refine wa_done (by kernel_rfl) ?_
  refine wc_block ?_
  refine wc_loop (α := Nat × (List SV) × (List (Int × List Config))) [11, 12, 13, 56, 57, 58, 59, 60, 61, 62, 63, 64, 65, 66, 67, 68, 69, 70, 71, 72, 73, 74, 75, 76, 77, 78, 79, 80, 81, 82, 83, 84, 85, 86, 87, 88, 89, 90, 91, 92, 93, 94, 95, 96] (fun ((k2, us_14_2, g_14_2) : Nat × (List SV) × (List (Int × List Config))) => [(56, .int .i64 (k2 : Int))])
    (fun ((k2, us_14_2, g_14_2) : Nat × (List SV) × (List (Int × List Config))) w' => (k2 ≤ (b.outs q).length) ∧ (g_14_2 = grp (fun e : Int × Config => e.1) (fun e : Int × Config => e.2) (((a.outs p).take k0).flatMap (spkA xs zs i j (b.outs q)) ++ ((b.outs q).take k2).flatMap (spkB zs i j x0))) ∧ Mem w I I (box b7 51 [.int .i64 x0.src, .int .i64 x0.dst, .int .i32 x0.inp, .int .i32 x0.out] :: gmap QRune EConfig b14 us_14_2 us_14_2 g_14_2 :: box b3 63 [.int .i64 (p : Int), .int .i64 (i : Int), .int .i64 (q : Int), .int .i64 (j : Int)] :: []) w')
    (fun ((k2, us_14_2, g_14_2) : Nat × (List SV) × (List (Int × List Config))) => (b.outs q).length - k2) (0, us_14_0, g_14_0) ⟨rfl, trivial⟩ ?_ ?_
  ·refine ⟨Nat.zero_le _, (by rw [hg]; simp), ?_⟩
   exact M
  rintro ⟨k2, us_14_2, g_14_2⟩ jj2 w8 ⟨hk2, hg2, M⟩
  refine wc_seq ?_
  refine wc_region ?_
  refine wl_m M (q_lss rfl rfl) rfl rfl ?_
  refine wl_nil ?_
  refine wc_seq ?_
  refine wc_dec rfl (fun ht57 => ?_) (fun ht57 => ?_)
  ·obtain ⟨x2, hx2⟩ : ∃ x_, (b.outs q)[k2]? = some x_ := ⟨_, List.getElem?_eq_getElem (by omega)⟩
   have hll2 := (R53).len_le
   refine wc_skip ?_
   refine wc_seq ?_
   refine wc_block ?_
   refine wc_seq ?_
   refine wc_region ?_
   refine wl_ix (j := k2) M R53 Tryz.underlying23 rfl rfl hx2 rfl (fun b58 o58 p58 => ?_)
   refine wl_m M (q_ldp p58 rfl rfl) rfl rfl ?_
   refine wl_e (e_alloc M z51) rfl rfl ?_
   rintro _ w9 ⟨b11, rfl, M⟩
   refine wl_e0 (e_stW 0 M rfl rfl rfl sz51 rfl rfl) rfl ?_
   intro _ w10 M
   simp only [sC0, sCS] at M
   refine wl_nil ?_
   refine wc_seq ?_
   refine wc_draws (fun w' => Mem w I I (box b11 51 [.int .i64 x2.src, .int .i64 x2.dst, .int .i32 x2.inp, .int .i32 x2.out] :: box b7 51 [.int .i64 x0.src, .int .i64 x0.dst, .int .i32 x0.inp, .int .i32 x0.out] :: gmap QRune EConfig b14 us_14_2 us_14_2 g_14_2 :: box b3 63 [.int .i64 (p : Int), .int .i64 (i : Int), .int .i64 (q : Int), .int .i64 (j : Int)] :: []) w' ∧ True) [] fol ?_
   replace M := M.drew
   have hS := (⟨M, trivial⟩ : _ ∧ _)
   refine wa_q 0 rfl (by kernel_rfl) (q_move rfl) hS rfl rfl ?_
   refine wa_q 1 rfl (by kernel_rfl) (q_nilCheck rfl) hS rfl rfl ?_
   refine wa_q 2 rfl (by kernel_rfl) (q_fa fo_131_3 rfl) hS rfl rfl ?_
   refine wa_q 3 rfl (by kernel_rfl) ((q_ldbI Hs Tryz.underlying29 rfl rfl rfl).mono fun _ h => h.1) hS rfl rfl ?_
   refine wa_q 4 rfl (by kernel_rfl) (q_fa fo_63_3 rfl) hS rfl rfl ?_
   refine wa_q 5 rfl (by kernel_rfl) ((q_ldb 3 Tryz.underlying3 rfl rfl rfl rfl).mono fun _ h => h.1) hS rfl rfl ?_
   refine wa_q 6 rfl (by kernel_rfl) (q_fa fo_51_3 rfl) hS rfl rfl ?_
   refine wa_q 7 rfl (by kernel_rfl) ((q_ldb 0 Tryz.underlying21 rfl rfl rfl rfl).mono fun _ h => h.1) hS rfl rfl ?_
   refine wa_e 8 rfl (by kernel_rfl) (e_callC M (eat_c j x2.out (by omega) M.imm Rz) Tryz.func73 rfl rfl) rfl rfl ?_
   rintro _ w11 ⟨J69, hJ69, rfl, M⟩
   have hS := (⟨(M.less hJ69 (fun _ _ => rfl)), trivial⟩ : _ ∧ _)
   refine ⟨fun _ => hS, ?_⟩
   replace M := M.less hJ69 (fun _ _ => rfl)
   refine wa_q 9 rfl (by kernel_rfl) (q_move rfl) hS rfl rfl ?_
   refine wa_q 10 rfl (by kernel_rfl) (q_ext rfl rfl) hS rfl rfl ?_
   refine wa_q 11 rfl (by kernel_rfl) (q_ext rfl rfl) hS rfl rfl ?_
   refine wa_q 12 rfl (by kernel_rfl) (q_assign rfl) hS rfl rfl ?_
   refine wa_q 13 rfl (by kernel_rfl) (q_assign rfl) hS rfl rfl ?_
   refine wa_done (by kernel_rfl) ?_
   refine wc_seq ?_
   refine wc_join (α := Unit) [72, 73, 74, 75, 76, 77, 78, 79] (fun _ => [(79, .bool ((eatB zs j x2.out) && (decide (x2.inp = x0.out))))]) (fun _ w' => Mem w I I (box b11 51 [.int .i64 x2.src, .int .i64 x2.dst, .int .i32 x2.inp, .int .i32 x2.out] :: box b7 51 [.int .i64 x0.src, .int .i64 x0.dst, .int .i32 x0.inp, .int .i32 x0.out] :: gmap QRune EConfig b14 us_14_2 us_14_2 g_14_2 :: box b3 63 [.int .i64 (p : Int), .int .i64 (i : Int), .int .i64 (q : Int), .int .i64 (j : Int)] :: []) w') ?_ ?_
   ·refine wc_region ?_
    refine wl_mv M rfl rfl ?_
    refine wl_mv M rfl rfl ?_
    rcases Bool.eq_false_or_eq_true (eatB zs j x2.out) with hg73 | hg73
    ·refine wl_m M (q_guard 1 rfl rfl rfl hg73 (q_fa fo_51_2 rfl)) rfl rfl ?_
     refine wl_m M (q_guard 1 rfl rfl rfl hg73 (q_ldb 0 Tryz.underlying21 rfl rfl rfl rfl)) rfl rfl ?_
     refine wl_m M (q_guard 1 rfl rfl rfl hg73 (q_fa fo_51_3 rfl)) rfl rfl ?_
     refine wl_m M (q_guard 1 rfl rfl rfl hg73 (q_ldb 1 Tryz.underlying21 rfl rfl rfl rfl)) rfl rfl ?_
     refine wl_m M (q_guard 1 rfl rfl rfl hg73 (q_eql rfl rfl)) rfl rfl ?_
     refine wl_m M (q_pickT rfl hg73 rfl) rfl rfl ?_
     refine wl_nil ?_
     exact ⟨(), M, ⟨(show some (Value.bool (decide (x2.inp = x0.out))) = some (Value.bool ((eatB zs j x2.out) && (decide (x2.inp = x0.out)))) from by first | (simp only [hg73, Bool.true_or, Bool.false_or, Bool.true_and, Bool.false_and, Bool.or_true, Bool.or_false, Bool.and_true, Bool.and_false]; done) | (simp_all; done) | (simp_all; omega)), trivial⟩, unw_take 8 rfl rfl⟩
    refine wl_m M (q_off 1 rfl rfl rfl hg73) rfl rfl ?_
    refine wl_m M (q_off 1 rfl rfl rfl hg73) rfl rfl ?_
    refine wl_m M (q_off 1 rfl rfl rfl hg73) rfl rfl ?_
    refine wl_m M (q_off 1 rfl rfl rfl hg73) rfl rfl ?_
    refine wl_m M (q_off 1 rfl rfl rfl hg73) rfl rfl ?_
    refine wl_m M (q_pickF rfl hg73 rfl) rfl rfl ?_
    refine wl_nil ?_
    exact ⟨(), M, ⟨(show some (Value.bool false) = some (Value.bool ((eatB zs j x2.out) && (decide (x2.inp = x0.out)))) from by first | (simp only [hg73, Bool.true_or, Bool.false_or, Bool.true_and, Bool.false_and, Bool.or_true, Bool.or_false, Bool.and_true, Bool.and_false]; done) | (simp_all; done) | (simp_all; omega)), trivial⟩, unw_take 8 rfl rfl⟩
   rintro _ jr11 w12 M
   refine wc_cond rfl (fun ht79 => ?_) (fun ht79 => ?_)
   ·obtain ⟨us86, j86, u86, hu86, hg86, hs86, hlk86, hup86, M⟩ := M.gmReady 2 rfl x0.out
    simp only [sC0, sCS] at M
    have hgl86 := M.gmVs (i := 2) rfl
    refine wc_draws (fun w' => Mem w I I (box b11 51 [.int .i64 x2.src, .int .i64 x2.dst, .int .i32 x2.inp, .int .i32 x2.out] :: box b7 51 [.int .i64 x0.src, .int .i64 x0.dst, .int .i32 x0.inp, .int .i32 x0.out] :: box b3 63 [.int .i64 (p : Int), .int .i64 (i : Int), .int .i64 (q : Int), .int .i64 (j : Int)] :: []) w' ∧ hp w' b14 = some (mobj QRune sv ((gk (aput g_14_2 x0.out ((aget g_14_2 x0.out).getD []))).zip (us_14_2)))) [16] fol ?_
    replace M := M.drew
    have hS := mkS (F := fun w' => hp w' b14 = some (mobj QRune sv ((gk (aput g_14_2 x0.out ((aget g_14_2 x0.out).getD []))).zip (us_14_2)))) (M.drop 2) ((by first | exact M.gmAt (i := 2) rfl | (have h := M.gmAt (i := 2) rfl; rw [gk_set hg86] at h; exact h)))
    refine wa_q 0 rfl (by kernel_rfl) (q_move rfl) hS rfl rfl ?_
    refine wa_q 1 rfl (by kernel_rfl) (q_fa fo_51_3 rfl) hS rfl rfl ?_
    refine wa_q 2 rfl (by kernel_rfl) ((q_ldb 1 Tryz.underlying21 rfl rfl rfl rfl).mono fun _ h => h.1) hS rfl rfl ?_
    refine wa_q 3 rfl (by kernel_rfl) (q_move rfl) hS rfl rfl ?_
    refine wa_q 4 rfl (by kernel_rfl) (q_fa fo_51_3 rfl) hS rfl rfl ?_
    refine wa_q 5 rfl (by kernel_rfl) ((q_ldb 1 Tryz.underlying21 rfl rfl rfl rfl).mono fun _ h => h.1) hS rfl rfl ?_
    refine wa_q 6 rfl (by kernel_rfl) (q_lkgS (k := x0.out) (fun _ h => h.2) hlk86 Tryz.underlying83 zv64 rfl rfl) hS rfl rfl ?_
    refine wa_q 7 rfl (by kernel_rfl) (q_fa fo_51_1 rfl) hS rfl rfl ?_
    refine wa_q 8 rfl (by kernel_rfl) ((q_ldb 1 Tryz.underlying3 rfl rfl rfl rfl).mono fun _ h => h.1) hS rfl rfl ?_
    refine wa_q 9 rfl (by kernel_rfl) (q_move rfl) hS rfl rfl ?_
    refine wa_q 10 rfl (by kernel_rfl) (q_fa fo_51_1 rfl) hS rfl rfl ?_
    refine wa_q 11 rfl (by kernel_rfl) ((q_ldb 0 Tryz.underlying3 rfl rfl rfl rfl).mono fun _ h => h.1) hS rfl rfl ?_
    refine wa_q 12 rfl (by kernel_rfl) (q_move rfl) hS rfl rfl ?_
    refine wa_q 13 rfl (by kernel_rfl) (q_build (bd_63_0_1_2_3 _ _ _ _) ⟨⟨rfl, rfl⟩, ⟨rfl, rfl⟩, ⟨rfl, rfl⟩, ⟨rfl, rfl⟩, trivial⟩) hS rfl rfl ?_
    refine wa_e 14 rfl (by kernel_rfl) (e_bsI (E := EConfig) (xs := [(Config.mk x0.dst (eatK i x0.inp) x2.dst (eatK j x2.out))]) M (bs_64_1 _ _ _ _) ⟨⟨rfl, rfl⟩, trivial⟩ rfl rfl (by decide)) rfl rfl ?_
    rintro _ w13 ⟨u94, J94, rfl, hJ94, R94, M⟩
    have hoJ94 := M.old
    have hS := mkS (F := fun w' => hp w' b14 = some (mobj QRune sv ((gk (aput g_14_2 x0.out ((aget g_14_2 x0.out).getD []))).zip (us_14_2)))) ((M.less hJ94 (fun _ _ => rfl)).drop 2) ((by first | exact M.gmAt (i := 2) rfl | (have h := M.gmAt (i := 2) rfl; rw [gk_set hg86] at h; exact h)))
    refine ⟨fun _ => hS, ?_⟩
    refine wa_e 15 rfl (by kernel_rfl) (e_gapp 2 j86 M rfl Tryz.underlying64 hu86 hg86 rfl rfl R94 (by have h1 := take_flat_len (spkA_len xs zs i j (b.outs q)) (a.outs p) k0; have h2 := take_flat_len (spkB_len zs i j x0) (b.outs q) k2; have h3 := grp_look_len (fun e : Int × Config => e.1) (fun e : Int × Config => e.2) x0.out (((a.outs p).take k0).flatMap (spkA xs zs i j (b.outs q)) ++ ((b.outs q).take k2).flatMap (spkB zs i j x0)); rw [List.length_append] at h3; rw [hg2]; show (_ + 1) * 32 ≤ _; omega)) rfl rfl ?_
    rintro _ w14 ⟨u95, rfl, M⟩
    simp only [sC0, sCS] at M
    have hS := mkS (F := fun w' => hp w' b14 = some (mobj QRune sv ((gk (aput g_14_2 x0.out ((aget g_14_2 x0.out).getD []))).zip (us_14_2)))) ((M.less hJ94 (fun _ _ => rfl)).drop 2) ((by first | exact M.gmAt (i := 2) rfl | (have h := M.gmAt (i := 2) rfl; rw [gk_set hg86] at h; exact h)))
    refine ⟨fun _ => hS, ?_⟩
    replace M := M.less hJ94 (fun _ _ => rfl)
    refine wa_e0 16 rfl (by kernel_rfl) (e_gmu (k := x0.out) (u := u95) (os' := us86.set j86 u95) 2 M rfl rfl (by rw [gk_set hg86]; exact hup86 _) (by rw [List.length_set, List.length_set]; exact Nat.le_of_eq hgl86) Tryz.underlying83 rfl rfl rfl) rfl ?_
    intro _ w15 M
    rw [hs86] at M
    simp only [sC0, sCS] at M
    refine ⟨nofun, ?_⟩
    refine wa_done (by kernel_rfl) ?_
    refine wc_region ?_
    refine wl_m M (q_add rfl rfl (IntWalk.i64_in _ (by omega))) rfl rfl ?_
    refine wl_mv M rfl rfl ?_
    refine wl_nil ?_
    replace M := M.drop 0
    refine ⟨(k2 + 1, us86.set j86 u95, aput g_14_2 x0.out ((aget g_14_2 x0.out).getD [] ++ [(Config.mk x0.dst (eatK i x0.inp) x2.dst (eatK j x2.out))])), ?_, ⟨(by omega), (by rw [take_flat hx2, spkB, if_pos ht79, ← List.append_assoc, grp_snoc, hg2]), M⟩, ⟨rfl, trivial⟩, unw_look rfl (unw_hav rfl (unw_look rfl unw_base))⟩
    show (b.outs q).length - (k2 + 1) < (b.outs q).length - k2
    omega
   refine wc_skip ?_
   refine wc_region ?_
   refine wl_m M (q_add rfl rfl (IntWalk.i64_in _ (by omega))) rfl rfl ?_
   refine wl_mv M rfl rfl ?_
   refine wl_nil ?_
   replace M := M.drop 0
   refine ⟨(k2 + 1, us_14_2, g_14_2), ?_, ⟨(by omega), (by rw [take_flat hx2, hg2, spkB, if_neg (by rw [ht79]; decide), List.append_nil]), M⟩, ⟨rfl, trivial⟩, unw_look rfl (unw_hav rfl (unw_look rfl unw_base))⟩
   show (b.outs q).length - (k2 + 1) < (b.outs q).length - k2
   omega
  have hke2 : k2 = (b.outs q).length := by omega
  rw [hke2, List.take_length] at hg2
  refine wc_exit rfl ?_
  refine wc_region ?_
  refine wl_m M (q_add rfl rfl (IntWalk.i64_in _ (by omega))) rfl rfl ?_
  refine wl_mv M rfl rfl ?_
  refine wl_nil ?_
  replace M := M.drop 0
  refine ⟨(k0 + 1, us_14_2, g_14_2), ?_, ⟨(by omega), (by rw [take_flat hx0, hg2, spkA, if_neg (by rw [ht46]; decide)]), M⟩, ⟨rfl, trivial⟩, unw_look rfl (unw_hav rfl (unw_look rfl (unw_hav rfl (unw_look rfl unw_base))))⟩
  show (a.outs p).length - (k0 + 1) < (a.outs p).length - k0
  omega
 have hke0 : k0 = (a.outs p).length := by omega
 rw [hke0, List.take_length] at hg
 refine wc_exit rfl ?_
 refine wc_seq ?_
 refine wc_region ?_
 refine wl_mv M rfl rfl ?_
 refine wl_as M rfl rfl ?_
 refine wl_nil ?_
 refine wc_ret ?_
 obtain ⟨I2, M, hI2, Rm⟩ := M.frzGm 0 rfl
 rw [hg] at Rm
 exact out1 rfl rfl ⟨_, I2, rfl, M.grow, Rm⟩
end Go.Proofs.YtmjieefhjmiagaaGreatDoor.G
