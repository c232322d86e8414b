/- Walks of the program's functions. -/
import Derived.Test.YtoilmeiikgegcaaDoorWE4
import Derived.Test.YtoilmeiikgegcaaDoorWTa
import Derived.Test.YtoilmeiikgegcaaDoorGLw4
set_option linter.all false
namespace Go.Proofs.YtoilmeiikgegcaaDoor.G
open Go Go.RowKit
theorem large4_c (a : Tra) {v1 : Value} {I : Heap} {w : World} (hI : hle I (hp w)) (R1 : a.rd I v1) : Calls A 24 #[v1] w (Ret w I fun r _ => r = .bool (largeB a)) := by
 obtain ⟨fu1, au1, rfl, Rf1, Ra1⟩ := R1
 have M := Mem.start hI
 refine enter Tryd.func24 rfl 13 Tryd.ntmps24 [_] rfl ?_
 refine wc_seq ?_
 refine wc_region ?_
 refine wl_e (e_box M rfl) rfl rfl ?_
 rintro _ w1 ⟨b1, rfl, M⟩
 refine wl_as M rfl rfl ?_
 refine wl_nil ?_
 refine wc_seq ?_
 refine wc_join (α := Unit) [2, 3, 4, 5, 6, 7, 8, 9, 10, 11, 12] (fun _ => [(2, .bool ((decide (700 < (a.arcs.length : Int))) || (decide (700 < (a.finals.length : Int)))))]) (fun _ w' => Mem w I I (box b1 29 [.int .i64 a.states, .int .i64 a.start, sv fu1, sv au1] :: []) w') ?_ ?_
 ·refine wc_region ?_
  refine wl_m M (q_fa fo_29_3 rfl) rfl rfl ?_
  refine wl_m M (q_ldb 0 Tryd.underlying27 rfl rfl rfl rfl) rfl rfl ?_
  refine wl_m M (q_lenR Ra1 Tryd.underlying27 rfl) rfl rfl ?_
  refine wl_m M (q_gtr rfl rfl) rfl rfl ?_
  refine wl_mv M rfl rfl ?_
  rcases Bool.eq_false_or_eq_true (decide (700 < (a.arcs.length : Int))) with hg7 | hg7
  ·refine wl_m M (q_off 4 rfl rfl rfl hg7) rfl rfl ?_
   refine wl_m M (q_off 4 rfl rfl rfl hg7) rfl rfl ?_
   refine wl_m M (q_off 4 rfl rfl rfl hg7) rfl rfl ?_
   refine wl_m M (q_off 4 rfl rfl rfl hg7) rfl rfl ?_
   refine wl_m M (q_pickT rfl hg7 rfl) rfl rfl ?_
   refine wl_as M rfl rfl ?_
   refine wl_nil ?_
   exact ⟨(), M, ⟨(show some (Value.bool true) = some (Value.bool ((decide (700 < (a.arcs.length : Int))) || (decide (700 < (a.finals.length : Int))))) from by first | (simp only [hg7, Bool.true_or, Bool.false_or, Bool.true_and, Bool.false_and, Bool.or_true, Bool.or_false, Bool.and_true, Bool.and_false]; done) | simp_all), trivial⟩, unw_take 11 rfl rfl⟩
  refine wl_m M (q_guard 4 rfl rfl rfl hg7 (q_fa fo_29_2 rfl)) rfl rfl ?_
  refine wl_m M (q_guard 4 rfl rfl rfl hg7 (q_ldb 0 Tryd.underlying26 rfl rfl rfl rfl)) rfl rfl ?_
  refine wl_m M (q_guard 4 rfl rfl rfl hg7 (q_lenR Rf1 Tryd.underlying26 rfl)) rfl rfl ?_
  refine wl_m M (q_guard 4 rfl rfl rfl hg7 (q_gtr rfl rfl)) rfl rfl ?_
  refine wl_m M (q_pickF rfl hg7 rfl) rfl rfl ?_
  refine wl_as M rfl rfl ?_
  refine wl_nil ?_
  exact ⟨(), M, ⟨(show some (Value.bool (decide (700 < (a.finals.length : Int)))) = some (Value.bool ((decide (700 < (a.arcs.length : Int))) || (decide (700 < (a.finals.length : Int))))) from by first | (simp only [hg7, Bool.true_or, Bool.false_or, Bool.true_and, Bool.false_and, Bool.or_true, Bool.or_false, Bool.and_true, Bool.and_false]; done) | simp_all), trivial⟩, unw_take 11 rfl rfl⟩
 rintro _ jr1 w2 M
 refine wc_ret ?_
 exact out1 rfl rfl ⟨_, _, rfl, M.grow, rfl⟩
theorem agree4_c (a b : Tra) (e1 e2 : Int) {v1 v2 : Value} {I : Heap} {w : World} (hI : hle I (hp w)) (R1 : a.rd I v1) (R2 : b.rd I v2) : Calls A 19 #[v1, .int .i64 e1, v2, .int .i64 e2] w (Ret w I fun r _ => r = .bool (decide ((a, e1) = (b, e2)))) := by
 obtain ⟨fu1, au1, rfl, Rf1, Ra1⟩ := R1
 obtain ⟨fu2, au2, rfl, Rf2, Ra2⟩ := R2
 have M := Mem.start hI
 refine enter Tryd.func19 rfl 17 Tryd.ntmps19 [_, _, _, _] rfl ?_
 refine wc_seq ?_
 refine wc_region ?_
 refine wl_e (e_box M rfl) rfl rfl ?_
 rintro _ w1 ⟨b4, rfl, M⟩
 refine wl_e (e_box M rfl) rfl rfl ?_
 rintro _ w2 ⟨b6, rfl, M⟩
 refine wl_as M rfl rfl ?_
 refine wl_nil ?_
 refine wc_seq ?_
 refine wc_join (α := Unit) [8, 9, 10, 11, 12, 13, 14, 15, 16] (fun _ => [(8, .bool ((decide (e1 = e2)) && (decide (a = b))))]) (fun _ w' => Mem w I I (box b6 29 [.int .i64 b.states, .int .i64 b.start, sv fu2, sv au2] :: box b4 29 [.int .i64 a.states, .int .i64 a.start, sv fu1, sv au1] :: []) w') ?_ ?_
 ·refine wc_region ?_
  refine wl_mv M rfl rfl ?_
  refine wl_mv M rfl rfl ?_
  refine wl_m M (q_eql rfl rfl) rfl rfl ?_
  refine wl_mv M rfl rfl ?_
  rcases Bool.eq_false_or_eq_true (decide (e1 = e2)) with hg12 | hg12
  ·refine wl_m M (q_guard 3 rfl rfl rfl hg12 (q_ldbA 1 Tryd.underlying29 rfl sz29 rfl rfl rfl rfl)) rfl rfl ?_
   refine wl_m M (q_guard 3 rfl rfl rfl hg12 (q_ldbA 0 Tryd.underlying29 rfl sz29 rfl rfl rfl rfl)) rfl rfl ?_
   refine wl_e (e_guard 3 rfl rfl rfl hg12 (e_callC M (same4_c a b M.imm ⟨_, _, rfl, Rf1, Ra1⟩ ⟨_, _, rfl, Rf2, Ra2⟩) Tryd.func46 rfl rfl)) rfl rfl ?_
   rintro _ w3 ⟨J15, hJ15, rfl, M⟩
   replace M := M.less hJ15 (fun _ _ => rfl)
   refine wl_m M (q_pickT rfl hg12 rfl) rfl rfl ?_
   refine wl_as M rfl rfl ?_
   refine wl_nil ?_
   exact ⟨(), M, ⟨(show some (Value.bool (decide (a = b))) = some (Value.bool ((decide (e1 = e2)) && (decide (a = b)))) from by first | (simp only [hg12, Bool.true_or, Bool.false_or, Bool.true_and, Bool.false_and, Bool.or_true, Bool.or_false, Bool.and_true, Bool.and_false]; done) | simp_all), trivial⟩, unw_take 9 rfl rfl⟩
  refine wl_m M (q_off 3 rfl rfl rfl hg12) rfl rfl ?_
  refine wl_m M (q_off 3 rfl rfl rfl hg12) rfl rfl ?_
  refine wl_m M (q_off 3 rfl rfl rfl hg12) rfl rfl ?_
  refine wl_m M (q_pickF rfl hg12 rfl) rfl rfl ?_
  refine wl_as M rfl rfl ?_
  refine wl_nil ?_
  exact ⟨(), M, ⟨(show some (Value.bool false) = some (Value.bool ((decide (e1 = e2)) && (decide (a = b)))) from by first | (simp only [hg12, Bool.true_or, Bool.false_or, Bool.true_and, Bool.false_and, Bool.or_true, Bool.or_false, Bool.and_true, Bool.and_false]; done) | simp_all), trivial⟩, unw_take 9 rfl rfl⟩
 rintro _ jr1 w4 M
 refine wc_ret ?_
 exact out1 rfl rfl ⟨_, _, rfl, M.grow, by rw [agree_eq]⟩
theorem small4_c {ts : List Tra} {v : Value} {I : Heap} {w : World} (hI : hle I (hp w)) (R : rdTras I v ts) : Calls A 21 #[v] w (Ret w I fun r _ => r = .bool (ts.all smallB)) := by
 obtain ⟨rs, R0, hl, hts⟩ := R
 obtain ⟨u, rfl⟩ := rdSl_slice R0
 have M := Mem.start hI
 refine enter Tryd.func21 rfl 26 Tryd.ntmps21 [_] rfl ?_
 refine wc_seq ?_
 refine wc_region ?_
 refine wl_as M rfl rfl ?_
 refine wl_nil ?_
 refine wc_seq ?_
 refine wc_seq ?_
 refine wc_region ?_
 refine wl_mv M rfl rfl ?_
 refine wl_m M (q_lenR R0 Tryd.underlying66 rfl) rfl rfl ?_
 refine wl_mv M rfl rfl ?_
 refine wl_nil ?_
 refine wc_block ?_
 refine wc_loop (α := Nat) [2, 4, 7, 8, 9, 10, 11, 12, 13, 14, 15, 16, 17, 18, 19, 20, 21, 22, 23, 24, 25] (fun (k0 : Nat) => [(7, .int .i64 (k0 : Int))])
   (fun (k0 : Nat) w' => (k0 ≤ rs.length) ∧ ((ts.take k0).all smallB = true) ∧ Mem w I I ([]) w')
   (fun (k0 : Nat) => rs.length - k0) (0) ⟨rfl, trivial⟩ ?_ ?_
 ·refine ⟨Nat.zero_le _, rfl, ?_⟩
  exact M
 rintro k0 jj0 w1 ⟨hk0, ha, M⟩
 refine wc_seq ?_
 refine wc_region ?_
 refine wl_m M (q_lss rfl rfl) rfl rfl ?_
 refine wl_nil ?_
 refine wc_seq ?_
 refine wc_dec rfl (fun ht8 => ?_) (fun ht8 => ?_)
 ·obtain ⟨x0, hx0⟩ : ∃ x_, rs[k0]? = some x_ := ⟨_, List.getElem?_eq_getElem (by omega)⟩
  have hll0 := (R0).len_le
  have hll0 := R0.len_le
  obtain ⟨t0, ht0⟩ : ∃ t, ts[k0]? = some t := ⟨_, List.getElem?_eq_getElem (by omega)⟩
  obtain ⟨fu0, au0, he0, Rf0, Ra0⟩ := hts k0 x0 t0 hx0 ht0
  obtain rfl := RTra.eq he0
  refine wc_skip ?_
  refine wc_seq ?_
  refine wc_block ?_
  refine wc_seq ?_
  refine wc_region ?_
  refine wl_ix (j := k0) M R0 Tryd.underlying66 rfl rfl hx0 rfl (fun b9 o9 p9 => ?_)
  refine wl_m M (q_ldp p9 rfl rfl) rfl rfl ?_
  refine wl_e (e_alloc M z29) rfl rfl ?_
  rintro _ w2 ⟨b4, rfl, M⟩
  refine wl_e0 (e_stW 0 M rfl rfl rfl sz29 rfl rfl) rfl ?_
  intro _ w3 M
  simp only [sC0, sCS] at M
  refine wl_nil ?_
  refine wc_seq ?_
  refine wc_join (α := Unit) [11, 12, 13, 14, 15, 16, 17, 18, 19, 20, 21, 22, 23, 24] (fun _ => [(24, .bool (((decide (20 < (t0.arcs.length : Int))) || (decide (10 < t0.states))) || (!(validT t0))))]) (fun _ w' => Mem w I I (box b4 29 [.int .i64 t0.states, .int .i64 t0.start, sv fu0, sv au0] :: []) w') ?_ ?_
  ·refine wc_region ?_
   refine wl_m M (q_fa fo_29_3 rfl) rfl rfl ?_
   refine wl_m M (q_ldb 0 Tryd.underlying27 rfl rfl rfl rfl) rfl rfl ?_
   refine wl_m M (q_lenR Ra0 Tryd.underlying27 rfl) rfl rfl ?_
   refine wl_m M (q_gtr rfl rfl) rfl rfl ?_
   refine wl_mv M rfl rfl ?_
   rcases Bool.eq_false_or_eq_true (decide (20 < (t0.arcs.length : Int))) with hg15 | hg15
   ·refine wl_m M (q_off 4 rfl rfl rfl hg15) rfl rfl ?_
    refine wl_m M (q_off 4 rfl rfl rfl hg15) rfl rfl ?_
    refine wl_m M (q_off 4 rfl rfl rfl hg15) rfl rfl ?_
    refine wl_m M (q_pickT rfl hg15 rfl) rfl rfl ?_
    refine wl_mv M rfl rfl ?_
    refine wl_m M (q_off 9 rfl rfl rfl rfl) rfl rfl ?_
    refine wl_m M (q_off 9 rfl rfl rfl rfl) rfl rfl ?_
    refine wl_m M (q_off 9 rfl rfl rfl rfl) rfl rfl ?_
    refine wl_m M (q_pickT rfl rfl rfl) rfl rfl ?_
    refine wl_nil ?_
    exact ⟨(), M, ⟨(show some (Value.bool true) = some (Value.bool (((decide (20 < (t0.arcs.length : Int))) || (decide (10 < t0.states))) || (!(validT t0)))) from by first | (simp only [hg15, Bool.true_or, Bool.false_or, Bool.true_and, Bool.false_and, Bool.or_true, Bool.or_false, Bool.and_true, Bool.and_false]; done) | simp_all), trivial⟩, unw_take 14 rfl rfl⟩
   refine wl_m M (q_guard 4 rfl rfl rfl hg15 (q_fa fo_29_0 rfl)) rfl rfl ?_
   refine wl_m M (q_guard 4 rfl rfl rfl hg15 (q_ldb 0 Tryd.underlying3 rfl rfl rfl rfl)) rfl rfl ?_
   refine wl_m M (q_guard 4 rfl rfl rfl hg15 (q_gtr rfl rfl)) rfl rfl ?_
   refine wl_m M (q_pickF rfl hg15 rfl) rfl rfl ?_
   refine wl_mv M rfl rfl ?_
   rcases Bool.eq_false_or_eq_true (decide (10 < t0.states)) with hg20 | hg20
   ·refine wl_m M (q_off 9 rfl rfl rfl hg20) rfl rfl ?_
    refine wl_m M (q_off 9 rfl rfl rfl hg20) rfl rfl ?_
    refine wl_m M (q_off 9 rfl rfl rfl hg20) rfl rfl ?_
    refine wl_m M (q_pickT rfl hg20 rfl) rfl rfl ?_
    refine wl_nil ?_
    exact ⟨(), M, ⟨(show some (Value.bool true) = some (Value.bool (((decide (20 < (t0.arcs.length : Int))) || (decide (10 < t0.states))) || (!(validT t0)))) from by first | (simp only [hg15, hg20, Bool.true_or, Bool.false_or, Bool.true_and, Bool.false_and, Bool.or_true, Bool.or_false, Bool.and_true, Bool.and_false]; done) | simp_all), trivial⟩, unw_take 14 rfl rfl⟩
   refine wl_m M (q_guard 9 rfl rfl rfl hg20 (q_ldbA 0 Tryd.underlying29 rfl sz29 rfl rfl rfl rfl)) rfl rfl ?_
   refine wl_e (e_guard 9 rfl rfl rfl hg20 (e_callC M (valid_c t0 M.imm ⟨_, _, rfl, Rf0, Ra0⟩) Tryd.func39 rfl rfl)) rfl rfl ?_
   rintro _ w4 ⟨J22, hJ22, rfl, M⟩
   replace M := M.less hJ22 (fun _ _ => rfl)
   refine wl_m M (q_guard 9 rfl rfl rfl hg20 (q_not rfl)) rfl rfl ?_
   refine wl_m M (q_pickF rfl hg20 rfl) rfl rfl ?_
   refine wl_nil ?_
   exact ⟨(), M, ⟨(show some (Value.bool (!(validT t0))) = some (Value.bool (((decide (20 < (t0.arcs.length : Int))) || (decide (10 < t0.states))) || (!(validT t0)))) from by first | (simp only [hg15, hg20, Bool.true_or, Bool.false_or, Bool.true_and, Bool.false_and, Bool.or_true, Bool.or_false, Bool.and_true, Bool.and_false]; done) | simp_all), trivial⟩, unw_take 14 rfl rfl⟩
  rintro _ jr4 w5 M
  refine wc_cond rfl (fun ht24 => ?_) (fun ht24 => ?_)
  ·refine wc_seq ?_
   refine wc_region ?_
   refine wl_as M rfl rfl ?_
   refine wl_nil ?_
   refine wc_ret ?_
   exact out1 rfl rfl ⟨_, _, rfl, M.grow, by rw [all_false_at ht0 (by rw [smallB_or, ht24]; rfl)]⟩
  refine wc_skip ?_
  refine wc_region ?_
  refine wl_m M (q_add rfl rfl (IntWalk.i64_in _ (by omega))) rfl rfl ?_
  refine wl_mv M rfl rfl ?_
  refine wl_nil ?_
  replace M := M.drop 0
  refine ⟨(k0 + 1), ?_, ⟨(by omega), (all_take_succ ht0 ha (by rw [smallB_or, ht24]; rfl)), M⟩, ⟨rfl, trivial⟩, unw_look rfl (unw_hav rfl (unw_look rfl unw_base))⟩
  show rs.length - (k0 + 1) < rs.length - k0
  omega
 have hke0 : k0 = rs.length := by omega
 rw [hke0, hl, List.take_length] at ha
 refine wc_exit rfl ?_
 refine wc_seq ?_
 refine wc_region ?_
 refine wl_as M rfl rfl ?_
 refine wl_nil ?_
 refine wc_ret ?_
 exact out1 rfl rfl ⟨_, _, rfl, M.grow, by rw [ha]⟩
theorem sameO_c (a b : Tra) {v1 v2 : Value} {I : Heap} {w : World} (hI : hle I (hp w)) (R1 : a.rd I v1) (R2 : b.rd I v2) : Calls A 40 #[v1, v2] w (Ret w I fun v _ => v = .bool (decide (a = b))) := by
 obtain ⟨fu1, au1, rfl, Rf1, Ra1⟩ := R1
 obtain ⟨fu2, au2, rfl, Rf2, Ra2⟩ := R2
 have M := Mem.start hI
 refine enter Tryd.func40 rfl 73 Tryd.ntmps40 [_, _] rfl ?_
 refine wc_seq ?_
 refine wc_region ?_
 refine wl_e (e_box M rfl) rfl rfl ?_
 rintro _ w1 ⟨b2, rfl, M⟩
 refine wl_e (e_box M rfl) rfl rfl ?_
 rintro _ w2 ⟨b3, rfl, M⟩
 refine wl_as M rfl rfl ?_
 refine wl_nil ?_
 refine wc_seq ?_
 refine wc_seq ?_
 refine wc_join (α := Unit) [7, 8, 9, 10, 11, 12, 13, 14, 15, 16, 17, 18, 19, 20, 21, 22, 23, 24, 25, 26, 27, 28, 29, 30, 31, 32, 33, 34, 35, 36] (fun _ => [(36, .bool ((((!decide (a.states = b.states)) || (!decide (a.start = b.start))) || (!decide ((a.finals.length : Int) = (b.finals.length : Int)))) || (!decide ((a.arcs.length : Int) = (b.arcs.length : Int)))))]) (fun _ w' => Mem w I I (box b3 29 [.int .i64 b.states, .int .i64 b.start, sv fu2, sv au2] :: box b2 29 [.int .i64 a.states, .int .i64 a.start, sv fu1, sv au1] :: []) w') ?_ ?_
 ·refine wc_region ?_
  refine wl_m M (q_fa fo_29_0 rfl) rfl rfl ?_
  refine wl_m M (q_ldb 1 Tryd.underlying3 rfl rfl rfl rfl) rfl rfl ?_
  refine wl_m M (q_fa fo_29_0 rfl) rfl rfl ?_
  refine wl_m M (q_ldb 0 Tryd.underlying3 rfl rfl rfl rfl) rfl rfl ?_
  refine wl_m M (q_neq rfl rfl) rfl rfl ?_
  refine wl_mv M rfl rfl ?_
  rcases Bool.eq_false_or_eq_true (!decide (a.states = b.states)) with hg12 | hg12
  ·refine wl_m M (q_off 5 rfl rfl rfl hg12) rfl rfl ?_
   refine wl_m M (q_off 5 rfl rfl rfl hg12) rfl rfl ?_
   refine wl_m M (q_off 5 rfl rfl rfl hg12) rfl rfl ?_
   refine wl_m M (q_off 5 rfl rfl rfl hg12) rfl rfl ?_
   refine wl_m M (q_off 5 rfl rfl rfl hg12) rfl rfl ?_
   refine wl_m M (q_pickT rfl hg12 rfl) rfl rfl ?_
   refine wl_mv M rfl rfl ?_
   refine wl_m M (q_off 12 rfl rfl rfl rfl) rfl rfl ?_
   refine wl_m M (q_off 12 rfl rfl rfl rfl) rfl rfl ?_
   refine wl_m M (q_off 12 rfl rfl rfl rfl) rfl rfl ?_
   refine wl_m M (q_off 12 rfl rfl rfl rfl) rfl rfl ?_
   refine wl_m M (q_off 12 rfl rfl rfl rfl) rfl rfl ?_
   refine wl_m M (q_off 12 rfl rfl rfl rfl) rfl rfl ?_
   refine wl_m M (q_off 12 rfl rfl rfl rfl) rfl rfl ?_
   refine wl_m M (q_pickT rfl rfl rfl) rfl rfl ?_
   refine wl_mv M rfl rfl ?_
   refine wl_m M (q_off 21 rfl rfl rfl rfl) rfl rfl ?_
   refine wl_m M (q_off 21 rfl rfl rfl rfl) rfl rfl ?_
   refine wl_m M (q_off 21 rfl rfl rfl rfl) rfl rfl ?_
   refine wl_m M (q_off 21 rfl rfl rfl rfl) rfl rfl ?_
   refine wl_m M (q_off 21 rfl rfl rfl rfl) rfl rfl ?_
   refine wl_m M (q_off 21 rfl rfl rfl rfl) rfl rfl ?_
   refine wl_m M (q_off 21 rfl rfl rfl rfl) rfl rfl ?_
   refine wl_m M (q_pickT rfl rfl rfl) rfl rfl ?_
   refine wl_nil ?_
   exact ⟨(), M, ⟨(show some (Value.bool true) = some (Value.bool ((((!decide (a.states = b.states)) || (!decide (a.start = b.start))) || (!decide ((a.finals.length : Int) = (b.finals.length : Int)))) || (!decide ((a.arcs.length : Int) = (b.arcs.length : Int))))) from by first | (simp only [hg12, Bool.true_or, Bool.false_or, Bool.true_and, Bool.false_and, Bool.or_true, Bool.or_false, Bool.and_true, Bool.and_false]; done) | simp_all), trivial⟩, unw_take 30 rfl rfl⟩
  refine wl_m M (q_guard 5 rfl rfl rfl hg12 (q_fa fo_29_1 rfl)) rfl rfl ?_
  refine wl_m M (q_guard 5 rfl rfl rfl hg12 (q_ldb 1 Tryd.underlying3 rfl rfl rfl rfl)) rfl rfl ?_
  refine wl_m M (q_guard 5 rfl rfl rfl hg12 (q_fa fo_29_1 rfl)) rfl rfl ?_
  refine wl_m M (q_guard 5 rfl rfl rfl hg12 (q_ldb 0 Tryd.underlying3 rfl rfl rfl rfl)) rfl rfl ?_
  refine wl_m M (q_guard 5 rfl rfl rfl hg12 (q_neq rfl rfl)) rfl rfl ?_
  refine wl_m M (q_pickF rfl hg12 rfl) rfl rfl ?_
  refine wl_mv M rfl rfl ?_
  rcases Bool.eq_false_or_eq_true (!decide (a.start = b.start)) with hg19 | hg19
  ·refine wl_m M (q_off 12 rfl rfl rfl hg19) rfl rfl ?_
   refine wl_m M (q_off 12 rfl rfl rfl hg19) rfl rfl ?_
   refine wl_m M (q_off 12 rfl rfl rfl hg19) rfl rfl ?_
   refine wl_m M (q_off 12 rfl rfl rfl hg19) rfl rfl ?_
   refine wl_m M (q_off 12 rfl rfl rfl hg19) rfl rfl ?_
   refine wl_m M (q_off 12 rfl rfl rfl hg19) rfl rfl ?_
   refine wl_m M (q_off 12 rfl rfl rfl hg19) rfl rfl ?_
   refine wl_m M (q_pickT rfl hg19 rfl) rfl rfl ?_
   refine wl_mv M rfl rfl ?_
   refine wl_m M (q_off 21 rfl rfl rfl rfl) rfl rfl ?_
   refine wl_m M (q_off 21 rfl rfl rfl rfl) rfl rfl ?_
   refine wl_m M (q_off 21 rfl rfl rfl rfl) rfl rfl ?_
   refine wl_m M (q_off 21 rfl rfl rfl rfl) rfl rfl ?_
   refine wl_m M (q_off 21 rfl rfl rfl rfl) rfl rfl ?_
   refine wl_m M (q_off 21 rfl rfl rfl rfl) rfl rfl ?_
   refine wl_m M (q_off 21 rfl rfl rfl rfl) rfl rfl ?_
   refine wl_m M (q_pickT rfl rfl rfl) rfl rfl ?_
   refine wl_nil ?_
   exact ⟨(), M, ⟨(show some (Value.bool true) = some (Value.bool ((((!decide (a.states = b.states)) || (!decide (a.start = b.start))) || (!decide ((a.finals.length : Int) = (b.finals.length : Int)))) || (!decide ((a.arcs.length : Int) = (b.arcs.length : Int))))) from by first | (simp only [hg12, hg19, Bool.true_or, Bool.false_or, Bool.true_and, Bool.false_and, Bool.or_true, Bool.or_false, Bool.and_true, Bool.and_false]; done) | simp_all), trivial⟩, unw_take 30 rfl rfl⟩
  refine wl_m M (q_guard 12 rfl rfl rfl hg19 (q_fa fo_29_2 rfl)) rfl rfl ?_
  refine wl_m M (q_guard 12 rfl rfl rfl hg19 (q_ldb 1 Tryd.underlying26 rfl rfl rfl rfl)) rfl rfl ?_
  refine wl_m M (q_guard 12 rfl rfl rfl hg19 (q_lenR Rf1 Tryd.underlying26 rfl)) rfl rfl ?_
  refine wl_m M (q_guard 12 rfl rfl rfl hg19 (q_fa fo_29_2 rfl)) rfl rfl ?_
  refine wl_m M (q_guard 12 rfl rfl rfl hg19 (q_ldb 0 Tryd.underlying26 rfl rfl rfl rfl)) rfl rfl ?_
  refine wl_m M (q_guard 12 rfl rfl rfl hg19 (q_lenR Rf2 Tryd.underlying26 rfl)) rfl rfl ?_
  refine wl_m M (q_guard 12 rfl rfl rfl hg19 (q_neq rfl rfl)) rfl rfl ?_
  refine wl_m M (q_pickF rfl hg19 rfl) rfl rfl ?_
  refine wl_mv M rfl rfl ?_
  rcases Bool.eq_false_or_eq_true (!decide ((a.finals.length : Int) = (b.finals.length : Int))) with hg28 | hg28
  ·refine wl_m M (q_off 21 rfl rfl rfl hg28) rfl rfl ?_
   refine wl_m M (q_off 21 rfl rfl rfl hg28) rfl rfl ?_
   refine wl_m M (q_off 21 rfl rfl rfl hg28) rfl rfl ?_
   refine wl_m M (q_off 21 rfl rfl rfl hg28) rfl rfl ?_
   refine wl_m M (q_off 21 rfl rfl rfl hg28) rfl rfl ?_
   refine wl_m M (q_off 21 rfl rfl rfl hg28) rfl rfl ?_
   refine wl_m M (q_off 21 rfl rfl rfl hg28) rfl rfl ?_
   refine wl_m M (q_pickT rfl hg28 rfl) rfl rfl ?_
   refine wl_nil ?_
   exact ⟨(), M, ⟨(show some (Value.bool true) = some (Value.bool ((((!decide (a.states = b.states)) || (!decide (a.start = b.start))) || (!decide ((a.finals.length : Int) = (b.finals.length : Int)))) || (!decide ((a.arcs.length : Int) = (b.arcs.length : Int))))) from by first | (simp only [hg12, hg19, hg28, Bool.true_or, Bool.false_or, Bool.true_and, Bool.false_and, Bool.or_true, Bool.or_false, Bool.and_true, Bool.and_false]; done) | simp_all), trivial⟩, unw_take 30 rfl rfl⟩
  refine wl_m M (q_guard 21 rfl rfl rfl hg28 (q_fa fo_29_3 rfl)) rfl rfl ?_
  refine wl_m M (q_guard 21 rfl rfl rfl hg28 (q_ldb 1 Tryd.underlying27 rfl rfl rfl rfl)) rfl rfl ?_
  refine wl_m M (q_guard 21 rfl rfl rfl hg28 (q_lenR Ra1 Tryd.underlying27 rfl)) rfl rfl ?_
  refine wl_m M (q_guard 21 rfl rfl rfl hg28 (q_fa fo_29_3 rfl)) rfl rfl ?_
  refine wl_m M (q_guard 21 rfl rfl rfl hg28 (q_ldb 0 Tryd.underlying27 rfl rfl rfl rfl)) rfl rfl ?_
  refine wl_m M (q_guard 21 rfl rfl rfl hg28 (q_lenR Ra2 Tryd.underlying27 rfl)) rfl rfl ?_
  refine wl_m M (q_guard 21 rfl rfl rfl hg28 (q_neq rfl rfl)) rfl rfl ?_
  refine wl_m M (q_pickF rfl hg28 rfl) rfl rfl ?_
  refine wl_nil ?_
  exact ⟨(), M, ⟨(show some (Value.bool (!decide ((a.arcs.length : Int) = (b.arcs.length : Int)))) = some (Value.bool ((((!decide (a.states = b.states)) || (!decide (a.start = b.start))) || (!decide ((a.finals.length : Int) = (b.finals.length : Int)))) || (!decide ((a.arcs.length : Int) = (b.arcs.length : Int))))) from by first | (simp only [hg12, hg19, hg28, Bool.true_or, Bool.false_or, Bool.true_and, Bool.false_and, Bool.or_true, Bool.or_false, Bool.and_true, Bool.and_false]; done) | simp_all), trivial⟩, unw_take 30 rfl rfl⟩
 rintro _ jr1 w3 M
 refine wc_cond rfl (fun ht36 => ?_) (fun ht36 => ?_)
 ·refine wc_seq ?_
  refine wc_region ?_
  refine wl_as M rfl rfl ?_
  refine wl_nil ?_
  refine wc_ret ?_
  exact out1 rfl rfl ⟨_, _, rfl, M.grow, by rw [decide_eq_false (fun e => by subst e; simp at ht36)]⟩
 obtain ⟨⟨⟨h1, h2⟩, h3⟩, h4⟩ : ((a.states = b.states ∧ a.start = b.start) ∧ (a.finals.length : Int) = b.finals.length) ∧ (a.arcs.length : Int) = b.arcs.length := by simpa using ht36
 refine wc_skip ?_
 refine wc_seq ?_
 refine wc_seq ?_
 refine wc_region ?_
 refine wl_as M rfl rfl ?_
 refine wl_nil ?_
 refine wc_block ?_
 refine wc_loop (α := Nat) [4, 5, 37, 38, 39, 40, 41, 42, 43, 44, 45, 46, 47, 48, 49, 50, 51, 52, 53, 54] (fun (k0 : Nat) => [(5, .int .i64 (k0 : Int))])
   (fun (k0 : Nat) w' => (k0 ≤ a.finals.length) ∧ (a.finals.take k0 = b.finals.take k0) ∧ Mem w I I (box b3 29 [.int .i64 b.states, .int .i64 b.start, sv fu2, sv au2] :: box b2 29 [.int .i64 a.states, .int .i64 a.start, sv fu1, sv au1] :: []) w')
   (fun (k0 : Nat) => a.finals.length - k0) (0) ⟨rfl, trivial⟩ ?_ ?_
 ·refine ⟨Nat.zero_le _, rfl, ?_⟩
  exact M
 rintro k0 jj0 w4 ⟨hk0, hf, M⟩
 refine wc_seq ?_
 refine wc_seq ?_
 refine wc_region ?_
 refine wl_mv M rfl rfl ?_
 refine wl_m M (q_fa fo_29_2 rfl) rfl rfl ?_
 refine wl_m M (q_ldb 1 Tryd.underlying26 rfl rfl rfl rfl) rfl rfl ?_
 refine wl_m M (q_lenR Rf1 Tryd.underlying26 rfl) rfl rfl ?_
 refine wl_m M (q_lss rfl rfl) rfl rfl ?_
 refine wl_nil ?_
 refine wc_dec rfl (fun ht41 => ?_) (fun ht41 => ?_)
 ·obtain ⟨x0, hx0⟩ : ∃ x_, a.finals[k0]? = some x_ := ⟨_, List.getElem?_eq_getElem (by omega)⟩
  have hll0 := Rf1.len_le
  obtain ⟨y0, hy0⟩ : ∃ y, b.finals[k0]? = some y := ⟨_, List.getElem?_eq_getElem (by omega)⟩
  refine wc_skip ?_
  refine wc_seq ?_
  refine wc_block ?_
  refine wc_seq ?_
  refine wc_draws (fun w' => Mem w I I (box b3 29 [.int .i64 b.states, .int .i64 b.start, sv fu2, sv au2] :: box b2 29 [.int .i64 a.states, .int .i64 a.start, sv fu1, sv au1] :: []) w' ∧ True) [] fol ?_
  replace M := M.drew
  have hS := (⟨M, trivial⟩ : _ ∧ _)
  refine wa_q 0 rfl (by kernel_rfl) (q_fa fo_29_2 rfl) hS rfl rfl ?_
  refine wa_q 1 rfl (by kernel_rfl) ((q_ldb 1 Tryd.underlying26 rfl rfl rfl rfl).mono fun _ h => h.1) hS rfl rfl ?_
  refine wa_q 2 rfl (by kernel_rfl) (q_move rfl) hS rfl rfl ?_
  refine wa_ixS (j := k0) 3 hS (fun _ h => Rf1.mono h.1.imm) rfl (by kernel_rfl) Tryd.underlying26 rfl (ixe (by omega)) hx0 rfl (fun b47 o47 p47 => ?_)
  refine wa_q 4 rfl (by kernel_rfl) (q_ldp p47 rfl rfl) hS rfl rfl ?_
  refine wa_q 5 rfl (by kernel_rfl) (q_fa fo_29_2 rfl) hS rfl rfl ?_
  refine wa_q 6 rfl (by kernel_rfl) ((q_ldb 0 Tryd.underlying26 rfl rfl rfl rfl).mono fun _ h => h.1) hS rfl rfl ?_
  refine wa_q 7 rfl (by kernel_rfl) (q_move rfl) hS rfl rfl ?_
  refine wa_ixS (j := k0) 8 hS (fun _ h => Rf2.mono h.1.imm) rfl (by kernel_rfl) Tryd.underlying26 rfl (ixe (by omega)) hy0 rfl (fun b52 o52 p52 => ?_)
  refine wa_q 9 rfl (by kernel_rfl) (q_ldp p52 rfl rfl) hS rfl rfl ?_
  refine wa_q 10 rfl (by kernel_rfl) (q_neq rfl rfl) hS rfl rfl ?_
  refine wa_done (by kernel_rfl) ?_
  refine wc_cond rfl (fun ht54 => ?_) (fun ht54 => ?_)
  ·refine wc_seq ?_
   refine wc_region ?_
   refine wl_as M rfl rfl ?_
   refine wl_nil ?_
   refine wc_ret ?_
   exact out1 rfl rfl ⟨_, _, rfl, M.grow, by rw [decide_eq_false (fun e => nd_t ht54 (by subst e; rw [hx0] at hy0; exact Option.some.inj hy0))]⟩
  refine wc_skip ?_
  refine wc_region ?_
  refine wl_mv M rfl rfl ?_
  refine wl_m M (q_add rfl rfl (IntWalk.i64_in _ (by omega))) rfl rfl ?_
  refine wl_as M rfl rfl ?_
  refine wl_nil ?_
  refine ⟨(k0 + 1), ?_, ⟨(by omega), (by rw [take_snoc hx0, take_snoc hy0, hf, nd_f ht54]), M⟩, ⟨rfl, trivial⟩, unw_look rfl unw_base⟩
  show a.finals.length - (k0 + 1) < a.finals.length - k0
  omega
 have hke0 : k0 = a.finals.length := by omega
 rw [hke0, List.take_length, show a.finals.length = b.finals.length by omega, List.take_length] at hf
 refine wc_exit rfl ?_
 refine wc_seq ?_
 refine wc_seq ?_
 refine wc_region ?_
 refine wl_as M rfl rfl ?_
 refine wl_nil ?_
 refine wc_block ?_
 refine wc_loop (α := Nat) [4, 6, 55, 56, 57, 58, 59, 60, 61, 62, 63, 64, 65, 66, 67, 68, 69, 70, 71, 72] (fun (k2 : Nat) => [(6, .int .i64 (k2 : Int))])
   (fun (k2 : Nat) w' => (k2 ≤ a.arcs.length) ∧ (a.arcs.take k2 = b.arcs.take k2) ∧ Mem w I I (box b3 29 [.int .i64 b.states, .int .i64 b.start, sv fu2, sv au2] :: box b2 29 [.int .i64 a.states, .int .i64 a.start, sv fu1, sv au1] :: []) w')
   (fun (k2 : Nat) => a.arcs.length - k2) (0) ⟨rfl, trivial⟩ ?_ ?_
 ·refine ⟨Nat.zero_le _, rfl, ?_⟩
  exact M
 rintro k2 jj2 w5 ⟨hk2, he, M⟩
 refine wc_seq ?_
 refine wc_seq ?_
 refine wc_region ?_
 refine wl_mv M rfl rfl ?_
 refine wl_m M (q_fa fo_29_3 rfl) rfl rfl ?_
 refine wl_m M (q_ldb 1 Tryd.underlying27 rfl rfl rfl rfl) rfl rfl ?_
 refine wl_m M (q_lenR Ra1 Tryd.underlying27 rfl) rfl rfl ?_
 refine wl_m M (q_lss rfl rfl) rfl rfl ?_
 refine wl_nil ?_
 refine wc_dec rfl (fun ht59 => ?_) (fun ht59 => ?_)
 ·obtain ⟨x2, hx2⟩ : ∃ x_, a.arcs[k2]? = some x_ := ⟨_, List.getElem?_eq_getElem (by omega)⟩
  have hll2 := Ra1.len_le
  obtain ⟨y2, hy2⟩ : ∃ y, b.arcs[k2]? = some y := ⟨_, List.getElem?_eq_getElem (by omega)⟩
  refine wc_skip ?_
  refine wc_seq ?_
  refine wc_block ?_
  refine wc_seq ?_
  refine wc_draws (fun w' => Mem w I I (box b3 29 [.int .i64 b.states, .int .i64 b.start, sv fu2, sv au2] :: box b2 29 [.int .i64 a.states, .int .i64 a.start, sv fu1, sv au1] :: []) w' ∧ True) [] fol ?_
  replace M := M.drew
  have hS := (⟨M, trivial⟩ : _ ∧ _)
  refine wa_q 0 rfl (by kernel_rfl) (q_fa fo_29_3 rfl) hS rfl rfl ?_
  refine wa_q 1 rfl (by kernel_rfl) ((q_ldb 1 Tryd.underlying27 rfl rfl rfl rfl).mono fun _ h => h.1) hS rfl rfl ?_
  refine wa_q 2 rfl (by kernel_rfl) (q_move rfl) hS rfl rfl ?_
  refine wa_ixS (j := k2) 3 hS (fun _ h => Ra1.mono h.1.imm) rfl (by kernel_rfl) Tryd.underlying27 rfl (ixe (by omega)) hx2 rfl (fun b65 o65 p65 => ?_)
  refine wa_q 4 rfl (by kernel_rfl) (q_ldp p65 rfl rfl) hS rfl rfl ?_
  refine wa_q 5 rfl (by kernel_rfl) (q_fa fo_29_3 rfl) hS rfl rfl ?_
  refine wa_q 6 rfl (by kernel_rfl) ((q_ldb 0 Tryd.underlying27 rfl rfl rfl rfl).mono fun _ h => h.1) hS rfl rfl ?_
  refine wa_q 7 rfl (by kernel_rfl) (q_move rfl) hS rfl rfl ?_
  refine wa_ixS (j := k2) 8 hS (fun _ h => Ra2.mono h.1.imm) rfl (by kernel_rfl) Tryd.underlying27 rfl (ixe (by omega)) hy2 rfl (fun b70 o70 p70 => ?_)
  refine wa_q 9 rfl (by kernel_rfl) (q_ldp p70 rfl rfl) hS rfl rfl ?_
  refine wa_q 10 rfl (by kernel_rfl) (q_neqK QArcE x2 y2 rfl rfl rfl) hS rfl rfl ?_
  refine wa_done (by kernel_rfl) ?_
  refine wc_cond rfl (fun ht72 => ?_) (fun ht72 => ?_)
  ·refine wc_seq ?_
   refine wc_region ?_
   refine wl_as M rfl rfl ?_
   refine wl_nil ?_
   refine wc_ret ?_
   exact out1 rfl rfl ⟨_, _, rfl, M.grow, by rw [decide_eq_false (fun e => nd_t ht72 (by subst e; rw [hx2] at hy2; exact Option.some.inj hy2))]⟩
  refine wc_skip ?_
  refine wc_region ?_
  refine wl_mv M rfl rfl ?_
  refine wl_m M (q_add rfl rfl (IntWalk.i64_in _ (by omega))) rfl rfl ?_
  refine wl_as M rfl rfl ?_
  refine wl_nil ?_
  refine ⟨(k2 + 1), ?_, ⟨(by omega), (by rw [take_snoc hx2, take_snoc hy2, he, nd_f ht72]), M⟩, ⟨rfl, trivial⟩, unw_look rfl unw_base⟩
  show a.arcs.length - (k2 + 1) < a.arcs.length - k2
  omega
 have hke2 : k2 = a.arcs.length := by omega
 rw [hke2, List.take_length, show a.arcs.length = b.arcs.length by omega, List.take_length] at he
 refine wc_exit rfl ?_
 refine wc_seq ?_
 refine wc_region ?_
 refine wl_as M rfl rfl ?_
 refine wl_nil ?_
 refine wc_ret ?_
 exact out1 rfl rfl ⟨_, _, rfl, M.grow, by rw [decide_eq_true (by cases a; cases b; simp_all)]⟩
end Go.Proofs.YtoilmeiikgegcaaDoor.G
