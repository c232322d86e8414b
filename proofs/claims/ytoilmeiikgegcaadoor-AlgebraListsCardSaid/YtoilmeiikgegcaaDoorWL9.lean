/- Walks of the program's functions. -/
import Derived.Test.YtoilmeiikgegcaaDoorWLb
import Derived.Test.YtoilmeiikgegcaaDoorGLst
set_option linter.all false
namespace Go.Proofs.YtoilmeiikgegcaaDoor.G
open Go Go.RowKit
theorem lawLists_c (ps : List SPair) (ws : List ByteArray) (x y : ByteArray) {u0 u1 : SV} {I : Heap} {w : World} (hI : hle I (hp w)) (hT : Tabs I) (R0 : rdSl ESPair I (sv u0) ps) (R3 : rdSl EStr I (sv u1) ws) : Calls A 4 #[sv u0, sv u1, .string x, .string y] w (Ret w I fun r _ => r = .bool true) := by
 have hll0 := R0.len_le
 have hll3 := R3.len_le
 have M := Mem.start hI
 refine enter Tryd.func4 rfl 140 Tryd.ntmps4 [_, _, _, _] rfl ?_
 refine wc_seq ?_
 refine wc_region ?_
 refine wl_as M rfl rfl ?_
 refine wl_nil ?_
 refine wc_seq ?_
 refine wc_seq ?_
 refine wc_region ?_
 refine wl_e (e_callC M (awake4_c M.imm hT) Tryd.func14 rfl rfl) rfl rfl ?_
 rintro _ w1 ⟨J23, hJ23, rfl, M⟩
 replace M := M.less hJ23 (fun _ _ => rfl)
 refine wl_m M (q_not rfl) rfl rfl ?_
 refine wl_nil ?_
 refine wc_cond rfl (fun ht24 => ?_) (fun ht24 => ?_)
 ·refine wc_seq ?_
  refine wc_region ?_
  refine wl_as M rfl rfl ?_
  refine wl_nil ?_
  refine wc_ret ?_
  exact absurd ht24 (by decide)
 refine wc_skip ?_
 refine wc_seq ?_
 refine wc_seq ?_
 refine wc_join (α := Unit) [25, 26, 27, 28, 29, 30, 31, 32, 33, 34, 35, 36, 37, 38, 39, 40, 41, 42] (fun _ => [(42, .bool ((((decide (20 < (ps.length : Int))) || (decide (20 < (ws.length : Int)))) || (decide (40 < (x.size : Int)))) || (decide (40 < (y.size : Int)))))]) (fun _ w' => Mem w I I ([]) w') ?_ ?_
 ·refine wc_region ?_
  refine wl_mv M rfl rfl ?_
  refine wl_m M (q_lenR R0 Tryd.underlying22 rfl) rfl rfl ?_
  refine wl_m M (q_gtr rfl rfl) rfl rfl ?_
  refine wl_mv M rfl rfl ?_
  rcases Bool.eq_false_or_eq_true (decide (20 < (ps.length : Int))) with hg28 | hg28
  ·refine wl_m M (q_off 3 rfl rfl rfl hg28) rfl rfl ?_
   refine wl_m M (q_off 3 rfl rfl rfl hg28) rfl rfl ?_
   refine wl_m M (q_off 3 rfl rfl rfl hg28) rfl rfl ?_
   refine wl_m M (q_pickT rfl hg28 rfl) rfl rfl ?_
   refine wl_mv M rfl rfl ?_
   refine wl_m M (q_off 8 rfl rfl rfl rfl) rfl rfl ?_
   refine wl_m M (q_off 8 rfl rfl rfl rfl) rfl rfl ?_
   refine wl_m M (q_off 8 rfl rfl rfl rfl) rfl rfl ?_
   refine wl_m M (q_pickT rfl rfl rfl) rfl rfl ?_
   refine wl_mv M rfl rfl ?_
   refine wl_m M (q_off 13 rfl rfl rfl rfl) rfl rfl ?_
   refine wl_m M (q_off 13 rfl rfl rfl rfl) rfl rfl ?_
   refine wl_m M (q_off 13 rfl rfl rfl rfl) rfl rfl ?_
   refine wl_m M (q_pickT rfl rfl rfl) rfl rfl ?_
   refine wl_nil ?_
   exact ⟨(), M, ⟨(show some (Value.bool true) = some (Value.bool ((((decide (20 < (ps.length : Int))) || (decide (20 < (ws.length : Int)))) || (decide (40 < (x.size : Int)))) || (decide (40 < (y.size : Int))))) from by first | (simp only [hg28, Bool.true_or, Bool.false_or, Bool.true_and, Bool.false_and, Bool.or_true, Bool.or_false, Bool.and_true, Bool.and_false]; done) | simp_all), trivial⟩, unw_take 18 rfl rfl⟩
  refine wl_m M (q_guard 3 rfl rfl rfl hg28 (q_move rfl)) rfl rfl ?_
  refine wl_m M (q_guard 3 rfl rfl rfl hg28 (q_lenR R3 Tryd.underlying23 rfl)) rfl rfl ?_
  refine wl_m M (q_guard 3 rfl rfl rfl hg28 (q_gtr rfl rfl)) rfl rfl ?_
  refine wl_m M (q_pickF rfl hg28 rfl) rfl rfl ?_
  refine wl_mv M rfl rfl ?_
  rcases Bool.eq_false_or_eq_true (decide (20 < (ws.length : Int))) with hg33 | hg33
  ·refine wl_m M (q_off 8 rfl rfl rfl hg33) rfl rfl ?_
   refine wl_m M (q_off 8 rfl rfl rfl hg33) rfl rfl ?_
   refine wl_m M (q_off 8 rfl rfl rfl hg33) rfl rfl ?_
   refine wl_m M (q_pickT rfl hg33 rfl) rfl rfl ?_
   refine wl_mv M rfl rfl ?_
   refine wl_m M (q_off 13 rfl rfl rfl rfl) rfl rfl ?_
   refine wl_m M (q_off 13 rfl rfl rfl rfl) rfl rfl ?_
   refine wl_m M (q_off 13 rfl rfl rfl rfl) rfl rfl ?_
   refine wl_m M (q_pickT rfl rfl rfl) rfl rfl ?_
   refine wl_nil ?_
   exact ⟨(), M, ⟨(show some (Value.bool true) = some (Value.bool ((((decide (20 < (ps.length : Int))) || (decide (20 < (ws.length : Int)))) || (decide (40 < (x.size : Int)))) || (decide (40 < (y.size : Int))))) from by first | (simp only [hg28, hg33, Bool.true_or, Bool.false_or, Bool.true_and, Bool.false_and, Bool.or_true, Bool.or_false, Bool.and_true, Bool.and_false]; done) | simp_all), trivial⟩, unw_take 18 rfl rfl⟩
  refine wl_m M (q_guard 8 rfl rfl rfl hg33 (q_move rfl)) rfl rfl ?_
  refine wl_m M (q_guard 8 rfl rfl rfl hg33 (q_lenStr Tryd.underlying9 rfl)) rfl rfl ?_
  refine wl_m M (q_guard 8 rfl rfl rfl hg33 (q_gtr rfl rfl)) rfl rfl ?_
  refine wl_m M (q_pickF rfl hg33 rfl) rfl rfl ?_
  refine wl_mv M rfl rfl ?_
  rcases Bool.eq_false_or_eq_true (decide (40 < (x.size : Int))) with hg38 | hg38
  ·refine wl_m M (q_off 13 rfl rfl rfl hg38) rfl rfl ?_
   refine wl_m M (q_off 13 rfl rfl rfl hg38) rfl rfl ?_
   refine wl_m M (q_off 13 rfl rfl rfl hg38) rfl rfl ?_
   refine wl_m M (q_pickT rfl hg38 rfl) rfl rfl ?_
   refine wl_nil ?_
   exact ⟨(), M, ⟨(show some (Value.bool true) = some (Value.bool ((((decide (20 < (ps.length : Int))) || (decide (20 < (ws.length : Int)))) || (decide (40 < (x.size : Int)))) || (decide (40 < (y.size : Int))))) from by first | (simp only [hg28, hg33, hg38, Bool.true_or, Bool.false_or, Bool.true_and, Bool.false_and, Bool.or_true, Bool.or_false, Bool.and_true, Bool.and_false]; done) | simp_all), trivial⟩, unw_take 18 rfl rfl⟩
  refine wl_m M (q_guard 13 rfl rfl rfl hg38 (q_move rfl)) rfl rfl ?_
  refine wl_m M (q_guard 13 rfl rfl rfl hg38 (q_lenStr Tryd.underlying9 rfl)) rfl rfl ?_
  refine wl_m M (q_guard 13 rfl rfl rfl hg38 (q_gtr rfl rfl)) rfl rfl ?_
  refine wl_m M (q_pickF rfl hg38 rfl) rfl rfl ?_
  refine wl_nil ?_
  exact ⟨(), M, ⟨(show some (Value.bool (decide (40 < (y.size : Int)))) = some (Value.bool ((((decide (20 < (ps.length : Int))) || (decide (20 < (ws.length : Int)))) || (decide (40 < (x.size : Int)))) || (decide (40 < (y.size : Int))))) from by first | (simp only [hg28, hg33, hg38, Bool.true_or, Bool.false_or, Bool.true_and, Bool.false_and, Bool.or_true, Bool.or_false, Bool.and_true, Bool.and_false]; done) | simp_all), trivial⟩, unw_take 18 rfl rfl⟩
 rintro _ jr3 w2 M
 refine wc_cond rfl (fun ht42 => ?_) (fun ht42 => ?_)
 ·refine wc_seq ?_
  refine wc_region ?_
  refine wl_as M rfl rfl ?_
  refine wl_nil ?_
  refine wc_ret ?_
  exact out1 rfl rfl ⟨_, _, rfl, M.grow, rfl⟩
 have hlen : (ps.length ≤ 20 ∧ ws.length ≤ 20) ∧ x.size ≤ 40 ∧ y.size ≤ 40 := by simp at ht42; omega
 obtain ⟨hlen, hsx, hsy⟩ := hlen
 refine wc_skip ?_
 refine wc_seq ?_
 refine wc_seq ?_
 refine wc_region ?_
 refine wl_mv M rfl rfl ?_
 refine wl_m M (q_lenR R0 Tryd.underlying22 rfl) rfl rfl ?_
 refine wl_mv M rfl rfl ?_
 refine wl_nil ?_
 refine wc_block ?_
 refine wc_loop (α := Nat) [8, 10, 45, 46, 47, 48, 49, 50, 51, 52, 53, 54, 55, 56, 57, 58, 59] (fun (k0 : Nat) => [(45, .int .i64 (k0 : Int))])
   (fun (k0 : Nat) w' => (k0 ≤ ps.length) ∧ (∀ p ∈ ps.take k0, p.x.size ≤ 40 ∧ p.y.size ≤ 40) ∧ Mem w I I ([]) w')
   (fun (k0 : Nat) => ps.length - k0) (0) ⟨rfl, trivial⟩ ?_ ?_
 ·refine ⟨Nat.zero_le _, (by simp), ?_⟩
  exact M
 rintro k0 jj0 w3 ⟨hk0, hps, M⟩
 refine wc_seq ?_
 refine wc_region ?_
 refine wl_m M (q_lss rfl rfl) rfl rfl ?_
 refine wl_nil ?_
 refine wc_seq ?_
 refine wc_dec rfl (fun ht46 => ?_) (fun ht46 => ?_)
 ·obtain ⟨x0, hx0⟩ : ∃ x_, ps[k0]? = some x_ := ⟨_, List.getElem?_eq_getElem (by omega)⟩
  have hll0 := (R0).len_le
  refine wc_skip ?_
  refine wc_seq ?_
  refine wc_block ?_
  refine wc_seq ?_
  refine wc_region ?_
  refine wl_ix (j := k0) M R0 Tryd.underlying22 rfl rfl hx0 rfl (fun b47 o47 p47 => ?_)
  refine wl_m M (q_ldp p47 rfl rfl) rfl rfl ?_
  refine wl_e (e_alloc M z25) rfl rfl ?_
  rintro _ w4 ⟨b10, rfl, M⟩
  refine wl_e0 (e_stW 0 M rfl rfl rfl sz25 rfl rfl) rfl ?_
  intro _ w5 M
  simp only [sC0, sCS] at M
  refine wl_nil ?_
  refine wc_seq ?_
  refine wc_join (α := Unit) [49, 50, 51, 52, 53, 54, 55, 56, 57, 58] (fun _ => [(58, .bool ((decide (40 < (x0.x.size : Int))) || (decide (40 < (x0.y.size : Int)))))]) (fun _ w' => Mem w I I (box b10 25 [.string x0.x, .string x0.y] :: []) w') ?_ ?_
  ·refine wc_region ?_
   refine wl_m M (q_ia (i := 0) Tryd.underlying25 sz9 rfl rfl (by decide)) rfl rfl ?_
   refine wl_m M (q_ldb 0 Tryd.underlying9 rfl rfl rfl rfl) rfl rfl ?_
   refine wl_m M (q_lenStr Tryd.underlying9 rfl) rfl rfl ?_
   refine wl_m M (q_gtr rfl rfl) rfl rfl ?_
   refine wl_mv M rfl rfl ?_
   rcases Bool.eq_false_or_eq_true (decide (40 < (x0.x.size : Int))) with hg53 | hg53
   ·refine wl_m M (q_off 4 rfl rfl rfl hg53) rfl rfl ?_
    refine wl_m M (q_off 4 rfl rfl rfl hg53) rfl rfl ?_
    refine wl_m M (q_off 4 rfl rfl rfl hg53) rfl rfl ?_
    refine wl_m M (q_off 4 rfl rfl rfl hg53) rfl rfl ?_
    refine wl_m M (q_pickT rfl hg53 rfl) rfl rfl ?_
    refine wl_nil ?_
    exact ⟨(), M, ⟨(show some (Value.bool true) = some (Value.bool ((decide (40 < (x0.x.size : Int))) || (decide (40 < (x0.y.size : Int))))) from by first | (simp only [hg53, Bool.true_or, Bool.false_or, Bool.true_and, Bool.false_and, Bool.or_true, Bool.or_false, Bool.and_true, Bool.and_false]; done) | simp_all), trivial⟩, unw_take 10 rfl rfl⟩
   refine wl_m M (q_guard 4 rfl rfl rfl hg53 (q_ia (i := 1) Tryd.underlying25 sz9 rfl rfl (by decide))) rfl rfl ?_
   refine wl_m M (q_guard 4 rfl rfl rfl hg53 (q_ldb 0 Tryd.underlying9 rfl rfl rfl rfl)) rfl rfl ?_
   refine wl_m M (q_guard 4 rfl rfl rfl hg53 (q_lenStr Tryd.underlying9 rfl)) rfl rfl ?_
   refine wl_m M (q_guard 4 rfl rfl rfl hg53 (q_gtr rfl rfl)) rfl rfl ?_
   refine wl_m M (q_pickF rfl hg53 rfl) rfl rfl ?_
   refine wl_nil ?_
   exact ⟨(), M, ⟨(show some (Value.bool (decide (40 < (x0.y.size : Int)))) = some (Value.bool ((decide (40 < (x0.x.size : Int))) || (decide (40 < (x0.y.size : Int))))) from by first | (simp only [hg53, Bool.true_or, Bool.false_or, Bool.true_and, Bool.false_and, Bool.or_true, Bool.or_false, Bool.and_true, Bool.and_false]; done) | simp_all), trivial⟩, unw_take 10 rfl rfl⟩
  rintro _ jr8 w6 M
  refine wc_cond rfl (fun ht58 => ?_) (fun ht58 => ?_)
  ·refine wc_seq ?_
   refine wc_region ?_
   refine wl_as M rfl rfl ?_
   refine wl_nil ?_
   refine wc_ret ?_
   exact out1 rfl rfl ⟨_, _, rfl, M.grow, rfl⟩
  refine wc_skip ?_
  refine wc_region ?_
  refine wl_m M (q_add rfl rfl (IntWalk.i64_in _ (by omega))) rfl rfl ?_
  refine wl_mv M rfl rfl ?_
  refine wl_nil ?_
  replace M := M.drop 0
  refine ⟨(k0 + 1), ?_, ⟨(by omega), (fun p hp => by rw [take_snoc hx0] at hp; rcases List.mem_append.1 hp with h | h; exact hps p h; rw [List.mem_singleton.1 h]; simp at ht58; omega), M⟩, ⟨rfl, trivial⟩, unw_look rfl (unw_hav rfl (unw_look rfl unw_base))⟩
  show ps.length - (k0 + 1) < ps.length - k0
  omega
 have hke0 : k0 = ps.length := by omega
 rw [hke0, List.take_length] at hps
 refine wc_exit rfl ?_
 refine wc_seq ?_
 refine wc_seq ?_
 refine wc_region ?_
 refine wl_mv M rfl rfl ?_
 refine wl_m M (q_lenR R3 Tryd.underlying23 rfl) rfl rfl ?_
 refine wl_mv M rfl rfl ?_
 refine wl_nil ?_
 refine wc_block ?_
 refine wc_loop (α := Nat) [8, 12, 62, 63, 64, 65, 66, 67, 68, 69] (fun (k2 : Nat) => [(62, .int .i64 (k2 : Int))])
   (fun (k2 : Nat) w' => (k2 ≤ ws.length) ∧ (∀ s ∈ ws.take k2, s.size ≤ 40) ∧ Mem w I I ([]) w')
   (fun (k2 : Nat) => ws.length - k2) (0) ⟨rfl, trivial⟩ ?_ ?_
 ·refine ⟨Nat.zero_le _, (by simp), ?_⟩
  exact M
 rintro k2 jj2 w7 ⟨hk2, hws, M⟩
 refine wc_seq ?_
 refine wc_region ?_
 refine wl_m M (q_lss rfl rfl) rfl rfl ?_
 refine wl_nil ?_
 refine wc_seq ?_
 refine wc_dec rfl (fun ht63 => ?_) (fun ht63 => ?_)
 ·obtain ⟨x2, hx2⟩ : ∃ x_, ws[k2]? = some x_ := ⟨_, List.getElem?_eq_getElem (by omega)⟩
  have hll2 := (R3).len_le
  refine wc_skip ?_
  refine wc_seq ?_
  refine wc_block ?_
  refine wc_seq ?_
  refine wc_region ?_
  refine wl_ix (j := k2) M R3 Tryd.underlying23 rfl rfl hx2 rfl (fun b64 o64 p64 => ?_)
  refine wl_m M (q_ldp p64 rfl rfl) rfl rfl ?_
  refine wl_as M rfl rfl ?_
  refine wl_nil ?_
  refine wc_seq ?_
  refine wc_region ?_
  refine wl_mv M rfl rfl ?_
  refine wl_m M (q_lenStr Tryd.underlying9 rfl) rfl rfl ?_
  refine wl_m M (q_gtr rfl rfl) rfl rfl ?_
  refine wl_nil ?_
  refine wc_dec rfl (fun ht68 => ?_) (fun ht68 => ?_)
  ·refine wc_seq ?_
   refine wc_region ?_
   refine wl_as M rfl rfl ?_
   refine wl_nil ?_
   refine wc_ret ?_
   exact out1 rfl rfl ⟨_, _, rfl, M.grow, rfl⟩
  refine wc_skip ?_
  refine wc_region ?_
  refine wl_m M (q_add rfl rfl (IntWalk.i64_in _ (by omega))) rfl rfl ?_
  refine wl_mv M rfl rfl ?_
  refine wl_nil ?_
  refine ⟨(k2 + 1), ?_, ⟨(by omega), (fun p hp => by rw [take_snoc hx2] at hp; rcases List.mem_append.1 hp with h | h; exact hws p h; rw [List.mem_singleton.1 h]; simp at ht68; omega), M⟩, ⟨rfl, trivial⟩, unw_look rfl unw_base⟩
  show ws.length - (k2 + 1) < ws.length - k2
  omega
 have hke2 : k2 = ws.length := by omega
 rw [hke2, List.take_length] at hws
 refine wc_exit rfl ?_
 refine wc_seq ?_
 refine wc_region ?_
 refine wl_as M rfl rfl ?_
 refine wl_nil ?_
 refine wc_seq ?_
 refine wc_seq ?_
 refine wc_region ?_
 refine wl_mv M rfl rfl ?_
 refine wl_m M (q_lenR R0 Tryd.underlying22 rfl) rfl rfl ?_
 refine wl_mv M rfl rfl ?_
 refine wl_nil ?_
 refine wc_block ?_
 refine wc_loop (α := Nat × Bool) [13, 15, 72, 73, 74, 75, 76, 77, 78, 79, 80, 81, 82, 83, 84, 85, 86, 87, 88, 89] (fun ((k4, is4) : Nat × Bool) => [(13, .bool is4), (72, .int .i64 (k4 : Int))])
   (fun ((k4, is4) : Nat × Bool) w' => (k4 ≤ ps.length) ∧ (is4 = (ps.take k4).any fun p => decide (p.x = x) && decide (p.y = y)) ∧ Mem w I I ([]) w')
   (fun ((k4, is4) : Nat × Bool) => ps.length - k4) (0, false) ⟨rfl, rfl, trivial⟩ ?_ ?_
 ·refine ⟨Nat.zero_le _, rfl, ?_⟩
  exact M
 rintro ⟨k4, is4⟩ jj4 w8 ⟨hk4, his, M⟩
 refine wc_seq ?_
 refine wc_region ?_
 refine wl_m M (q_lss rfl rfl) rfl rfl ?_
 refine wl_nil ?_
 refine wc_seq ?_
 refine wc_dec rfl (fun ht73 => ?_) (fun ht73 => ?_)
 ·obtain ⟨x4, hx4⟩ : ∃ x_, ps[k4]? = some x_ := ⟨_, List.getElem?_eq_getElem (by omega)⟩
  have hll4 := (R0).len_le
  refine wc_skip ?_
  refine wc_seq ?_
  refine wc_block ?_
  refine wc_seq ?_
  refine wc_region ?_
  refine wl_ix (j := k4) M R0 Tryd.underlying22 rfl rfl hx4 rfl (fun b74 o74 p74 => ?_)
  refine wl_m M (q_ldp p74 rfl rfl) rfl rfl ?_
  refine wl_e (e_alloc M z25) rfl rfl ?_
  rintro _ w9 ⟨b15, rfl, M⟩
  refine wl_e0 (e_stW 0 M rfl rfl rfl sz25 rfl rfl) rfl ?_
  intro _ w10 M
  simp only [sC0, sCS] at M
  refine wl_nil ?_
  refine wc_join (α := Unit) [13, 76, 77, 78, 79, 80, 81, 82, 83, 84, 85, 86, 87, 88] (fun _ => [(13, .bool (is4 || ((decide (x4.x = x)) && (decide (x4.y = y)))))]) (fun _ w' => Mem w I I (box b15 25 [.string x4.x, .string x4.y] :: []) w') ?_ ?_
  ·refine wc_region ?_
   refine wl_mv M rfl rfl ?_
   refine wl_mv M rfl rfl ?_
   rcases Bool.eq_false_or_eq_true (is4) with hg77 | hg77
   ·refine wl_m M (q_off 1 rfl rfl rfl hg77) rfl rfl ?_
    refine wl_m M (q_off 1 rfl rfl rfl hg77) rfl rfl ?_
    refine wl_m M (q_off 1 rfl rfl rfl hg77) rfl rfl ?_
    refine wl_m M (q_off 1 rfl rfl rfl hg77) rfl rfl ?_
    refine wl_m M (q_off 1 rfl rfl rfl hg77) rfl rfl ?_
    refine wl_m M (q_offu 6 rfl rfl rfl) rfl rfl ?_
    refine wl_m M (q_offu 6 rfl rfl rfl) rfl rfl ?_
    refine wl_m M (q_offu 6 rfl rfl rfl) rfl rfl ?_
    refine wl_m M (q_offu 6 rfl rfl rfl) rfl rfl ?_
    refine wl_m M (q_off 1 rfl rfl rfl hg77) rfl rfl ?_
    refine wl_m M (q_pickT rfl hg77 rfl) rfl rfl ?_
    refine wl_as M rfl rfl ?_
    refine wl_nil ?_
    exact ⟨(), M, ⟨(show some (Value.bool true) = some (Value.bool (is4 || ((decide (x4.x = x)) && (decide (x4.y = y))))) from by first | (simp only [hg77, Bool.true_or, Bool.false_or, Bool.true_and, Bool.false_and, Bool.or_true, Bool.or_false, Bool.and_true, Bool.and_false]; done) | simp_all), trivial⟩, unw_take 14 rfl rfl⟩
   refine wl_m M (q_guard 1 rfl rfl rfl hg77 (q_ia (i := 0) Tryd.underlying25 sz9 rfl rfl (by decide))) rfl rfl ?_
   refine wl_m M (q_guard 1 rfl rfl rfl hg77 (q_ldb 0 Tryd.underlying9 rfl rfl rfl rfl)) rfl rfl ?_
   refine wl_m M (q_guard 1 rfl rfl rfl hg77 (q_move rfl)) rfl rfl ?_
   refine wl_m M (q_guard 1 rfl rfl rfl hg77 (q_eqlS rfl rfl)) rfl rfl ?_
   refine wl_m M (q_guard 1 rfl rfl rfl hg77 (q_move rfl)) rfl rfl ?_
   rcases Bool.eq_false_or_eq_true (decide (x4.x = x)) with hg82 | hg82
   ·refine wl_m M (q_guard 6 rfl rfl rfl hg82 (q_ia (i := 1) Tryd.underlying25 sz9 rfl rfl (by decide))) rfl rfl ?_
    refine wl_m M (q_guard 6 rfl rfl rfl hg82 (q_ldb 0 Tryd.underlying9 rfl rfl rfl rfl)) rfl rfl ?_
    refine wl_m M (q_guard 6 rfl rfl rfl hg82 (q_move rfl)) rfl rfl ?_
    refine wl_m M (q_guard 6 rfl rfl rfl hg82 (q_eqlS rfl rfl)) rfl rfl ?_
    refine wl_m M (q_guard 1 rfl rfl rfl hg77 (q_pickT rfl hg82 rfl)) rfl rfl ?_
    refine wl_m M (q_pickF rfl hg77 rfl) rfl rfl ?_
    refine wl_as M rfl rfl ?_
    refine wl_nil ?_
    exact ⟨(), M, ⟨(show some (Value.bool (decide (x4.y = y))) = some (Value.bool (is4 || ((decide (x4.x = x)) && (decide (x4.y = y))))) from by first | (simp only [hg77, hg82, Bool.true_or, Bool.false_or, Bool.true_and, Bool.false_and, Bool.or_true, Bool.or_false, Bool.and_true, Bool.and_false]; done) | simp_all), trivial⟩, unw_take 14 rfl rfl⟩
   refine wl_m M (q_off 6 rfl rfl rfl hg82) rfl rfl ?_
   refine wl_m M (q_off 6 rfl rfl rfl hg82) rfl rfl ?_
   refine wl_m M (q_off 6 rfl rfl rfl hg82) rfl rfl ?_
   refine wl_m M (q_off 6 rfl rfl rfl hg82) rfl rfl ?_
   refine wl_m M (q_guard 1 rfl rfl rfl hg77 (q_pickF rfl hg82 rfl)) rfl rfl ?_
   refine wl_m M (q_pickF rfl hg77 rfl) rfl rfl ?_
   refine wl_as M rfl rfl ?_
   refine wl_nil ?_
   exact ⟨(), M, ⟨(show some (Value.bool false) = some (Value.bool (is4 || ((decide (x4.x = x)) && (decide (x4.y = y))))) from by first | (simp only [hg77, hg82, Bool.true_or, Bool.false_or, Bool.true_and, Bool.false_and, Bool.or_true, Bool.or_false, Bool.and_true, Bool.and_false]; done) | simp_all), trivial⟩, unw_take 14 rfl rfl⟩
  rintro _ jr21 w11 M
  refine wc_region ?_
  refine wl_m M (q_add rfl rfl (IntWalk.i64_in _ (by omega))) rfl rfl ?_
  refine wl_mv M rfl rfl ?_
  refine wl_nil ?_
  replace M := M.drop 0
  refine ⟨(k4 + 1, (is4 || (decide (x4.x = x) && decide (x4.y = y)))), ?_, ⟨(by omega), (by rw [take_snoc hx4, List.any_append, ← his]; simp), M⟩, ⟨rfl, rfl, trivial⟩, unw_look rfl (unw_hav rfl (unw_look rfl unw_base))⟩
  show ps.length - (k4 + 1) < ps.length - k4
  omega
 have hke4 : k4 = ps.length := by omega
 rw [hke4, List.take_length] at his
 refine wc_exit rfl ?_
 refine wc_seq ?_
 refine wc_region ?_
 refine wl_as M rfl rfl ?_
 refine wl_nil ?_
 refine wc_seq ?_
 refine wc_seq ?_
 refine wc_region ?_
 refine wl_mv M rfl rfl ?_
 refine wl_m M (q_lenR R3 Tryd.underlying23 rfl) rfl rfl ?_
 refine wl_mv M rfl rfl ?_
 refine wl_nil ?_
 refine wc_block ?_
 refine wc_loop (α := Nat × Bool) [16, 18, 92, 93, 94, 95, 96, 97, 98, 99, 100, 101, 102, 103, 104, 105, 106, 107] (fun ((k6, in6) : Nat × Bool) => [(16, .bool in6), (92, .int .i64 (k6 : Int))])
   (fun ((k6, in6) : Nat × Bool) w' => (k6 ≤ ws.length) ∧ (in6 = (ws.take k6).any fun s => decide (s = x) && decide (x = y)) ∧ Mem w I I ([]) w')
   (fun ((k6, in6) : Nat × Bool) => ws.length - k6) (0, false) ⟨rfl, rfl, trivial⟩ ?_ ?_
 ·refine ⟨Nat.zero_le _, rfl, ?_⟩
  exact M
 rintro ⟨k6, in6⟩ jj6 w12 ⟨hk6, hin, M⟩
 refine wc_seq ?_
 refine wc_region ?_
 refine wl_m M (q_lss rfl rfl) rfl rfl ?_
 refine wl_nil ?_
 refine wc_seq ?_
 refine wc_dec rfl (fun ht93 => ?_) (fun ht93 => ?_)
 ·obtain ⟨x6, hx6⟩ : ∃ x_, ws[k6]? = some x_ := ⟨_, List.getElem?_eq_getElem (by omega)⟩
  have hll6 := (R3).len_le
  refine wc_skip ?_
  refine wc_seq ?_
  refine wc_block ?_
  refine wc_seq ?_
  refine wc_region ?_
  refine wl_ix (j := k6) M R3 Tryd.underlying23 rfl rfl hx6 rfl (fun b94 o94 p94 => ?_)
  refine wl_m M (q_ldp p94 rfl rfl) rfl rfl ?_
  refine wl_as M rfl rfl ?_
  refine wl_nil ?_
  refine wc_join (α := Unit) [16, 96, 97, 98, 99, 100, 101, 102, 103, 104, 105, 106] (fun _ => [(16, .bool (in6 || ((decide (x6 = x)) && (decide (x = y)))))]) (fun _ w' => Mem w I I ([]) w') ?_ ?_
  ·refine wc_region ?_
   refine wl_mv M rfl rfl ?_
   refine wl_mv M rfl rfl ?_
   rcases Bool.eq_false_or_eq_true (in6) with hg97 | hg97
   ·refine wl_m M (q_off 1 rfl rfl rfl hg97) rfl rfl ?_
    refine wl_m M (q_off 1 rfl rfl rfl hg97) rfl rfl ?_
    refine wl_m M (q_off 1 rfl rfl rfl hg97) rfl rfl ?_
    refine wl_m M (q_off 1 rfl rfl rfl hg97) rfl rfl ?_
    refine wl_m M (q_offu 5 rfl rfl rfl) rfl rfl ?_
    refine wl_m M (q_offu 5 rfl rfl rfl) rfl rfl ?_
    refine wl_m M (q_offu 5 rfl rfl rfl) rfl rfl ?_
    refine wl_m M (q_off 1 rfl rfl rfl hg97) rfl rfl ?_
    refine wl_m M (q_pickT rfl hg97 rfl) rfl rfl ?_
    refine wl_as M rfl rfl ?_
    refine wl_nil ?_
    exact ⟨(), M, ⟨(show some (Value.bool true) = some (Value.bool (in6 || ((decide (x6 = x)) && (decide (x = y))))) from by first | (simp only [hg97, Bool.true_or, Bool.false_or, Bool.true_and, Bool.false_and, Bool.or_true, Bool.or_false, Bool.and_true, Bool.and_false]; done) | simp_all), trivial⟩, unw_take 12 rfl rfl⟩
   refine wl_m M (q_guard 1 rfl rfl rfl hg97 (q_move rfl)) rfl rfl ?_
   refine wl_m M (q_guard 1 rfl rfl rfl hg97 (q_move rfl)) rfl rfl ?_
   refine wl_m M (q_guard 1 rfl rfl rfl hg97 (q_eqlS rfl rfl)) rfl rfl ?_
   refine wl_m M (q_guard 1 rfl rfl rfl hg97 (q_move rfl)) rfl rfl ?_
   rcases Bool.eq_false_or_eq_true (decide (x6 = x)) with hg101 | hg101
   ·refine wl_m M (q_guard 5 rfl rfl rfl hg101 (q_move rfl)) rfl rfl ?_
    refine wl_m M (q_guard 5 rfl rfl rfl hg101 (q_move rfl)) rfl rfl ?_
    refine wl_m M (q_guard 5 rfl rfl rfl hg101 (q_eqlS rfl rfl)) rfl rfl ?_
    refine wl_m M (q_guard 1 rfl rfl rfl hg97 (q_pickT rfl hg101 rfl)) rfl rfl ?_
    refine wl_m M (q_pickF rfl hg97 rfl) rfl rfl ?_
    refine wl_as M rfl rfl ?_
    refine wl_nil ?_
    exact ⟨(), M, ⟨(show some (Value.bool (decide (x = y))) = some (Value.bool (in6 || ((decide (x6 = x)) && (decide (x = y))))) from by first | (simp only [hg101, hg97, Bool.true_or, Bool.false_or, Bool.true_and, Bool.false_and, Bool.or_true, Bool.or_false, Bool.and_true, Bool.and_false]; done) | simp_all), trivial⟩, unw_take 12 rfl rfl⟩
   refine wl_m M (q_off 5 rfl rfl rfl hg101) rfl rfl ?_
   refine wl_m M (q_off 5 rfl rfl rfl hg101) rfl rfl ?_
   refine wl_m M (q_off 5 rfl rfl rfl hg101) rfl rfl ?_
   refine wl_m M (q_guard 1 rfl rfl rfl hg97 (q_pickF rfl hg101 rfl)) rfl rfl ?_
   refine wl_m M (q_pickF rfl hg97 rfl) rfl rfl ?_
   refine wl_as M rfl rfl ?_
   refine wl_nil ?_
   exact ⟨(), M, ⟨(show some (Value.bool false) = some (Value.bool (in6 || ((decide (x6 = x)) && (decide (x = y))))) from by first | (simp only [hg101, hg97, Bool.true_or, Bool.false_or, Bool.true_and, Bool.false_and, Bool.or_true, Bool.or_false, Bool.and_true, Bool.and_false]; done) | simp_all), trivial⟩, unw_take 12 rfl rfl⟩
  rintro _ jr27 w13 M
  refine wc_region ?_
  refine wl_m M (q_add rfl rfl (IntWalk.i64_in _ (by omega))) rfl rfl ?_
  refine wl_mv M rfl rfl ?_
  refine wl_nil ?_
  refine ⟨(k6 + 1, (in6 || (decide (x6 = x) && decide (x = y)))), ?_, ⟨(by omega), (by rw [take_snoc hx6, List.any_append, ← hin]; simp), M⟩, ⟨rfl, rfl, trivial⟩, unw_look rfl (unw_hav rfl (unw_look rfl unw_base))⟩
  show ws.length - (k6 + 1) < ws.length - k6
  omega
 have hke6 : k6 = ws.length := by omega
 rw [hke6, List.take_length] at hin
 refine wc_exit rfl ?_
 refine wc_seq ?_
 refine wc_region ?_
 refine wl_mv M rfl rfl ?_
 refine wl_e (e_callC M (pairs_c ps (by omega) (fun p hp => by have := hps p hp; omega) M.imm hT R0) Tryd.func15 rfl rfl) rfl rfl ?_
 rintro _ w14 ⟨J110, hJ110, ⟨_, rfl, ⟨fu110, au110, rfl, Rf110, Ra110⟩⟩, M⟩
 have hoJ110 := M.old
 refine wl_mv M rfl rfl ?_
 refine wl_m M (q_ext rfl rfl) rfl rfl ?_
 refine wl_m M (q_ext rfl rfl) rfl rfl ?_
 refine wl_e (e_alloc M z29) rfl rfl ?_
 rintro _ w15 ⟨b19, rfl, M⟩
 refine wl_e0 (e_stW 0 M rfl rfl rfl sz29 rfl rfl) rfl ?_
 intro _ w16 M
 simp only [sC0, sCS] at M
 refine wl_as M rfl rfl ?_
 refine wl_nil ?_
 refine wc_seq ?_
 refine wc_region ?_
 refine wl_mv M rfl rfl ?_
 refine wl_e (e_callC M (words_c ws (by omega) (fun s hs => by have := hws s hs; omega) M.imm (hT.mono hJ110) (R3.mono hJ110)) Tryd.func17 rfl rfl) rfl rfl ?_
 rintro _ w17 ⟨J115, hJ115, ⟨_, t115, e115, rfl, ⟨fu115, au115, rfl, Rf115, Ra115⟩, hc115⟩, M⟩
 have hoJ115 := M.old
 refine wl_mv M rfl rfl ?_
 refine wl_m M (q_ext rfl rfl) rfl rfl ?_
 refine wl_m M (q_ext rfl rfl) rfl rfl ?_
 refine wl_e (e_alloc M z29) rfl rfl ?_
 rintro _ w18 ⟨b21, rfl, M⟩
 refine wl_e0 (e_stW 0 M rfl rfl rfl sz29 rfl rfl) rfl ?_
 intro _ w19 M
 simp only [sC0, sCS] at M
 refine wl_as M rfl rfl ?_
 refine wl_nil ?_
 refine wc_seq ?_
 refine wc_join (α := Unit) [8, 118, 119, 120, 121, 122, 123, 124, 125, 126, 127, 128, 129, 130, 131, 132, 133, 134, 135, 136, 137, 138, 139] (fun _ => [(8, .bool (((!decide (((PairsS ps).2) = 0)) || ((relS (PairsS ps).1 x y) == is4)) && ((!decide (e115 = 0)) || ((relS t115 x y) == in6))))]) (fun _ w' => Mem w I J115 (box b21 29 [.int .i64 t115.states, .int .i64 t115.start, sv fu115, sv au115] :: box b19 29 [.int .i64 ((PairsS ps).1.states), .int .i64 ((PairsS ps).1.start), sv fu110, sv au110] :: []) w') ?_ ?_
 ·refine wc_region ?_
  refine wl_mv M rfl rfl ?_
  refine wl_m M (q_neq rfl rfl) rfl rfl ?_
  refine wl_mv M rfl rfl ?_
  rcases Bool.eq_false_or_eq_true (!decide (((PairsS ps).2) = 0)) with hg120 | hg120
  ·refine wl_m M (q_off 2 rfl rfl rfl hg120) rfl rfl ?_
   refine wl_m M (q_off 2 rfl rfl rfl hg120) rfl rfl ?_
   refine wl_m M (q_off 2 rfl rfl rfl hg120) rfl rfl ?_
   refine wl_m M (q_off 2 rfl rfl rfl hg120) rfl rfl ?_
   refine wl_m M (q_off 2 rfl rfl rfl hg120) rfl rfl ?_
   refine wl_m M (q_off 2 rfl rfl rfl hg120) rfl rfl ?_
   refine wl_m M (q_pickT rfl hg120 rfl) rfl rfl ?_
   refine wl_mv M rfl rfl ?_
   refine wl_m M (q_guard 10 rfl rfl rfl rfl (q_move rfl)) rfl rfl ?_
   refine wl_m M (q_guard 10 rfl rfl rfl rfl (q_neq rfl rfl)) rfl rfl ?_
   refine wl_m M (q_guard 10 rfl rfl rfl rfl (q_move rfl)) rfl rfl ?_
   rcases Bool.eq_false_or_eq_true (!decide (e115 = 0)) with hg131 | hg131
   ·refine wl_m M (q_off 13 rfl rfl rfl hg131) rfl rfl ?_
    refine wl_m M (q_off 13 rfl rfl rfl hg131) rfl rfl ?_
    refine wl_m M (q_off 13 rfl rfl rfl hg131) rfl rfl ?_
    refine wl_m M (q_off 13 rfl rfl rfl hg131) rfl rfl ?_
    refine wl_m M (q_off 13 rfl rfl rfl hg131) rfl rfl ?_
    refine wl_m M (q_off 13 rfl rfl rfl hg131) rfl rfl ?_
    refine wl_m M (q_guard 10 rfl rfl rfl rfl (q_pickT rfl hg131 rfl)) rfl rfl ?_
    refine wl_m M (q_pickT rfl rfl rfl) rfl rfl ?_
    refine wl_as M rfl rfl ?_
    refine wl_nil ?_
    exact ⟨(), M, ⟨(show some (Value.bool true) = some (Value.bool (((!decide (((PairsS ps).2) = 0)) || ((relS (PairsS ps).1 x y) == is4)) && ((!decide (e115 = 0)) || ((relS t115 x y) == in6)))) from by first | (simp only [hg120, hg131, Bool.true_or, Bool.false_or, Bool.true_and, Bool.false_and, Bool.or_true, Bool.or_false, Bool.and_true, Bool.and_false]; done) | simp_all), trivial⟩, unw_take 23 rfl rfl⟩
   refine wl_m M (q_guard 13 rfl rfl rfl hg131 (q_ldbA 0 Tryd.underlying29 rfl sz29 rfl rfl rfl rfl)) rfl rfl ?_
   refine wl_m M (q_guard 13 rfl rfl rfl hg131 (q_move rfl)) rfl rfl ?_
   refine wl_m M (q_guard 13 rfl rfl rfl hg131 (q_move rfl)) rfl rfl ?_
   refine wl_e (e_guard 13 rfl rfl rfl hg131 (e_callC M (relates_c t115 x y (by omega) (by omega) (Nat.le_trans (Nat.mul_le_mul (show x.size + 1 ≤ 41 by omega) (show y.size + 1 ≤ 41 by omega)) (by decide)) M.imm ⟨_, _, rfl, Rf115, Ra115⟩) Tryd.func20 rfl rfl)) rfl rfl ?_
   rintro _ w20 ⟨J135, hJ135, rfl, M⟩
   replace M := M.less hJ135 hoJ115
   refine wl_m M (q_guard 13 rfl rfl rfl hg131 (q_move rfl)) rfl rfl ?_
   refine wl_m M (q_guard 13 rfl rfl rfl hg131 (q_eqlB Tryd.underlying4 rfl rfl)) rfl rfl ?_
   refine wl_m M (q_guard 10 rfl rfl rfl rfl (q_pickF rfl hg131 rfl)) rfl rfl ?_
   refine wl_m M (q_pickT rfl rfl rfl) rfl rfl ?_
   refine wl_as M rfl rfl ?_
   refine wl_nil ?_
   exact ⟨(), M, ⟨(show some (Value.bool ((relS t115 x y) == in6)) = some (Value.bool (((!decide (((PairsS ps).2) = 0)) || ((relS (PairsS ps).1 x y) == is4)) && ((!decide (e115 = 0)) || ((relS t115 x y) == in6)))) from by first | (simp only [hg120, hg131, Bool.true_or, Bool.false_or, Bool.true_and, Bool.false_and, Bool.or_true, Bool.or_false, Bool.and_true, Bool.and_false]; done) | simp_all), trivial⟩, unw_take 23 rfl rfl⟩
  refine wl_m M (q_guard 2 rfl rfl rfl hg120 (q_ldbA 1 Tryd.underlying29 rfl sz29 rfl rfl rfl rfl)) rfl rfl ?_
  refine wl_m M (q_guard 2 rfl rfl rfl hg120 (q_move rfl)) rfl rfl ?_
  refine wl_m M (q_guard 2 rfl rfl rfl hg120 (q_move rfl)) rfl rfl ?_
  refine wl_e (e_guard 2 rfl rfl rfl hg120 (e_callC M (relates_c (PairsS ps).1 x y (by omega) (by omega) (Nat.le_trans (Nat.mul_le_mul (show x.size + 1 ≤ 41 by omega) (show y.size + 1 ≤ 41 by omega)) (by decide)) M.imm ⟨_, _, rfl, (Rf110.mono hJ115), (Ra110.mono hJ115)⟩) Tryd.func20 rfl rfl)) rfl rfl ?_
  rintro _ w21 ⟨J124, hJ124, rfl, M⟩
  replace M := M.less hJ124 hoJ115
  refine wl_m M (q_guard 2 rfl rfl rfl hg120 (q_move rfl)) rfl rfl ?_
  refine wl_m M (q_guard 2 rfl rfl rfl hg120 (q_eqlB Tryd.underlying4 rfl rfl)) rfl rfl ?_
  refine wl_m M (q_pickF rfl hg120 rfl) rfl rfl ?_
  refine wl_mv M rfl rfl ?_
  rcases Bool.eq_false_or_eq_true ((relS (PairsS ps).1 x y) == is4) with hg128 | hg128
  ·refine wl_m M (q_guard 10 rfl rfl rfl hg128 (q_move rfl)) rfl rfl ?_
   refine wl_m M (q_guard 10 rfl rfl rfl hg128 (q_neq rfl rfl)) rfl rfl ?_
   refine wl_m M (q_guard 10 rfl rfl rfl hg128 (q_move rfl)) rfl rfl ?_
   rcases Bool.eq_false_or_eq_true (!decide (e115 = 0)) with hg131 | hg131
   ·refine wl_m M (q_off 13 rfl rfl rfl hg131) rfl rfl ?_
    refine wl_m M (q_off 13 rfl rfl rfl hg131) rfl rfl ?_
    refine wl_m M (q_off 13 rfl rfl rfl hg131) rfl rfl ?_
    refine wl_m M (q_off 13 rfl rfl rfl hg131) rfl rfl ?_
    refine wl_m M (q_off 13 rfl rfl rfl hg131) rfl rfl ?_
    refine wl_m M (q_off 13 rfl rfl rfl hg131) rfl rfl ?_
    refine wl_m M (q_guard 10 rfl rfl rfl hg128 (q_pickT rfl hg131 rfl)) rfl rfl ?_
    refine wl_m M (q_pickT rfl hg128 rfl) rfl rfl ?_
    refine wl_as M rfl rfl ?_
    refine wl_nil ?_
    exact ⟨(), M, ⟨(show some (Value.bool true) = some (Value.bool (((!decide (((PairsS ps).2) = 0)) || ((relS (PairsS ps).1 x y) == is4)) && ((!decide (e115 = 0)) || ((relS t115 x y) == in6)))) from by first | (simp only [hg120, hg128, hg131, Bool.true_or, Bool.false_or, Bool.true_and, Bool.false_and, Bool.or_true, Bool.or_false, Bool.and_true, Bool.and_false]; done) | simp_all), trivial⟩, unw_take 23 rfl rfl⟩
   refine wl_m M (q_guard 13 rfl rfl rfl hg131 (q_ldbA 0 Tryd.underlying29 rfl sz29 rfl rfl rfl rfl)) rfl rfl ?_
   refine wl_m M (q_guard 13 rfl rfl rfl hg131 (q_move rfl)) rfl rfl ?_
   refine wl_m M (q_guard 13 rfl rfl rfl hg131 (q_move rfl)) rfl rfl ?_
   refine wl_e (e_guard 13 rfl rfl rfl hg131 (e_callC M (relates_c t115 x y (by omega) (by omega) (Nat.le_trans (Nat.mul_le_mul (show x.size + 1 ≤ 41 by omega) (show y.size + 1 ≤ 41 by omega)) (by decide)) M.imm ⟨_, _, rfl, Rf115, Ra115⟩) Tryd.func20 rfl rfl)) rfl rfl ?_
   rintro _ w22 ⟨J135, hJ135, rfl, M⟩
   replace M := M.less hJ135 hoJ115
   refine wl_m M (q_guard 13 rfl rfl rfl hg131 (q_move rfl)) rfl rfl ?_
   refine wl_m M (q_guard 13 rfl rfl rfl hg131 (q_eqlB Tryd.underlying4 rfl rfl)) rfl rfl ?_
   refine wl_m M (q_guard 10 rfl rfl rfl hg128 (q_pickF rfl hg131 rfl)) rfl rfl ?_
   refine wl_m M (q_pickT rfl hg128 rfl) rfl rfl ?_
   refine wl_as M rfl rfl ?_
   refine wl_nil ?_
   exact ⟨(), M, ⟨(show some (Value.bool ((relS t115 x y) == in6)) = some (Value.bool (((!decide (((PairsS ps).2) = 0)) || ((relS (PairsS ps).1 x y) == is4)) && ((!decide (e115 = 0)) || ((relS t115 x y) == in6)))) from by first | (simp only [hg120, hg128, hg131, Bool.true_or, Bool.false_or, Bool.true_and, Bool.false_and, Bool.or_true, Bool.or_false, Bool.and_true, Bool.and_false]; done) | simp_all), trivial⟩, unw_take 23 rfl rfl⟩
  refine wl_m M (q_off 10 rfl rfl rfl hg128) rfl rfl ?_
  refine wl_m M (q_off 10 rfl rfl rfl hg128) rfl rfl ?_
  refine wl_m M (q_off 10 rfl rfl rfl hg128) rfl rfl ?_
  refine wl_m M (q_offu 13 rfl rfl rfl) rfl rfl ?_
  refine wl_m M (q_offu 13 rfl rfl rfl) rfl rfl ?_
  refine wl_m M (q_offu 13 rfl rfl rfl) rfl rfl ?_
  refine wl_m M (q_offu 13 rfl rfl rfl) rfl rfl ?_
  refine wl_m M (q_offu 13 rfl rfl rfl) rfl rfl ?_
  refine wl_m M (q_offu 13 rfl rfl rfl) rfl rfl ?_
  refine wl_m M (q_off 10 rfl rfl rfl hg128) rfl rfl ?_
  refine wl_m M (q_pickF rfl hg128 rfl) rfl rfl ?_
  refine wl_as M rfl rfl ?_
  refine wl_nil ?_
  exact ⟨(), M, ⟨(show some (Value.bool false) = some (Value.bool (((!decide (((PairsS ps).2) = 0)) || ((relS (PairsS ps).1 x y) == is4)) && ((!decide (e115 = 0)) || ((relS t115 x y) == in6)))) from by first | (simp only [hg120, hg128, Bool.true_or, Bool.false_or, Bool.true_and, Bool.false_and, Bool.or_true, Bool.or_false, Bool.and_true, Bool.and_false]; done) | simp_all), trivial⟩, unw_take 23 rfl rfl⟩
 rintro _ jr31 w23 M
 refine wc_ret ?_
 have h1 : (PairsS ps).2 = 0 → relS (PairsS ps).1 x y = is4 := fun h => (lists_law peta h).trans his.symm
 have h2 : e115 = 0 → relS t115 x y = in6 := fun h => (words_law hc115 h).trans hin.symm
 clear his hin
 exact out1 rfl rfl ⟨_, _, rfl, M.grow, by by_cases ha : (PairsS ps).2 = 0 <;> by_cases hb : e115 = 0 <;> simp [ha, hb, h1, h2]⟩
end Go.Proofs.YtoilmeiikgegcaaDoor.G
