/- Walks of the program's functions. -/
import Derived.Test.YtoilmeiikgegcaaDoorWLb
import Derived.Test.YtoilmeiikgegcaaDoorWQc
set_option linter.all false
namespace Go.Proofs.YtoilmeiikgegcaaDoor.G
open Go Go.RowKit
theorem lawPairs_c (ps : List SPair) (ws : List ByteArray) {u0 u1 : SV} {I : Heap} {w : World} (hI : hle I (hp w)) (hT : Tabs I) (R0 : rdSl ESPair I (sv u0) ps) (R3 : rdSl EStr I (sv u1) ws) : Calls A 3 #[sv u0, sv u1] w (Ret w I fun r _ => r = .bool true) := by
 have hll0 := R0.len_le
 have hll3 := R3.len_le
 have M := Mem.start hI
 refine enter Tryd.func3 rfl 86 Tryd.ntmps3 [_, _] rfl ?_
 refine wc_seq ?_
 refine wc_region ?_
 refine wl_as M rfl rfl ?_
 refine wl_nil ?_
 refine wc_seq ?_
 refine wc_seq ?_
 refine wc_region ?_
 refine wl_e (e_callC M (awake4_c M.imm hT) Tryd.func14 rfl rfl) rfl rfl ?_
 rintro _ w1 ⟨J17, hJ17, rfl, M⟩
 replace M := M.less hJ17 (fun _ _ => rfl)
 refine wl_m M (q_not rfl) rfl rfl ?_
 refine wl_nil ?_
 refine wc_cond rfl (fun ht18 => ?_) (fun ht18 => ?_)
 ·refine wc_seq ?_
  refine wc_region ?_
  refine wl_as M rfl rfl ?_
  refine wl_nil ?_
  refine wc_ret ?_
  exact absurd ht18 (by decide)
 refine wc_skip ?_
 refine wc_seq ?_
 refine wc_seq ?_
 refine wc_join (α := Unit) [19, 20, 21, 22, 23, 24, 25, 26] (fun _ => [(26, .bool ((decide (40 < (ps.length : Int))) || (decide (40 < (ws.length : Int)))))]) (fun _ w' => Mem w I I ([]) w') ?_ ?_
 ·refine wc_region ?_
  refine wl_mv M rfl rfl ?_
  refine wl_m M (q_lenR R0 Tryd.underlying22 rfl) rfl rfl ?_
  refine wl_m M (q_gtr rfl rfl) rfl rfl ?_
  refine wl_mv M rfl rfl ?_
  rcases Bool.eq_false_or_eq_true (decide (40 < (ps.length : Int))) with hg22 | hg22
  ·refine wl_m M (q_off 3 rfl rfl rfl hg22) rfl rfl ?_
   refine wl_m M (q_off 3 rfl rfl rfl hg22) rfl rfl ?_
   refine wl_m M (q_off 3 rfl rfl rfl hg22) rfl rfl ?_
   refine wl_m M (q_pickT rfl hg22 rfl) rfl rfl ?_
   refine wl_nil ?_
   exact ⟨(), M, ⟨(show some (Value.bool true) = some (Value.bool ((decide (40 < (ps.length : Int))) || (decide (40 < (ws.length : Int))))) from by first | (simp only [hg22, Bool.true_or, Bool.false_or, Bool.true_and, Bool.false_and, Bool.or_true, Bool.or_false, Bool.and_true, Bool.and_false]; done) | simp_all), trivial⟩, unw_take 8 rfl rfl⟩
  refine wl_m M (q_guard 3 rfl rfl rfl hg22 (q_move rfl)) rfl rfl ?_
  refine wl_m M (q_guard 3 rfl rfl rfl hg22 (q_lenR R3 Tryd.underlying23 rfl)) rfl rfl ?_
  refine wl_m M (q_guard 3 rfl rfl rfl hg22 (q_gtr rfl rfl)) rfl rfl ?_
  refine wl_m M (q_pickF rfl hg22 rfl) rfl rfl ?_
  refine wl_nil ?_
  exact ⟨(), M, ⟨(show some (Value.bool (decide (40 < (ws.length : Int)))) = some (Value.bool ((decide (40 < (ps.length : Int))) || (decide (40 < (ws.length : Int))))) from by first | (simp only [hg22, Bool.true_or, Bool.false_or, Bool.true_and, Bool.false_and, Bool.or_true, Bool.or_false, Bool.and_true, Bool.and_false]; done) | simp_all), trivial⟩, unw_take 8 rfl rfl⟩
 rintro _ jr3 w2 M
 refine wc_cond rfl (fun ht26 => ?_) (fun ht26 => ?_)
 ·refine wc_seq ?_
  refine wc_region ?_
  refine wl_as M rfl rfl ?_
  refine wl_nil ?_
  refine wc_ret ?_
  exact out1 rfl rfl ⟨_, _, rfl, M.grow, rfl⟩
 have hlen : ps.length ≤ 40 ∧ ws.length ≤ 40 := by simp at ht26; omega
 refine wc_skip ?_
 refine wc_seq ?_
 refine wc_seq ?_
 refine wc_region ?_
 refine wl_mv M rfl rfl ?_
 refine wl_m M (q_lenR R0 Tryd.underlying22 rfl) rfl rfl ?_
 refine wl_mv M rfl rfl ?_
 refine wl_nil ?_
 refine wc_block ?_
 refine wc_loop (α := Nat) [4, 6, 29, 30, 31, 32, 33, 34, 35, 36, 37, 38, 39, 40, 41, 42, 43] (fun (k0 : Nat) => [(29, .int .i64 (k0 : Int))])
   (fun (k0 : Nat) w' => (k0 ≤ ps.length) ∧ (∀ p ∈ ps.take k0, p.x.size ≤ 60 ∧ p.y.size ≤ 60) ∧ Mem w I I ([]) w')
   (fun (k0 : Nat) => ps.length - k0) (0) ⟨rfl, trivial⟩ ?_ ?_
 ·refine ⟨Nat.zero_le _, (by simp), ?_⟩
  exact M
 rintro k0 jj0 w3 ⟨hk0, hps, M⟩
 refine wc_seq ?_
 refine wc_region ?_
 refine wl_m M (q_lss rfl rfl) rfl rfl ?_
 refine wl_nil ?_
 refine wc_seq ?_
 refine wc_dec rfl (fun ht30 => ?_) (fun ht30 => ?_)
 ·obtain ⟨x0, hx0⟩ : ∃ x_, ps[k0]? = some x_ := ⟨_, List.getElem?_eq_getElem (by omega)⟩
  have hll0 := (R0).len_le
  refine wc_skip ?_
  refine wc_seq ?_
  refine wc_block ?_
  refine wc_seq ?_
  refine wc_region ?_
  refine wl_ix (j := k0) M R0 Tryd.underlying22 rfl rfl hx0 rfl (fun b31 o31 p31 => ?_)
  refine wl_m M (q_ldp p31 rfl rfl) rfl rfl ?_
  refine wl_e (e_alloc M z25) rfl rfl ?_
  rintro _ w4 ⟨b6, rfl, M⟩
  refine wl_e0 (e_stW 0 M rfl rfl rfl sz25 rfl rfl) rfl ?_
  intro _ w5 M
  simp only [sC0, sCS] at M
  refine wl_nil ?_
  refine wc_seq ?_
  refine wc_join (α := Unit) [33, 34, 35, 36, 37, 38, 39, 40, 41, 42] (fun _ => [(42, .bool ((decide (60 < (x0.x.size : Int))) || (decide (60 < (x0.y.size : Int)))))]) (fun _ w' => Mem w I I (box b6 25 [.string x0.x, .string x0.y] :: []) w') ?_ ?_
  ·refine wc_region ?_
   refine wl_m M (q_ia (i := 0) Tryd.underlying25 sz9 rfl rfl (by decide)) rfl rfl ?_
   refine wl_m M (q_ldb 0 Tryd.underlying9 rfl rfl rfl rfl) rfl rfl ?_
   refine wl_m M (q_lenStr Tryd.underlying9 rfl) rfl rfl ?_
   refine wl_m M (q_gtr rfl rfl) rfl rfl ?_
   refine wl_mv M rfl rfl ?_
   rcases Bool.eq_false_or_eq_true (decide (60 < (x0.x.size : Int))) with hg37 | hg37
   ·refine wl_m M (q_off 4 rfl rfl rfl hg37) rfl rfl ?_
    refine wl_m M (q_off 4 rfl rfl rfl hg37) rfl rfl ?_
    refine wl_m M (q_off 4 rfl rfl rfl hg37) rfl rfl ?_
    refine wl_m M (q_off 4 rfl rfl rfl hg37) rfl rfl ?_
    refine wl_m M (q_pickT rfl hg37 rfl) rfl rfl ?_
    refine wl_nil ?_
    exact ⟨(), M, ⟨(show some (Value.bool true) = some (Value.bool ((decide (60 < (x0.x.size : Int))) || (decide (60 < (x0.y.size : Int))))) from by first | (simp only [hg37, Bool.true_or, Bool.false_or, Bool.true_and, Bool.false_and, Bool.or_true, Bool.or_false, Bool.and_true, Bool.and_false]; done) | simp_all), trivial⟩, unw_take 10 rfl rfl⟩
   refine wl_m M (q_guard 4 rfl rfl rfl hg37 (q_ia (i := 1) Tryd.underlying25 sz9 rfl rfl (by decide))) rfl rfl ?_
   refine wl_m M (q_guard 4 rfl rfl rfl hg37 (q_ldb 0 Tryd.underlying9 rfl rfl rfl rfl)) rfl rfl ?_
   refine wl_m M (q_guard 4 rfl rfl rfl hg37 (q_lenStr Tryd.underlying9 rfl)) rfl rfl ?_
   refine wl_m M (q_guard 4 rfl rfl rfl hg37 (q_gtr rfl rfl)) rfl rfl ?_
   refine wl_m M (q_pickF rfl hg37 rfl) rfl rfl ?_
   refine wl_nil ?_
   exact ⟨(), M, ⟨(show some (Value.bool (decide (60 < (x0.y.size : Int)))) = some (Value.bool ((decide (60 < (x0.x.size : Int))) || (decide (60 < (x0.y.size : Int))))) from by first | (simp only [hg37, Bool.true_or, Bool.false_or, Bool.true_and, Bool.false_and, Bool.or_true, Bool.or_false, Bool.and_true, Bool.and_false]; done) | simp_all), trivial⟩, unw_take 10 rfl rfl⟩
  rintro _ jr8 w6 M
  refine wc_cond rfl (fun ht42 => ?_) (fun ht42 => ?_)
  ·refine wc_seq ?_
   refine wc_region ?_
   refine wl_as M rfl rfl ?_
   refine wl_nil ?_
   refine wc_ret ?_
   exact out1 rfl rfl ⟨_, _, rfl, M.grow, rfl⟩
  refine wc_skip ?_
  refine wc_region ?_
  refine wl_m M (q_add rfl rfl (IntWalk.i64_in _ (by omega))) rfl rfl ?_
  refine wl_mv M rfl rfl ?_
  refine wl_nil ?_
  replace M := M.drop 0
  refine ⟨(k0 + 1), ?_, ⟨(by omega), (fun p hp => by rw [take_snoc hx0] at hp; rcases List.mem_append.1 hp with h | h; exact hps p h; rw [List.mem_singleton.1 h]; simp at ht42; omega), M⟩, ⟨rfl, trivial⟩, unw_look rfl (unw_hav rfl (unw_look rfl unw_base))⟩
  show ps.length - (k0 + 1) < ps.length - k0
  omega
 have hke0 : k0 = ps.length := by omega
 rw [hke0, List.take_length] at hps
 refine wc_exit rfl ?_
 refine wc_seq ?_
 refine wc_seq ?_
 refine wc_region ?_
 refine wl_mv M rfl rfl ?_
 refine wl_m M (q_lenR R3 Tryd.underlying23 rfl) rfl rfl ?_
 refine wl_mv M rfl rfl ?_
 refine wl_nil ?_
 refine wc_block ?_
 refine wc_loop (α := Nat) [4, 8, 46, 47, 48, 49, 50, 51, 52, 53] (fun (k2 : Nat) => [(46, .int .i64 (k2 : Int))])
   (fun (k2 : Nat) w' => (k2 ≤ ws.length) ∧ (∀ s ∈ ws.take k2, s.size ≤ 60) ∧ Mem w I I ([]) w')
   (fun (k2 : Nat) => ws.length - k2) (0) ⟨rfl, trivial⟩ ?_ ?_
 ·refine ⟨Nat.zero_le _, (by simp), ?_⟩
  exact M
 rintro k2 jj2 w7 ⟨hk2, hws, M⟩
 refine wc_seq ?_
 refine wc_region ?_
 refine wl_m M (q_lss rfl rfl) rfl rfl ?_
 refine wl_nil ?_
 refine wc_seq ?_
 refine wc_dec rfl (fun ht47 => ?_) (fun ht47 => ?_)
 ·obtain ⟨x2, hx2⟩ : ∃ x_, ws[k2]? = some x_ := ⟨_, List.getElem?_eq_getElem (by omega)⟩
  have hll2 := (R3).len_le
  refine wc_skip ?_
  refine wc_seq ?_
  refine wc_block ?_
  refine wc_seq ?_
  refine wc_region ?_
  refine wl_ix (j := k2) M R3 Tryd.underlying23 rfl rfl hx2 rfl (fun b48 o48 p48 => ?_)
  refine wl_m M (q_ldp p48 rfl rfl) rfl rfl ?_
  refine wl_as M rfl rfl ?_
  refine wl_nil ?_
  refine wc_seq ?_
  refine wc_region ?_
  refine wl_mv M rfl rfl ?_
  refine wl_m M (q_lenStr Tryd.underlying9 rfl) rfl rfl ?_
  refine wl_m M (q_gtr rfl rfl) rfl rfl ?_
  refine wl_nil ?_
  refine wc_dec rfl (fun ht52 => ?_) (fun ht52 => ?_)
  ·refine wc_seq ?_
   refine wc_region ?_
   refine wl_as M rfl rfl ?_
   refine wl_nil ?_
   refine wc_ret ?_
   exact out1 rfl rfl ⟨_, _, rfl, M.grow, rfl⟩
  refine wc_skip ?_
  refine wc_region ?_
  refine wl_m M (q_add rfl rfl (IntWalk.i64_in _ (by omega))) rfl rfl ?_
  refine wl_mv M rfl rfl ?_
  refine wl_nil ?_
  refine ⟨(k2 + 1), ?_, ⟨(by omega), (fun p hp => by rw [take_snoc hx2] at hp; rcases List.mem_append.1 hp with h | h; exact hws p h; rw [List.mem_singleton.1 h]; simp at ht52; omega), M⟩, ⟨rfl, trivial⟩, unw_look rfl unw_base⟩
  show ws.length - (k2 + 1) < ws.length - k2
  omega
 have hke2 : k2 = ws.length := by omega
 rw [hke2, List.take_length] at hws
 refine wc_exit rfl ?_
 refine wc_seq ?_
 refine wc_region ?_
 refine wl_mv M rfl rfl ?_
 refine wl_e (e_callC M (pairs_c ps (by omega) (fun p hp => by have := hps p hp; omega) M.imm hT R0) Tryd.func15 rfl rfl) rfl rfl ?_
 rintro _ w8 ⟨J56, hJ56, ⟨_, rfl, ⟨fu56, au56, rfl, Rf56, Ra56⟩⟩, M⟩
 have hoJ56 := M.old
 refine wl_mv M rfl rfl ?_
 refine wl_m M (q_ext rfl rfl) rfl rfl ?_
 refine wl_m M (q_ext rfl rfl) rfl rfl ?_
 refine wl_e (e_alloc M z29) rfl rfl ?_
 rintro _ w9 ⟨b9, rfl, M⟩
 refine wl_e0 (e_stW 0 M rfl rfl rfl sz29 rfl rfl) rfl ?_
 intro _ w10 M
 simp only [sC0, sCS] at M
 refine wl_as M rfl rfl ?_
 refine wl_nil ?_
 refine wc_seq ?_
 refine wc_region ?_
 refine wl_mv M rfl rfl ?_
 refine wl_e (e_callC M (pairs4_c ps (by omega) (fun p hp => by have := hps p hp; omega) M.imm (R0.mono hJ56)) Tryd.func16 rfl rfl) rfl rfl ?_
 rintro _ w11 ⟨J61, hJ61, ⟨_, rfl, ⟨fu61, au61, rfl, Rf61, Ra61⟩⟩, M⟩
 have hoJ61 := M.old
 refine wl_mv M rfl rfl ?_
 refine wl_m M (q_ext rfl rfl) rfl rfl ?_
 refine wl_m M (q_ext rfl rfl) rfl rfl ?_
 refine wl_e (e_alloc M z29) rfl rfl ?_
 rintro _ w12 ⟨b11, rfl, M⟩
 refine wl_e0 (e_stW 0 M rfl rfl rfl sz29 rfl rfl) rfl ?_
 intro _ w13 M
 simp only [sC0, sCS] at M
 refine wl_as M rfl rfl ?_
 refine wl_nil ?_
 refine wc_seq ?_
 refine wc_region ?_
 refine wl_mv M rfl rfl ?_
 refine wl_e (e_callC M (words_c ws (by omega) (fun s hs => by have := hws s hs; omega) M.imm ((hT.mono hJ56).mono hJ61) ((R3.mono hJ56).mono hJ61)) Tryd.func17 rfl rfl) rfl rfl ?_
 rintro _ w14 ⟨J66, hJ66, ⟨_, t66, e66, rfl, ⟨fu66, au66, rfl, Rf66, Ra66⟩, hc66⟩, M⟩
 have hoJ66 := M.old
 refine wl_mv M rfl rfl ?_
 refine wl_m M (q_ext rfl rfl) rfl rfl ?_
 refine wl_m M (q_ext rfl rfl) rfl rfl ?_
 refine wl_e (e_alloc M z29) rfl rfl ?_
 rintro _ w15 ⟨b13, rfl, M⟩
 refine wl_e0 (e_stW 0 M rfl rfl rfl sz29 rfl rfl) rfl ?_
 intro _ w16 M
 simp only [sC0, sCS] at M
 refine wl_as M rfl rfl ?_
 refine wl_nil ?_
 refine wc_seq ?_
 refine wc_region ?_
 refine wl_mv M rfl rfl ?_
 refine wl_e (e_callC M (words4_c ws (by omega) (fun s hs => by have := hws s hs; omega) M.imm (((R3.mono hJ56).mono hJ61).mono hJ66)) Tryd.func18 rfl rfl) rfl rfl ?_
 rintro _ w17 ⟨J71, hJ71, ⟨_, t71, e71, rfl, ⟨fu71, au71, rfl, Rf71, Ra71⟩, hc71⟩, M⟩
 have hoJ71 := M.old
 refine wl_mv M rfl rfl ?_
 refine wl_m M (q_ext rfl rfl) rfl rfl ?_
 refine wl_m M (q_ext rfl rfl) rfl rfl ?_
 refine wl_e (e_alloc M z29) rfl rfl ?_
 rintro _ w18 ⟨b15, rfl, M⟩
 refine wl_e0 (e_stW 0 M rfl rfl rfl sz29 rfl rfl) rfl ?_
 intro _ w19 M
 simp only [sC0, sCS] at M
 refine wl_as M rfl rfl ?_
 refine wl_nil ?_
 refine wc_seq ?_
 refine wc_join (α := Unit) [4, 74, 75, 76, 77, 78, 79, 80, 81, 82, 83, 84, 85] (fun _ => [(4, .bool ((decide (((PairsS ps).1, (PairsS ps).2) = ((PairsS ps).1, (PairsS ps).2))) && (decide ((t66, e66) = (t71, e71)))))]) (fun _ w' => Mem w I J71 (box b15 29 [.int .i64 t71.states, .int .i64 t71.start, sv fu71, sv au71] :: box b13 29 [.int .i64 t66.states, .int .i64 t66.start, sv fu66, sv au66] :: box b11 29 [.int .i64 ((PairsS ps).1.states), .int .i64 ((PairsS ps).1.start), sv fu61, sv au61] :: box b9 29 [.int .i64 ((PairsS ps).1.states), .int .i64 ((PairsS ps).1.start), sv fu56, sv au56] :: []) w') ?_ ?_
 ·refine wc_region ?_
  refine wl_m M (q_ldbA 3 Tryd.underlying29 rfl sz29 rfl rfl rfl rfl) rfl rfl ?_
  refine wl_mv M rfl rfl ?_
  refine wl_m M (q_ldbA 2 Tryd.underlying29 rfl sz29 rfl rfl rfl rfl) rfl rfl ?_
  refine wl_mv M rfl rfl ?_
  refine wl_e (e_callC M (agree4_c (PairsS ps).1 (PairsS ps).1 (PairsS ps).2 (PairsS ps).2 M.imm ⟨_, _, rfl, (((Rf56.mono hJ61).mono hJ66).mono hJ71), (((Ra56.mono hJ61).mono hJ66).mono hJ71)⟩ ⟨_, _, rfl, ((Rf61.mono hJ66).mono hJ71), ((Ra61.mono hJ66).mono hJ71)⟩) Tryd.func19 rfl rfl) rfl rfl ?_
  rintro _ w20 ⟨J78, hJ78, rfl, M⟩
  replace M := M.less hJ78 hoJ71
  refine wl_mv M rfl rfl ?_
  rcases Bool.eq_false_or_eq_true (decide (((PairsS ps).1, (PairsS ps).2) = ((PairsS ps).1, (PairsS ps).2))) with hg79 | hg79
  ·refine wl_m M (q_guard 5 rfl rfl rfl hg79 (q_ldbA 1 Tryd.underlying29 rfl sz29 rfl rfl rfl rfl)) rfl rfl ?_
   refine wl_m M (q_guard 5 rfl rfl rfl hg79 (q_move rfl)) rfl rfl ?_
   refine wl_m M (q_guard 5 rfl rfl rfl hg79 (q_ldbA 0 Tryd.underlying29 rfl sz29 rfl rfl rfl rfl)) rfl rfl ?_
   refine wl_m M (q_guard 5 rfl rfl rfl hg79 (q_move rfl)) rfl rfl ?_
   refine wl_e (e_guard 5 rfl rfl rfl hg79 (e_callC M (agree4_c t66 t71 e66 e71 M.imm ⟨_, _, rfl, (Rf66.mono hJ71), (Ra66.mono hJ71)⟩ ⟨_, _, rfl, Rf71, Ra71⟩) Tryd.func19 rfl rfl)) rfl rfl ?_
   rintro _ w21 ⟨J84, hJ84, rfl, M⟩
   replace M := M.less hJ84 hoJ71
   refine wl_m M (q_pickT rfl hg79 rfl) rfl rfl ?_
   refine wl_as M rfl rfl ?_
   refine wl_nil ?_
   exact ⟨(), M, ⟨(show some (Value.bool (decide ((t66, e66) = (t71, e71)))) = some (Value.bool ((decide (((PairsS ps).1, (PairsS ps).2) = ((PairsS ps).1, (PairsS ps).2))) && (decide ((t66, e66) = (t71, e71))))) from by first | (simp only [hg79, Bool.true_or, Bool.false_or, Bool.true_and, Bool.false_and, Bool.or_true, Bool.or_false, Bool.and_true, Bool.and_false]; done) | simp_all), trivial⟩, unw_take 13 rfl rfl⟩
  refine wl_m M (q_off 5 rfl rfl rfl hg79) rfl rfl ?_
  refine wl_m M (q_off 5 rfl rfl rfl hg79) rfl rfl ?_
  refine wl_m M (q_off 5 rfl rfl rfl hg79) rfl rfl ?_
  refine wl_m M (q_off 5 rfl rfl rfl hg79) rfl rfl ?_
  refine wl_m M (q_off 5 rfl rfl rfl hg79) rfl rfl ?_
  refine wl_m M (q_pickF rfl hg79 rfl) rfl rfl ?_
  refine wl_as M rfl rfl ?_
  refine wl_nil ?_
  exact ⟨(), M, ⟨(show some (Value.bool false) = some (Value.bool ((decide (((PairsS ps).1, (PairsS ps).2) = ((PairsS ps).1, (PairsS ps).2))) && (decide ((t66, e66) = (t71, e71))))) from by first | (simp only [hg79, Bool.true_or, Bool.false_or, Bool.true_and, Bool.false_and, Bool.or_true, Bool.or_false, Bool.and_true, Bool.and_false]; done) | simp_all), trivial⟩, unw_take 13 rfl rfl⟩
 rintro _ jr21 w22 M
 refine wc_ret ?_
 exact out1 rfl rfl ⟨_, _, rfl, M.grow, by have := hc66.trans hc71.symm; cases this; simp⟩
end Go.Proofs.YtoilmeiikgegcaaDoor.G
