/- Walks of the program's functions. -/
import Derived.Test.YtmjieefhjmiagaaGreatDoorWQe
import Derived.Test.YtmjieefhjmiagaaGreatDoorWPd
import Derived.Test.YtmjieefhjmiagaaGreatDoorWRb
import Derived.Test.YtmjieefhjmiagaaGreatDoorWL0
import Derived.Test.YtmjieefhjmiagaaGreatDoorWX
import Derived.Test.YtmjieefhjmiagaaGreatDoorGArr
set_option linter.all false
namespace Go.Proofs.YtmjieefhjmiagaaGreatDoor.G
open Go Go.RowKit
theorem lawRestrict_c (a : Tra) (ws : List ByteArray) (x y : ByteArray) {v1 : Value} {u : SV} {I : Heap} {w : World} (hI : hle I (hp w)) (hT : Tabs I) (R1 : a.rd I v1) (R0 : rdSl EStr I (sv u) ws) : Calls A 6 #[v1, sv u, .string x, .string y] w (Ret w I fun r _ => r = .bool true) := by
 obtain ⟨fu1, au1, rfl, Rf1, Ra1⟩ := R1
 have hll0 := R0.len_le
 have M := Mem.start hI
 refine enter Tryz.func6 rfl 90 Tryz.ntmps6 [_, _, _, _] rfl ?_
 refine wc_seq ?_
 refine wc_region ?_
 refine wl_e (e_box M rfl) rfl rfl ?_
 rintro _ w1 ⟨b4, rfl, M⟩
 refine wl_as M rfl rfl ?_
 refine wl_nil ?_
 refine wc_seq ?_
 refine wc_seq ?_
 refine wc_join (α := Unit) [15, 16, 17, 18, 19, 20, 21, 22, 23, 24, 25, 26, 27, 28, 29, 30, 31, 32, 33, 34, 35, 36, 37, 38, 39] (fun _ => [(39, .bool (((((!true) || (!([a].all fewB))) || (!(ws.all (fun s => !decide (20 < (s.size : Int))) && decide ((ws.length : Int) ≤ 6)))) || (decide (4 < (ws.length : Int)))) || (!([x, y].all (fun s => !decide (20 < (s.size : Int))) && decide ((([x, y] : List ByteArray).length : Int) ≤ 6)))))]) (fun _ w' => Mem w I I (box b4 25 [.int .i64 a.states, .int .i64 a.start, sv fu1, sv au1] :: []) w') ?_ ?_
 ·refine wc_region ?_
  refine wl_e (e_callC M (awake_c M.imm hT) Tryz.func8 rfl rfl) rfl rfl ?_
  rintro _ w2 ⟨J15, hJ15, rfl, M⟩
  replace M := M.less hJ15 (fun _ _ => rfl)
  refine wl_m M (q_not rfl) rfl rfl ?_
  refine wl_mv M rfl rfl ?_
  rcases Bool.eq_false_or_eq_true (!true) with hg17 | hg17
  ·refine wl_m M (q_off 2 rfl rfl rfl hg17) rfl rfl ?_
   refine wl_m M (q_off 2 rfl rfl rfl hg17) rfl rfl ?_
   refine wl_m M (q_off 2 rfl rfl rfl hg17) rfl rfl ?_
   refine wl_m M (q_off 2 rfl rfl rfl hg17) rfl rfl ?_
   refine wl_m M (q_pickT rfl hg17 rfl) rfl rfl ?_
   refine wl_mv M rfl rfl ?_
   refine wl_m M (q_off 8 rfl rfl rfl rfl) rfl rfl ?_
   refine wl_m M (q_off 8 rfl rfl rfl rfl) rfl rfl ?_
   refine wl_m M (q_off 8 rfl rfl rfl rfl) rfl rfl ?_
   refine wl_m M (q_pickT rfl rfl rfl) rfl rfl ?_
   refine wl_mv M rfl rfl ?_
   refine wl_m M (q_off 13 rfl rfl rfl rfl) rfl rfl ?_
   refine wl_m M (q_off 13 rfl rfl rfl rfl) rfl rfl ?_
   refine wl_m M (q_off 13 rfl rfl rfl rfl) rfl rfl ?_
   refine wl_m M (q_pickT rfl rfl rfl) rfl rfl ?_
   refine wl_mv M rfl rfl ?_
   refine wl_m M (q_off 18 rfl rfl rfl rfl) rfl rfl ?_
   refine wl_m M (q_off 18 rfl rfl rfl rfl) rfl rfl ?_
   refine wl_m M (q_off 18 rfl rfl rfl rfl) rfl rfl ?_
   refine wl_m M (q_off 18 rfl rfl rfl rfl) rfl rfl ?_
   refine wl_m M (q_off 18 rfl rfl rfl rfl) rfl rfl ?_
   refine wl_m M (q_pickT rfl rfl rfl) rfl rfl ?_
   refine wl_nil ?_
   exact ⟨(), M, ⟨(show some (Value.bool true) = some (Value.bool (((((!true) || (!([a].all fewB))) || (!(ws.all (fun s => !decide (20 < (s.size : Int))) && decide ((ws.length : Int) ≤ 6)))) || (decide (4 < (ws.length : Int)))) || (!([x, y].all (fun s => !decide (20 < (s.size : Int))) && decide ((([x, y] : List ByteArray).length : Int) ≤ 6))))) from by first | (simp only [hg17, Bool.true_or, Bool.false_or, Bool.true_and, Bool.false_and, Bool.or_true, Bool.or_false, Bool.and_true, Bool.and_false]; done) | simp_all), trivial⟩, unw_take 25 rfl rfl⟩
  refine wl_m M (q_guard 2 rfl rfl rfl hg17 (q_ldbA 0 Tryz.underlying25 rfl sz25 rfl rfl rfl rfl)) rfl rfl ?_
  refine wl_e (e_guard 2 rfl rfl rfl hg17 (e_bsI (E := ETra) (xs := [(RTra.mk a.states a.start fu1 au1)]) M (bs_54_1 _ _ _ _) ⟨⟨rfl, rfl⟩, trivial⟩ rfl rfl (by decide))) rfl rfl ?_
  rintro _ w3 ⟨u19, J19, rfl, hJ19, R19, M⟩
  have hoJ19 := M.old
  refine wl_e (e_guard 2 rfl rfl rfl hg17 (e_callC M (few_c M.imm (rdTras1 R19 (Rf1.mono hJ19) (Ra1.mono hJ19))) Tryz.func9 rfl rfl)) rfl rfl ?_
  rintro _ w4 ⟨J20, hJ20, rfl, M⟩
  replace M := M.less hJ20 hoJ19
  refine wl_m M (q_guard 2 rfl rfl rfl hg17 (q_not rfl)) rfl rfl ?_
  refine wl_m M (q_pickF rfl hg17 rfl) rfl rfl ?_
  refine wl_mv M rfl rfl ?_
  rcases Bool.eq_false_or_eq_true (!([a].all fewB)) with hg23 | hg23
  ·refine wl_m M (q_off 8 rfl rfl rfl hg23) rfl rfl ?_
   refine wl_m M (q_off 8 rfl rfl rfl hg23) rfl rfl ?_
   refine wl_m M (q_off 8 rfl rfl rfl hg23) rfl rfl ?_
   refine wl_m M (q_pickT rfl hg23 rfl) rfl rfl ?_
   refine wl_mv M rfl rfl ?_
   refine wl_m M (q_off 13 rfl rfl rfl rfl) rfl rfl ?_
   refine wl_m M (q_off 13 rfl rfl rfl rfl) rfl rfl ?_
   refine wl_m M (q_off 13 rfl rfl rfl rfl) rfl rfl ?_
   refine wl_m M (q_pickT rfl rfl rfl) rfl rfl ?_
   refine wl_mv M rfl rfl ?_
   refine wl_m M (q_off 18 rfl rfl rfl rfl) rfl rfl ?_
   refine wl_m M (q_off 18 rfl rfl rfl rfl) rfl rfl ?_
   refine wl_m M (q_off 18 rfl rfl rfl rfl) rfl rfl ?_
   refine wl_m M (q_off 18 rfl rfl rfl rfl) rfl rfl ?_
   refine wl_m M (q_off 18 rfl rfl rfl rfl) rfl rfl ?_
   refine wl_m M (q_pickT rfl rfl rfl) rfl rfl ?_
   refine wl_nil ?_
   replace M := M.less hJ19 (fun _ _ => rfl)
   exact ⟨(), M, ⟨(show some (Value.bool true) = some (Value.bool (((((!true) || (!([a].all fewB))) || (!(ws.all (fun s => !decide (20 < (s.size : Int))) && decide ((ws.length : Int) ≤ 6)))) || (decide (4 < (ws.length : Int)))) || (!([x, y].all (fun s => !decide (20 < (s.size : Int))) && decide ((([x, y] : List ByteArray).length : Int) ≤ 6))))) from by first | (simp only [hg17, hg23, Bool.true_or, Bool.false_or, Bool.true_and, Bool.false_and, Bool.or_true, Bool.or_false, Bool.and_true, Bool.and_false]; done) | simp_all), trivial⟩, unw_take 25 rfl rfl⟩
  refine wl_m M (q_guard 8 rfl rfl rfl hg23 (q_move rfl)) rfl rfl ?_
  refine wl_e (e_guard 8 rfl rfl rfl hg23 (e_callC M (brief_c M.imm (R0.mono hJ19)) Tryz.func10 rfl rfl)) rfl rfl ?_
  rintro _ w5 ⟨J25, hJ25, rfl, M⟩
  replace M := M.less hJ25 hoJ19
  refine wl_m M (q_guard 8 rfl rfl rfl hg23 (q_not rfl)) rfl rfl ?_
  refine wl_m M (q_pickF rfl hg23 rfl) rfl rfl ?_
  refine wl_mv M rfl rfl ?_
  rcases Bool.eq_false_or_eq_true (!(ws.all (fun s => !decide (20 < (s.size : Int))) && decide ((ws.length : Int) ≤ 6))) with hg28 | hg28
  ·refine wl_m M (q_off 13 rfl rfl rfl hg28) rfl rfl ?_
   refine wl_m M (q_off 13 rfl rfl rfl hg28) rfl rfl ?_
   refine wl_m M (q_off 13 rfl rfl rfl hg28) rfl rfl ?_
   refine wl_m M (q_pickT rfl hg28 rfl) rfl rfl ?_
   refine wl_mv M rfl rfl ?_
   refine wl_m M (q_off 18 rfl rfl rfl rfl) rfl rfl ?_
   refine wl_m M (q_off 18 rfl rfl rfl rfl) rfl rfl ?_
   refine wl_m M (q_off 18 rfl rfl rfl rfl) rfl rfl ?_
   refine wl_m M (q_off 18 rfl rfl rfl rfl) rfl rfl ?_
   refine wl_m M (q_off 18 rfl rfl rfl rfl) rfl rfl ?_
   refine wl_m M (q_pickT rfl rfl rfl) rfl rfl ?_
   refine wl_nil ?_
   replace M := M.less hJ19 (fun _ _ => rfl)
   exact ⟨(), M, ⟨(show some (Value.bool true) = some (Value.bool (((((!true) || (!([a].all fewB))) || (!(ws.all (fun s => !decide (20 < (s.size : Int))) && decide ((ws.length : Int) ≤ 6)))) || (decide (4 < (ws.length : Int)))) || (!([x, y].all (fun s => !decide (20 < (s.size : Int))) && decide ((([x, y] : List ByteArray).length : Int) ≤ 6))))) from by first | (simp only [hg17, hg23, hg28, Bool.true_or, Bool.false_or, Bool.true_and, Bool.false_and, Bool.or_true, Bool.or_false, Bool.and_true, Bool.and_false]; done) | simp_all), trivial⟩, unw_take 25 rfl rfl⟩
  refine wl_m M (q_guard 13 rfl rfl rfl hg28 (q_move rfl)) rfl rfl ?_
  refine wl_m M (q_guard 13 rfl rfl rfl hg28 (q_lenR (R0.mono hJ19) Tryz.underlying31 rfl)) rfl rfl ?_
  refine wl_m M (q_guard 13 rfl rfl rfl hg28 (q_gtr rfl rfl)) rfl rfl ?_
  refine wl_m M (q_pickF rfl hg28 rfl) rfl rfl ?_
  refine wl_mv M rfl rfl ?_
  rcases Bool.eq_false_or_eq_true (decide (4 < (ws.length : Int))) with hg33 | hg33
  ·refine wl_m M (q_off 18 rfl rfl rfl hg33) rfl rfl ?_
   refine wl_m M (q_off 18 rfl rfl rfl hg33) rfl rfl ?_
   refine wl_m M (q_off 18 rfl rfl rfl hg33) rfl rfl ?_
   refine wl_m M (q_off 18 rfl rfl rfl hg33) rfl rfl ?_
   refine wl_m M (q_off 18 rfl rfl rfl hg33) rfl rfl ?_
   refine wl_m M (q_pickT rfl hg33 rfl) rfl rfl ?_
   refine wl_nil ?_
   replace M := M.less hJ19 (fun _ _ => rfl)
   exact ⟨(), M, ⟨(show some (Value.bool true) = some (Value.bool (((((!true) || (!([a].all fewB))) || (!(ws.all (fun s => !decide (20 < (s.size : Int))) && decide ((ws.length : Int) ≤ 6)))) || (decide (4 < (ws.length : Int)))) || (!([x, y].all (fun s => !decide (20 < (s.size : Int))) && decide ((([x, y] : List ByteArray).length : Int) ≤ 6))))) from by first | (simp only [hg17, hg23, hg28, hg33, Bool.true_or, Bool.false_or, Bool.true_and, Bool.false_and, Bool.or_true, Bool.or_false, Bool.and_true, Bool.and_false]; done) | simp_all), trivial⟩, unw_take 25 rfl rfl⟩
  refine wl_m M (q_guard 18 rfl rfl rfl hg33 (q_move rfl)) rfl rfl ?_
  refine wl_m M (q_guard 18 rfl rfl rfl hg33 (q_move rfl)) rfl rfl ?_
  refine wl_e (e_guard 18 rfl rfl rfl hg33 (e_bsI (E := EStr) (xs := [x, y]) M (bs_31_2 _ _) ⟨⟨rfl, rfl⟩, ⟨rfl, rfl⟩, trivial⟩ rfl rfl (by decide))) rfl rfl ?_
  rintro _ w6 ⟨u36, J36, rfl, hJ36, R36, M⟩
  have hoJ36 := M.old
  refine wl_e (e_guard 18 rfl rfl rfl hg33 (e_callC M (brief_c M.imm R36) Tryz.func10 rfl rfl)) rfl rfl ?_
  rintro _ w7 ⟨J37, hJ37, rfl, M⟩
  replace M := M.less hJ37 hoJ36
  refine wl_m M (q_guard 18 rfl rfl rfl hg33 (q_not rfl)) rfl rfl ?_
  refine wl_m M (q_pickF rfl hg33 rfl) rfl rfl ?_
  refine wl_nil ?_
  replace M := M.less (hle.trans hJ19 hJ36) (fun _ _ => rfl)
  exact ⟨(), M, ⟨(show some (Value.bool (!([x, y].all (fun s => !decide (20 < (s.size : Int))) && decide ((([x, y] : List ByteArray).length : Int) ≤ 6)))) = some (Value.bool (((((!true) || (!([a].all fewB))) || (!(ws.all (fun s => !decide (20 < (s.size : Int))) && decide ((ws.length : Int) ≤ 6)))) || (decide (4 < (ws.length : Int)))) || (!([x, y].all (fun s => !decide (20 < (s.size : Int))) && decide ((([x, y] : List ByteArray).length : Int) ≤ 6))))) from by first | (simp only [hg17, hg23, hg28, hg33, Bool.true_or, Bool.false_or, Bool.true_and, Bool.false_and, Bool.or_true, Bool.or_false, Bool.and_true, Bool.and_false]; done) | simp_all), trivial⟩, unw_take 25 rfl rfl⟩
 rintro _ jr1 w8 M
 refine wc_cond rfl (fun ht39 => ?_) (fun ht39 => ?_)
 ·refine wc_seq ?_
  refine wc_region ?_
  refine wl_e (e_callC M (awake_c M.imm hT) Tryz.func8 rfl rfl) rfl rfl ?_
  rintro _ w9 ⟨J40, hJ40, rfl, M⟩
  replace M := M.less hJ40 (fun _ _ => rfl)
  refine wl_as M rfl rfl ?_
  refine wl_nil ?_
  refine wc_ret ?_
  exact out1 rfl rfl ⟨_, _, rfl, M.grow, rfl⟩
 have hff : ([a].all fewB) = true := by revert ht39; generalize ([a].all fewB) = q; cases q <;> simp
 have hfa : fewB a = true := by simpa using hff
 have hbw : (ws.all (fun s => !decide (20 < (s.size : Int)))) = true := by revert ht39; generalize (ws.all (fun s => !decide (20 < (s.size : Int)))) = q; cases q <;> simp
 have hwl : (decide ((ws.length : Int) ≤ 6)) = true := by revert ht39; generalize (decide ((ws.length : Int) ≤ 6)) = q; cases q <;> simp
 have hwl6 := of_decide_eq_true hwl
 have hbr : ([x, y].all (fun s => !decide (20 < (s.size : Int)))) = true := by revert ht39; generalize ([x, y].all (fun s => !decide (20 < (s.size : Int)))) = q; cases q <;> simp
 obtain ⟨hsx, hsy⟩ := brief2 hbr
 refine wc_skip ?_
 refine wc_seq ?_
 refine wc_region ?_
 refine wl_m M (q_ldbA 0 Tryz.underlying25 rfl sz25 rfl rfl rfl rfl) rfl rfl ?_
 refine wl_mv M rfl rfl ?_
 refine wl_e (e_callC M (restrict_c a ws hfa (by omega) (brief_sz hbw) M.imm hT ⟨fu1, au1, rfl, Rf1, Ra1⟩ R0) Tryz.func18 rfl rfl) rfl rfl ?_
 rintro _ w10 ⟨J44, hJ44, ⟨_, t44, e44, rfl, ⟨fu44, au44, rfl, Rf44, Ra44⟩, hc44⟩, M⟩
 have hoJ44 := M.old
 refine wl_mv M rfl rfl ?_
 refine wl_m M (q_ext rfl rfl) rfl rfl ?_
 refine wl_m M (q_ext rfl rfl) rfl rfl ?_
 refine wl_e (e_alloc M z25) rfl rfl ?_
 rintro _ w11 ⟨b9, rfl, M⟩
 refine wl_e0 (e_stW 0 M rfl rfl rfl sz25 rfl rfl) rfl ?_
 intro _ w12 M
 simp only [sC0, sCS] at M
 refine wl_as M rfl rfl ?_
 refine wl_nil ?_
 refine wc_seq ?_
 refine wc_seq ?_
 refine wc_region ?_
 refine wl_mv M rfl rfl ?_
 refine wl_m M (q_neq rfl rfl) rfl rfl ?_
 refine wl_nil ?_
 refine wc_cond rfl (fun ht48 => ?_) (fun ht48 => ?_)
 ·refine wc_seq ?_
  refine wc_region ?_
  refine wl_m M (q_ldbA 1 Tryz.underlying25 rfl sz25 rfl rfl rfl rfl) rfl rfl ?_
  refine wl_mv M rfl rfl ?_
  refine wl_e (e_callC M (restrict5_c a ws (by omega) (brief_sz hbw) M.imm ⟨fu1, au1, rfl, (Rf1.mono hJ44), (Ra1.mono hJ44)⟩ (R0.mono hJ44)) Tryz.func19 rfl rfl) rfl rfl ?_
  rintro _ w13 ⟨J52, hJ52, ⟨_, t52, e52, rfl, ⟨fu52, au52, rfl, Rf52, Ra52⟩, hc52⟩, M⟩
  have hoJ52 := M.old
  refine wl_mv M rfl rfl ?_
  refine wl_m M (q_ext rfl rfl) rfl rfl ?_
  refine wl_m M (q_ext rfl rfl) rfl rfl ?_
  refine wl_e (e_alloc M z25) rfl rfl ?_
  rintro _ w14 ⟨b11, rfl, M⟩
  refine wl_e0 (e_stW 0 M rfl rfl rfl sz25 rfl rfl) rfl ?_
  intro _ w15 M
  simp only [sC0, sCS] at M
  refine wl_as M rfl rfl ?_
  refine wl_nil ?_
  refine wc_seq ?_
  refine wc_join (α := Unit) [8, 55, 56, 57, 58, 59, 60, 61, 62] (fun _ => [(8, .bool ((decide (e44 = e52)) && (decide (t44 = t52))))]) (fun _ w' => Mem w I J52 (box b11 25 [.int .i64 t52.states, .int .i64 t52.start, sv fu52, sv au52] :: box b9 25 [.int .i64 t44.states, .int .i64 t44.start, sv fu44, sv au44] :: box b4 25 [.int .i64 a.states, .int .i64 a.start, sv fu1, sv au1] :: []) w') ?_ ?_
  ·refine wc_region ?_
   refine wl_mv M rfl rfl ?_
   refine wl_mv M rfl rfl ?_
   refine wl_m M (q_eql rfl rfl) rfl rfl ?_
   refine wl_mv M rfl rfl ?_
   rcases Bool.eq_false_or_eq_true (decide (e44 = e52)) with hg58 | hg58
   ·refine wl_m M (q_guard 3 rfl rfl rfl hg58 (q_ldbA 1 Tryz.underlying25 rfl sz25 rfl rfl rfl rfl)) rfl rfl ?_
    refine wl_m M (q_guard 3 rfl rfl rfl hg58 (q_ldbA 0 Tryz.underlying25 rfl sz25 rfl rfl rfl rfl)) rfl rfl ?_
    refine wl_e (e_guard 3 rfl rfl rfl hg58 (e_callC M (same_c t44 t52 M.imm ⟨_, _, rfl, (Rf44.mono hJ52), (Ra44.mono hJ52)⟩ ⟨_, _, rfl, Rf52, Ra52⟩) Tryz.func20 rfl rfl)) rfl rfl ?_
    rintro _ w16 ⟨J61, hJ61, rfl, M⟩
    replace M := M.less hJ61 hoJ52
    refine wl_m M (q_pickT rfl hg58 rfl) rfl rfl ?_
    refine wl_as M rfl rfl ?_
    refine wl_nil ?_
    exact ⟨(), M, ⟨(show some (Value.bool (decide (t44 = t52))) = some (Value.bool ((decide (e44 = e52)) && (decide (t44 = t52)))) from by first | (simp only [hg58, Bool.true_or, Bool.false_or, Bool.true_and, Bool.false_and, Bool.or_true, Bool.or_false, Bool.and_true, Bool.and_false]; done) | simp_all), trivial⟩, unw_take 9 rfl rfl⟩
   refine wl_m M (q_off 3 rfl rfl rfl hg58) rfl rfl ?_
   refine wl_m M (q_off 3 rfl rfl rfl hg58) rfl rfl ?_
   refine wl_m M (q_off 3 rfl rfl rfl hg58) rfl rfl ?_
   refine wl_m M (q_pickF rfl hg58 rfl) rfl rfl ?_
   refine wl_as M rfl rfl ?_
   refine wl_nil ?_
   exact ⟨(), M, ⟨(show some (Value.bool false) = some (Value.bool ((decide (e44 = e52)) && (decide (t44 = t52)))) from by first | (simp only [hg58, Bool.true_or, Bool.false_or, Bool.true_and, Bool.false_and, Bool.or_true, Bool.or_false, Bool.and_true, Bool.and_false]; done) | simp_all), trivial⟩, unw_take 9 rfl rfl⟩
  rintro _ jr6 w17 M
  refine wc_ret ?_
  exact out1 rfl rfl ⟨_, _, rfl, M.grow, by have := hc44.trans hc52.symm; cases this; simp⟩
 have he44 : e44 = 0 := by simpa using ht48
 refine wc_skip ?_
 refine wc_seq ?_
 refine wc_region ?_
 refine wl_as M rfl rfl ?_
 refine wl_nil ?_
 refine wc_seq ?_
 refine wc_seq ?_
 refine wc_region ?_
 refine wl_as M rfl rfl ?_
 refine wl_nil ?_
 refine wc_block ?_
 refine wc_loop (α := Nat × Bool) [13, 14, 63, 64, 65, 66, 67, 68, 69, 70, 71, 72, 73, 74, 75, 76, 77] (fun ((k0, is0) : Nat × Bool) => [(13, .bool is0), (14, .int .i64 (k0 : Int))])
   (fun ((k0, is0) : Nat × Bool) w' => (k0 ≤ ws.length) ∧ (is0 = (ws.take k0).any fun s => decide (s = x)) ∧ Mem w I J44 (box b9 25 [.int .i64 t44.states, .int .i64 t44.start, sv fu44, sv au44] :: box b4 25 [.int .i64 a.states, .int .i64 a.start, sv fu1, sv au1] :: []) w')
   (fun ((k0, is0) : Nat × Bool) => ws.length - k0) (0, false) ⟨rfl, rfl, trivial⟩ ?_ ?_
 ·refine ⟨Nat.zero_le _, rfl, ?_⟩
  exact M
 rintro ⟨k0, is0⟩ jj0 w18 ⟨hk0, his, M⟩
 have hoJ44 := M.old
 refine wc_seq ?_
 refine wc_seq ?_
 refine wc_region ?_
 refine wl_mv M rfl rfl ?_
 refine wl_mv M rfl rfl ?_
 refine wl_m M (q_lenR (R0.mono hJ44) Tryz.underlying31 rfl) rfl rfl ?_
 refine wl_m M (q_lss rfl rfl) rfl rfl ?_
 refine wl_nil ?_
 refine wc_dec rfl (fun ht66 => ?_) (fun ht66 => ?_)
 ·obtain ⟨x0, hx0⟩ : ∃ x_, ws[k0]? = some x_ := ⟨_, List.getElem?_eq_getElem (by omega)⟩
  have hll0 := ((R0.mono hJ44)).len_le
  refine wc_skip ?_
  refine wc_seq ?_
  refine wc_block ?_
  refine wc_join (α := Unit) [13, 69, 70, 71, 72, 73, 74, 75, 76, 77] (fun _ => [(13, .bool (is0 || (decide (x0 = x))))]) (fun _ w' => Mem w I J44 (box b9 25 [.int .i64 t44.states, .int .i64 t44.start, sv fu44, sv au44] :: box b4 25 [.int .i64 a.states, .int .i64 a.start, sv fu1, sv au1] :: []) w') ?_ ?_
  ·refine wc_region ?_
   refine wl_mv M rfl rfl ?_
   refine wl_mv M rfl rfl ?_
   rcases Bool.eq_false_or_eq_true (is0) with hg70 | hg70
   ·refine wl_m M (q_off 1 rfl rfl rfl hg70) rfl rfl ?_
    refine wl_m M (q_off 1 rfl rfl rfl hg70) rfl rfl ?_
    refine wl_m M (q_off 1 rfl rfl rfl hg70) rfl rfl ?_
    refine wl_m M (q_off 1 rfl rfl rfl hg70) rfl rfl ?_
    refine wl_m M (q_off 1 rfl rfl rfl hg70) rfl rfl ?_
    refine wl_m M (q_off 1 rfl rfl rfl hg70) rfl rfl ?_
    refine wl_m M (q_pickT rfl hg70 rfl) rfl rfl ?_
    refine wl_as M rfl rfl ?_
    refine wl_nil ?_
    exact ⟨(), M, ⟨(show some (Value.bool true) = some (Value.bool (is0 || (decide (x0 = x)))) from by first | (simp only [hg70, Bool.true_or, Bool.false_or, Bool.true_and, Bool.false_and, Bool.or_true, Bool.or_false, Bool.and_true, Bool.and_false]; done) | simp_all), trivial⟩, unw_take 10 rfl rfl⟩
   refine wl_m M (q_guard 1 rfl rfl rfl hg70 (q_move rfl)) rfl rfl ?_
   refine wl_m M (q_guard 1 rfl rfl rfl hg70 (q_move rfl)) rfl rfl ?_
   refine wl_ixG (j := k0) 1 rfl rfl rfl hg70 M (R0.mono hJ44) Tryz.underlying31 rfl rfl hx0 rfl (fun b73 o73 p73 => ?_)
   refine wl_m M (q_guard 1 rfl rfl rfl hg70 (q_ldp p73 rfl rfl)) rfl rfl ?_
   refine wl_m M (q_guard 1 rfl rfl rfl hg70 (q_move rfl)) rfl rfl ?_
   refine wl_m M (q_guard 1 rfl rfl rfl hg70 (q_eqlS rfl rfl)) rfl rfl ?_
   refine wl_m M (q_pickF rfl hg70 rfl) rfl rfl ?_
   refine wl_as M rfl rfl ?_
   refine wl_nil ?_
   exact ⟨(), M, ⟨(show some (Value.bool (decide (x0 = x))) = some (Value.bool (is0 || (decide (x0 = x)))) from by first | (simp only [hg70, Bool.true_or, Bool.false_or, Bool.true_and, Bool.false_and, Bool.or_true, Bool.or_false, Bool.and_true, Bool.and_false]; done) | simp_all), trivial⟩, unw_take 10 rfl rfl⟩
  rintro _ jr11 w19 M
  refine wc_region ?_
  refine wl_mv M rfl rfl ?_
  refine wl_m M (q_add rfl rfl (IntWalk.i64_in _ (by omega))) rfl rfl ?_
  refine wl_as M rfl rfl ?_
  refine wl_nil ?_
  refine ⟨(k0 + 1, (is0 || decide (x0 = x))), ?_, ⟨(by omega), (by rw [take_snoc hx0, List.any_append, ← his]; simp), M⟩, ⟨rfl, rfl, trivial⟩, unw_look rfl (unw_hav rfl (unw_look rfl unw_base))⟩
  show ws.length - (k0 + 1) < ws.length - k0
  omega
 have hke0 : k0 = ws.length := by omega
 rw [hke0, List.take_length] at his
 refine wc_exit rfl ?_
 refine wc_seq ?_
 refine wc_join (α := Unit) [8, 78, 79, 80, 81, 82, 83, 84, 85, 86, 87, 88, 89] (fun _ => [(8, .bool ((relS t44 x y) == (is0 && (relS a x y))))]) (fun _ w' => Mem w I J44 (box b9 25 [.int .i64 t44.states, .int .i64 t44.start, sv fu44, sv au44] :: box b4 25 [.int .i64 a.states, .int .i64 a.start, sv fu1, sv au1] :: []) w') ?_ ?_
 ·refine wc_region ?_
  refine wl_m M (q_ldbA 0 Tryz.underlying25 rfl sz25 rfl rfl rfl rfl) rfl rfl ?_
  refine wl_mv M rfl rfl ?_
  refine wl_mv M rfl rfl ?_
  refine wl_e (e_callC M (relates_c t44 x y (by omega) (by omega) (Nat.le_trans (Nat.mul_le_mul (show x.size + 1 ≤ 21 by omega) (show y.size + 1 ≤ 21 by omega)) (by decide)) M.imm ⟨_, _, rfl, Rf44, Ra44⟩) Tryz.func15 rfl rfl) rfl rfl ?_
  rintro _ w20 ⟨J81, hJ81, rfl, M⟩
  replace M := M.less hJ81 hoJ44
  refine wl_mv M rfl rfl ?_
  refine wl_mv M rfl rfl ?_
  rcases Bool.eq_false_or_eq_true (is0) with hg83 | hg83
  ·refine wl_m M (q_guard 5 rfl rfl rfl hg83 (q_ldbA 1 Tryz.underlying25 rfl sz25 rfl rfl rfl rfl)) rfl rfl ?_
   refine wl_m M (q_guard 5 rfl rfl rfl hg83 (q_move rfl)) rfl rfl ?_
   refine wl_m M (q_guard 5 rfl rfl rfl hg83 (q_move rfl)) rfl rfl ?_
   refine wl_e (e_guard 5 rfl rfl rfl hg83 (e_callC M (relates_c a x y (by omega) (by omega) (Nat.le_trans (Nat.mul_le_mul (show x.size + 1 ≤ 21 by omega) (show y.size + 1 ≤ 21 by omega)) (by decide)) M.imm ⟨fu1, au1, rfl, (Rf1.mono hJ44), (Ra1.mono hJ44)⟩) Tryz.func15 rfl rfl)) rfl rfl ?_
   rintro _ w21 ⟨J87, hJ87, rfl, M⟩
   replace M := M.less hJ87 hoJ44
   refine wl_m M (q_pickT rfl hg83 rfl) rfl rfl ?_
   refine wl_m M (q_eqlB Tryz.underlying4 rfl rfl) rfl rfl ?_
   refine wl_as M rfl rfl ?_
   refine wl_nil ?_
   exact ⟨(), M, ⟨(show some (Value.bool ((relS t44 x y) == (relS a x y))) = some (Value.bool ((relS t44 x y) == (is0 && (relS a x y)))) from by first | (simp only [hg83, Bool.true_or, Bool.false_or, Bool.true_and, Bool.false_and, Bool.or_true, Bool.or_false, Bool.and_true, Bool.and_false]; done) | simp_all), trivial⟩, unw_take 13 rfl rfl⟩
  refine wl_m M (q_off 5 rfl rfl rfl hg83) rfl rfl ?_
  refine wl_m M (q_off 5 rfl rfl rfl hg83) rfl rfl ?_
  refine wl_m M (q_off 5 rfl rfl rfl hg83) rfl rfl ?_
  refine wl_m M (q_off 5 rfl rfl rfl hg83) rfl rfl ?_
  refine wl_m M (q_pickF rfl hg83 rfl) rfl rfl ?_
  refine wl_m M (q_eqlB Tryz.underlying4 rfl rfl) rfl rfl ?_
  refine wl_as M rfl rfl ?_
  refine wl_nil ?_
  exact ⟨(), M, ⟨(show some (Value.bool ((relS t44 x y) == false)) = some (Value.bool ((relS t44 x y) == (is0 && (relS a x y)))) from by first | (simp only [hg83, Bool.true_or, Bool.false_or, Bool.true_and, Bool.false_and, Bool.or_true, Bool.or_false, Bool.and_true, Bool.and_false]; done) | simp_all), trivial⟩, unw_take 13 rfl rfl⟩
 rintro _ jr12 w22 M
 refine wc_ret ?_
 exact out1 rfl rfl ⟨_, _, rfl, M.grow, by rw [restr_law hc44 he44, ← his]; simp⟩
end Go.Proofs.YtmjieefhjmiagaaGreatDoor.G
