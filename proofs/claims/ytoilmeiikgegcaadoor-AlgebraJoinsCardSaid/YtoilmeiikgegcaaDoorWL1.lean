/- Walks of the program's functions. -/
import Derived.Test.YtoilmeiikgegcaaDoorWLb
import Derived.Test.YtoilmeiikgegcaaDoorWSe
set_option linter.all false
namespace Go.Proofs.YtoilmeiikgegcaaDoor.G
open Go Go.RowKit
theorem lawJoins_c (a b : Tra) {v1 v2 : Value} {I : Heap} {w : World} (hI : hle I (hp w)) (hT : Tabs I) (R1 : a.rd I v1) (R2 : b.rd I v2) : Calls A 10 #[v1, v2] w (Ret w I fun r _ => r = .bool true) := by
 obtain ⟨fu1, au1, rfl, Rf1, Ra1⟩ := R1
 obtain ⟨fu2, au2, rfl, Rf2, Ra2⟩ := R2
 have M := Mem.start hI
 refine enter Tryd.func10 rfl 57 Tryd.ntmps10 [_, _] rfl ?_
 refine wc_seq ?_
 refine wc_region ?_
 refine wl_e (e_box M rfl) rfl rfl ?_
 rintro _ w1 ⟨b2, rfl, M⟩
 refine wl_e (e_box M rfl) rfl rfl ?_
 rintro _ w2 ⟨b3, rfl, M⟩
 refine wl_as M rfl rfl ?_
 refine wl_nil ?_
 refine wc_seq ?_
 refine wc_seq ?_
 refine wc_region ?_
 refine wl_e (e_callC M (awake4_c M.imm hT) Tryd.func14 rfl rfl) rfl rfl ?_
 rintro _ w3 ⟨J13, hJ13, rfl, M⟩
 replace M := M.less hJ13 (fun _ _ => rfl)
 refine wl_m M (q_not rfl) rfl rfl ?_
 refine wl_nil ?_
 refine wc_cond rfl (fun ht14 => ?_) (fun ht14 => ?_)
 ·refine wc_seq ?_
  refine wc_region ?_
  refine wl_as M rfl rfl ?_
  refine wl_nil ?_
  refine wc_ret ?_
  exact absurd ht14 (by decide)
 refine wc_skip ?_
 refine wc_seq ?_
 refine wc_seq ?_
 refine wc_join (α := Unit) [15, 16, 17, 18, 19, 20] (fun _ => [(20, .bool ((largeB a) || (largeB b)))]) (fun _ w' => Mem w I I (box b3 29 [.int .i64 b.states, .int .i64 b.start, sv fu2, sv au2] :: box b2 29 [.int .i64 a.states, .int .i64 a.start, sv fu1, sv au1] :: []) w') ?_ ?_
 ·refine wc_region ?_
  refine wl_m M (q_ldbA 1 Tryd.underlying29 rfl sz29 rfl rfl rfl rfl) rfl rfl ?_
  refine wl_e (e_callC M (large4_c a M.imm ⟨_, _, rfl, Rf1, Ra1⟩) Tryd.func24 rfl rfl) rfl rfl ?_
  rintro _ w4 ⟨J16, hJ16, rfl, M⟩
  replace M := M.less hJ16 (fun _ _ => rfl)
  refine wl_mv M rfl rfl ?_
  rcases Bool.eq_false_or_eq_true (largeB a) with hg17 | hg17
  ·refine wl_m M (q_off 2 rfl rfl rfl hg17) rfl rfl ?_
   refine wl_m M (q_off 2 rfl rfl rfl hg17) rfl rfl ?_
   refine wl_m M (q_pickT rfl hg17 rfl) rfl rfl ?_
   refine wl_nil ?_
   exact ⟨(), M, ⟨(show some (Value.bool true) = some (Value.bool ((largeB a) || (largeB b))) from by first | (simp only [hg17, Bool.true_or, Bool.false_or, Bool.true_and, Bool.false_and, Bool.or_true, Bool.or_false, Bool.and_true, Bool.and_false]; done) | simp_all), trivial⟩, unw_take 6 rfl rfl⟩
  refine wl_m M (q_guard 2 rfl rfl rfl hg17 (q_ldbA 0 Tryd.underlying29 rfl sz29 rfl rfl rfl rfl)) rfl rfl ?_
  refine wl_e (e_guard 2 rfl rfl rfl hg17 (e_callC M (large4_c b M.imm ⟨_, _, rfl, Rf2, Ra2⟩) Tryd.func24 rfl rfl)) rfl rfl ?_
  rintro _ w5 ⟨J19, hJ19, rfl, M⟩
  replace M := M.less hJ19 (fun _ _ => rfl)
  refine wl_m M (q_pickF rfl hg17 rfl) rfl rfl ?_
  refine wl_nil ?_
  exact ⟨(), M, ⟨(show some (Value.bool (largeB b)) = some (Value.bool ((largeB a) || (largeB b))) from by first | (simp only [hg17, Bool.true_or, Bool.false_or, Bool.true_and, Bool.false_and, Bool.or_true, Bool.or_false, Bool.and_true, Bool.and_false]; done) | simp_all), trivial⟩, unw_take 6 rfl rfl⟩
 rintro _ jr3 w6 M
 refine wc_cond rfl (fun ht20 => ?_) (fun ht20 => ?_)
 ·refine wc_seq ?_
  refine wc_region ?_
  refine wl_as M rfl rfl ?_
  refine wl_nil ?_
  refine wc_ret ?_
  exact out1 rfl rfl ⟨_, _, rfl, M.grow, rfl⟩
 refine wc_skip ?_
 refine wc_seq ?_
 refine wc_region ?_
 refine wl_m M (q_ldbA 1 Tryd.underlying29 rfl sz29 rfl rfl rfl rfl) rfl rfl ?_
 refine wl_m M (q_ldbA 0 Tryd.underlying29 rfl sz29 rfl rfl rfl rfl) rfl rfl ?_
 refine wl_e (e_callC M (union_c a b M.imm ⟨_, _, rfl, Rf1, Ra1⟩ ⟨_, _, rfl, Rf2, Ra2⟩) Tryd.func22 rfl rfl) rfl rfl ?_
 rintro _ w7 ⟨J24, hJ24, ⟨_, t24, e24, rfl, ⟨fu24, au24, rfl, Rf24, Ra24⟩, hc24⟩, M⟩
 have hoJ24 := M.old
 refine wl_mv M rfl rfl ?_
 refine wl_m M (q_ext rfl rfl) rfl rfl ?_
 refine wl_m M (q_ext rfl rfl) rfl rfl ?_
 refine wl_e (e_alloc M z29) rfl rfl ?_
 rintro _ w8 ⟨b5, rfl, M⟩
 refine wl_e0 (e_stW 0 M rfl rfl rfl sz29 rfl rfl) rfl ?_
 intro _ w9 M
 simp only [sC0, sCS] at M
 refine wl_as M rfl rfl ?_
 refine wl_nil ?_
 refine wc_seq ?_
 refine wc_region ?_
 refine wl_m M (q_ldbA 2 Tryd.underlying29 rfl sz29 rfl rfl rfl rfl) rfl rfl ?_
 refine wl_m M (q_ldbA 1 Tryd.underlying29 rfl sz29 rfl rfl rfl rfl) rfl rfl ?_
 refine wl_e (e_callC M (union4_c a b M.imm ⟨_, _, rfl, (Rf1.mono hJ24), (Ra1.mono hJ24)⟩ ⟨_, _, rfl, (Rf2.mono hJ24), (Ra2.mono hJ24)⟩) Tryd.func35 rfl rfl) rfl rfl ?_
 rintro _ w10 ⟨J30, hJ30, ⟨_, t30, e30, rfl, ⟨fu30, au30, rfl, Rf30, Ra30⟩, hc30⟩, M⟩
 have hoJ30 := M.old
 refine wl_mv M rfl rfl ?_
 refine wl_m M (q_ext rfl rfl) rfl rfl ?_
 refine wl_m M (q_ext rfl rfl) rfl rfl ?_
 refine wl_e (e_alloc M z29) rfl rfl ?_
 rintro _ w11 ⟨b7, rfl, M⟩
 refine wl_e0 (e_stW 0 M rfl rfl rfl sz29 rfl rfl) rfl ?_
 intro _ w12 M
 simp only [sC0, sCS] at M
 refine wl_as M rfl rfl ?_
 refine wl_nil ?_
 refine wc_seq ?_
 refine wc_region ?_
 refine wl_m M (q_ldbA 3 Tryd.underlying29 rfl sz29 rfl rfl rfl rfl) rfl rfl ?_
 refine wl_m M (q_ldbA 2 Tryd.underlying29 rfl sz29 rfl rfl rfl rfl) rfl rfl ?_
 refine wl_e (e_callC M (concat_c a b M.imm ⟨_, _, rfl, ((Rf1.mono hJ24).mono hJ30), ((Ra1.mono hJ24).mono hJ30)⟩ ⟨_, _, rfl, ((Rf2.mono hJ24).mono hJ30), ((Ra2.mono hJ24).mono hJ30)⟩) Tryd.func36 rfl rfl) rfl rfl ?_
 rintro _ w13 ⟨J36, hJ36, ⟨_, t36, e36, rfl, ⟨fu36, au36, rfl, Rf36, Ra36⟩, hc36⟩, M⟩
 have hoJ36 := M.old
 refine wl_mv M rfl rfl ?_
 refine wl_m M (q_ext rfl rfl) rfl rfl ?_
 refine wl_m M (q_ext rfl rfl) rfl rfl ?_
 refine wl_e (e_alloc M z29) rfl rfl ?_
 rintro _ w14 ⟨b9, rfl, M⟩
 refine wl_e0 (e_stW 0 M rfl rfl rfl sz29 rfl rfl) rfl ?_
 intro _ w15 M
 simp only [sC0, sCS] at M
 refine wl_as M rfl rfl ?_
 refine wl_nil ?_
 refine wc_seq ?_
 refine wc_region ?_
 refine wl_m M (q_ldbA 4 Tryd.underlying29 rfl sz29 rfl rfl rfl rfl) rfl rfl ?_
 refine wl_m M (q_ldbA 3 Tryd.underlying29 rfl sz29 rfl rfl rfl rfl) rfl rfl ?_
 refine wl_e (e_callC M (concat4_c a b M.imm ⟨_, _, rfl, (((Rf1.mono hJ24).mono hJ30).mono hJ36), (((Ra1.mono hJ24).mono hJ30).mono hJ36)⟩ ⟨_, _, rfl, (((Rf2.mono hJ24).mono hJ30).mono hJ36), (((Ra2.mono hJ24).mono hJ30).mono hJ36)⟩) Tryd.func37 rfl rfl) rfl rfl ?_
 rintro _ w16 ⟨J42, hJ42, ⟨_, t42, e42, rfl, ⟨fu42, au42, rfl, Rf42, Ra42⟩, hc42⟩, M⟩
 have hoJ42 := M.old
 refine wl_mv M rfl rfl ?_
 refine wl_m M (q_ext rfl rfl) rfl rfl ?_
 refine wl_m M (q_ext rfl rfl) rfl rfl ?_
 refine wl_e (e_alloc M z29) rfl rfl ?_
 rintro _ w17 ⟨b11, rfl, M⟩
 refine wl_e0 (e_stW 0 M rfl rfl rfl sz29 rfl rfl) rfl ?_
 intro _ w18 M
 simp only [sC0, sCS] at M
 refine wl_as M rfl rfl ?_
 refine wl_nil ?_
 refine wc_seq ?_
 refine wc_join (α := Unit) [4, 45, 46, 47, 48, 49, 50, 51, 52, 53, 54, 55, 56] (fun _ => [(4, .bool ((decide ((t24, e24) = (t30, e30))) && (decide ((t36, e36) = (t42, e42)))))]) (fun _ w' => Mem w I J42 (box b11 29 [.int .i64 t42.states, .int .i64 t42.start, sv fu42, sv au42] :: box b9 29 [.int .i64 t36.states, .int .i64 t36.start, sv fu36, sv au36] :: box b7 29 [.int .i64 t30.states, .int .i64 t30.start, sv fu30, sv au30] :: box b5 29 [.int .i64 t24.states, .int .i64 t24.start, sv fu24, sv au24] :: box b3 29 [.int .i64 b.states, .int .i64 b.start, sv fu2, sv au2] :: box b2 29 [.int .i64 a.states, .int .i64 a.start, sv fu1, sv au1] :: []) w') ?_ ?_
 ·refine wc_region ?_
  refine wl_m M (q_ldbA 3 Tryd.underlying29 rfl sz29 rfl rfl rfl rfl) rfl rfl ?_
  refine wl_mv M rfl rfl ?_
  refine wl_m M (q_ldbA 2 Tryd.underlying29 rfl sz29 rfl rfl rfl rfl) rfl rfl ?_
  refine wl_mv M rfl rfl ?_
  refine wl_e (e_callC M (agree4_c t24 t30 e24 e30 M.imm ⟨_, _, rfl, (((Rf24.mono hJ30).mono hJ36).mono hJ42), (((Ra24.mono hJ30).mono hJ36).mono hJ42)⟩ ⟨_, _, rfl, ((Rf30.mono hJ36).mono hJ42), ((Ra30.mono hJ36).mono hJ42)⟩) Tryd.func19 rfl rfl) rfl rfl ?_
  rintro _ w19 ⟨J49, hJ49, rfl, M⟩
  replace M := M.less hJ49 hoJ42
  refine wl_mv M rfl rfl ?_
  rcases Bool.eq_false_or_eq_true (decide ((t24, e24) = (t30, e30))) with hg50 | hg50
  ·refine wl_m M (q_guard 5 rfl rfl rfl hg50 (q_ldbA 1 Tryd.underlying29 rfl sz29 rfl rfl rfl rfl)) rfl rfl ?_
   refine wl_m M (q_guard 5 rfl rfl rfl hg50 (q_move rfl)) rfl rfl ?_
   refine wl_m M (q_guard 5 rfl rfl rfl hg50 (q_ldbA 0 Tryd.underlying29 rfl sz29 rfl rfl rfl rfl)) rfl rfl ?_
   refine wl_m M (q_guard 5 rfl rfl rfl hg50 (q_move rfl)) rfl rfl ?_
   refine wl_e (e_guard 5 rfl rfl rfl hg50 (e_callC M (agree4_c t36 t42 e36 e42 M.imm ⟨_, _, rfl, (Rf36.mono hJ42), (Ra36.mono hJ42)⟩ ⟨_, _, rfl, Rf42, Ra42⟩) Tryd.func19 rfl rfl)) rfl rfl ?_
   rintro _ w20 ⟨J55, hJ55, rfl, M⟩
   replace M := M.less hJ55 hoJ42
   refine wl_m M (q_pickT rfl hg50 rfl) rfl rfl ?_
   refine wl_as M rfl rfl ?_
   refine wl_nil ?_
   exact ⟨(), M, ⟨(show some (Value.bool (decide ((t36, e36) = (t42, e42)))) = some (Value.bool ((decide ((t24, e24) = (t30, e30))) && (decide ((t36, e36) = (t42, e42))))) from by first | (simp only [hg50, Bool.true_or, Bool.false_or, Bool.true_and, Bool.false_and, Bool.or_true, Bool.or_false, Bool.and_true, Bool.and_false]; done) | simp_all), trivial⟩, unw_take 13 rfl rfl⟩
  refine wl_m M (q_off 5 rfl rfl rfl hg50) rfl rfl ?_
  refine wl_m M (q_off 5 rfl rfl rfl hg50) rfl rfl ?_
  refine wl_m M (q_off 5 rfl rfl rfl hg50) rfl rfl ?_
  refine wl_m M (q_off 5 rfl rfl rfl hg50) rfl rfl ?_
  refine wl_m M (q_off 5 rfl rfl rfl hg50) rfl rfl ?_
  refine wl_m M (q_pickF rfl hg50 rfl) rfl rfl ?_
  refine wl_as M rfl rfl ?_
  refine wl_nil ?_
  exact ⟨(), M, ⟨(show some (Value.bool false) = some (Value.bool ((decide ((t24, e24) = (t30, e30))) && (decide ((t36, e36) = (t42, e42))))) from by first | (simp only [hg50, Bool.true_or, Bool.false_or, Bool.true_and, Bool.false_and, Bool.or_true, Bool.or_false, Bool.and_true, Bool.and_false]; done) | simp_all), trivial⟩, unw_take 13 rfl rfl⟩
 rintro _ jr9 w21 M
 refine wc_ret ?_
 exact out1 rfl rfl ⟨_, _, rfl, M.grow, by rw [decide_eq_true (hc24.trans hc30.symm), decide_eq_true (hc36.trans hc42.symm)]; rfl⟩
end Go.Proofs.YtoilmeiikgegcaaDoor.G
