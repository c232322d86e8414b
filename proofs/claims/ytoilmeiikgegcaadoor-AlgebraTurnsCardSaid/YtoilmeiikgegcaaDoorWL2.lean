/- Walks of the program's functions. -/
import Derived.Test.YtoilmeiikgegcaaDoorWLb
import Derived.Test.YtoilmeiikgegcaaDoorWSe
set_option linter.all false
namespace Go.Proofs.YtoilmeiikgegcaaDoor.G
open Go Go.RowKit
theorem lawTurns_c (a : Tra) {v1 : Value} {I : Heap} {w : World} (hI : hle I (hp w)) (hT : Tabs I) (R1 : a.rd I v1) : Calls A 8 #[v1] w (Ret w I fun r _ => r = .bool true) := by
 obtain ⟨fu1, au1, rfl, Rf1, Ra1⟩ := R1
 have M := Mem.start hI
 refine enter Tryd.func8 rfl 47 Tryd.ntmps8 [_] rfl ?_
 refine wc_seq ?_
 refine wc_region ?_
 refine wl_e (e_box M rfl) rfl rfl ?_
 rintro _ w1 ⟨b1, rfl, M⟩
 refine wl_as M rfl rfl ?_
 refine wl_nil ?_
 refine wc_seq ?_
 refine wc_seq ?_
 refine wc_region ?_
 refine wl_e (e_callC M (awake4_c M.imm hT) Tryd.func14 rfl rfl) rfl rfl ?_
 rintro _ w2 ⟨J11, hJ11, rfl, M⟩
 replace M := M.less hJ11 (fun _ _ => rfl)
 refine wl_m M (q_not rfl) rfl rfl ?_
 refine wl_nil ?_
 refine wc_cond rfl (fun ht12 => ?_) (fun ht12 => ?_)
 ·refine wc_seq ?_
  refine wc_region ?_
  refine wl_as M rfl rfl ?_
  refine wl_nil ?_
  refine wc_ret ?_
  exact absurd ht12 (by decide)
 refine wc_skip ?_
 refine wc_seq ?_
 refine wc_seq ?_
 refine wc_region ?_
 refine wl_m M (q_ldbA 0 Tryd.underlying29 rfl sz29 rfl rfl rfl rfl) rfl rfl ?_
 refine wl_e (e_callC M (large4_c a M.imm ⟨_, _, rfl, Rf1, Ra1⟩) Tryd.func24 rfl rfl) rfl rfl ?_
 rintro _ w3 ⟨J14, hJ14, rfl, M⟩
 replace M := M.less hJ14 (fun _ _ => rfl)
 refine wl_nil ?_
 refine wc_cond rfl (fun ht14 => ?_) (fun ht14 => ?_)
 ·refine wc_seq ?_
  refine wc_region ?_
  refine wl_as M rfl rfl ?_
  refine wl_nil ?_
  refine wc_ret ?_
  exact out1 rfl rfl ⟨_, _, rfl, M.grow, rfl⟩
 refine wc_skip ?_
 refine wc_seq ?_
 refine wc_region ?_
 refine wl_m M (q_ldbA 0 Tryd.underlying29 rfl sz29 rfl rfl rfl rfl) rfl rfl ?_
 refine wl_e (e_callC M (star_c a M.imm ⟨_, _, rfl, Rf1, Ra1⟩) Tryd.func23 rfl rfl) rfl rfl ?_
 rintro _ w4 ⟨J17, hJ17, ⟨_, t17, e17, rfl, ⟨fu17, au17, rfl, Rf17, Ra17⟩, hc17⟩, M⟩
 have hoJ17 := M.old
 refine wl_mv M rfl rfl ?_
 refine wl_m M (q_ext rfl rfl) rfl rfl ?_
 refine wl_m M (q_ext rfl rfl) rfl rfl ?_
 refine wl_e (e_alloc M z29) rfl rfl ?_
 rintro _ w5 ⟨b3, rfl, M⟩
 refine wl_e0 (e_stW 0 M rfl rfl rfl sz29 rfl rfl) rfl ?_
 intro _ w6 M
 simp only [sC0, sCS] at M
 refine wl_as M rfl rfl ?_
 refine wl_nil ?_
 refine wc_seq ?_
 refine wc_region ?_
 refine wl_m M (q_ldbA 1 Tryd.underlying29 rfl sz29 rfl rfl rfl rfl) rfl rfl ?_
 refine wl_e (e_callC M (star4_c a M.imm ⟨_, _, rfl, (Rf1.mono hJ17), (Ra1.mono hJ17)⟩) Tryd.func31 rfl rfl) rfl rfl ?_
 rintro _ w7 ⟨J22, hJ22, ⟨_, t22, e22, rfl, ⟨fu22, au22, rfl, Rf22, Ra22⟩, hc22⟩, M⟩
 have hoJ22 := M.old
 refine wl_mv M rfl rfl ?_
 refine wl_m M (q_ext rfl rfl) rfl rfl ?_
 refine wl_m M (q_ext rfl rfl) rfl rfl ?_
 refine wl_e (e_alloc M z29) rfl rfl ?_
 rintro _ w8 ⟨b5, rfl, M⟩
 refine wl_e0 (e_stW 0 M rfl rfl rfl sz29 rfl rfl) rfl ?_
 intro _ w9 M
 simp only [sC0, sCS] at M
 refine wl_as M rfl rfl ?_
 refine wl_nil ?_
 refine wc_seq ?_
 refine wc_region ?_
 refine wl_m M (q_ldbA 2 Tryd.underlying29 rfl sz29 rfl rfl rfl rfl) rfl rfl ?_
 refine wl_e (e_callC M (reverse_c a M.imm ⟨_, _, rfl, ((Rf1.mono hJ17).mono hJ22), ((Ra1.mono hJ17).mono hJ22)⟩) Tryd.func32 rfl rfl) rfl rfl ?_
 rintro _ w10 ⟨J27, hJ27, ⟨_, t27, e27, rfl, ⟨fu27, au27, rfl, Rf27, Ra27⟩, hc27⟩, M⟩
 have hoJ27 := M.old
 refine wl_mv M rfl rfl ?_
 refine wl_m M (q_ext rfl rfl) rfl rfl ?_
 refine wl_m M (q_ext rfl rfl) rfl rfl ?_
 refine wl_e (e_alloc M z29) rfl rfl ?_
 rintro _ w11 ⟨b7, rfl, M⟩
 refine wl_e0 (e_stW 0 M rfl rfl rfl sz29 rfl rfl) rfl ?_
 intro _ w12 M
 simp only [sC0, sCS] at M
 refine wl_as M rfl rfl ?_
 refine wl_nil ?_
 refine wc_seq ?_
 refine wc_region ?_
 refine wl_m M (q_ldbA 3 Tryd.underlying29 rfl sz29 rfl rfl rfl rfl) rfl rfl ?_
 refine wl_e (e_callC M (reverse4_c a M.imm ⟨_, _, rfl, (((Rf1.mono hJ17).mono hJ22).mono hJ27), (((Ra1.mono hJ17).mono hJ22).mono hJ27)⟩) Tryd.func33 rfl rfl) rfl rfl ?_
 rintro _ w13 ⟨J32, hJ32, ⟨_, t32, e32, rfl, ⟨fu32, au32, rfl, Rf32, Ra32⟩, hc32⟩, M⟩
 have hoJ32 := M.old
 refine wl_mv M rfl rfl ?_
 refine wl_m M (q_ext rfl rfl) rfl rfl ?_
 refine wl_m M (q_ext rfl rfl) rfl rfl ?_
 refine wl_e (e_alloc M z29) rfl rfl ?_
 rintro _ w14 ⟨b9, rfl, M⟩
 refine wl_e0 (e_stW 0 M rfl rfl rfl sz29 rfl rfl) rfl ?_
 intro _ w15 M
 simp only [sC0, sCS] at M
 refine wl_as M rfl rfl ?_
 refine wl_nil ?_
 refine wc_seq ?_
 refine wc_join (α := Unit) [2, 35, 36, 37, 38, 39, 40, 41, 42, 43, 44, 45, 46] (fun _ => [(2, .bool ((decide ((t17, e17) = (t22, e22))) && (decide ((t27, e27) = (t32, e32)))))]) (fun _ w' => Mem w I J32 (box b9 29 [.int .i64 t32.states, .int .i64 t32.start, sv fu32, sv au32] :: box b7 29 [.int .i64 t27.states, .int .i64 t27.start, sv fu27, sv au27] :: box b5 29 [.int .i64 t22.states, .int .i64 t22.start, sv fu22, sv au22] :: box b3 29 [.int .i64 t17.states, .int .i64 t17.start, sv fu17, sv au17] :: box b1 29 [.int .i64 a.states, .int .i64 a.start, sv fu1, sv au1] :: []) w') ?_ ?_
 ·refine wc_region ?_
  refine wl_m M (q_ldbA 3 Tryd.underlying29 rfl sz29 rfl rfl rfl rfl) rfl rfl ?_
  refine wl_mv M rfl rfl ?_
  refine wl_m M (q_ldbA 2 Tryd.underlying29 rfl sz29 rfl rfl rfl rfl) rfl rfl ?_
  refine wl_mv M rfl rfl ?_
  refine wl_e (e_callC M (agree4_c t17 t22 e17 e22 M.imm ⟨_, _, rfl, (((Rf17.mono hJ22).mono hJ27).mono hJ32), (((Ra17.mono hJ22).mono hJ27).mono hJ32)⟩ ⟨_, _, rfl, ((Rf22.mono hJ27).mono hJ32), ((Ra22.mono hJ27).mono hJ32)⟩) Tryd.func19 rfl rfl) rfl rfl ?_
  rintro _ w16 ⟨J39, hJ39, rfl, M⟩
  replace M := M.less hJ39 hoJ32
  refine wl_mv M rfl rfl ?_
  rcases Bool.eq_false_or_eq_true (decide ((t17, e17) = (t22, e22))) with hg40 | hg40
  ·refine wl_m M (q_guard 5 rfl rfl rfl hg40 (q_ldbA 1 Tryd.underlying29 rfl sz29 rfl rfl rfl rfl)) rfl rfl ?_
   refine wl_m M (q_guard 5 rfl rfl rfl hg40 (q_move rfl)) rfl rfl ?_
   refine wl_m M (q_guard 5 rfl rfl rfl hg40 (q_ldbA 0 Tryd.underlying29 rfl sz29 rfl rfl rfl rfl)) rfl rfl ?_
   refine wl_m M (q_guard 5 rfl rfl rfl hg40 (q_move rfl)) rfl rfl ?_
   refine wl_e (e_guard 5 rfl rfl rfl hg40 (e_callC M (agree4_c t27 t32 e27 e32 M.imm ⟨_, _, rfl, (Rf27.mono hJ32), (Ra27.mono hJ32)⟩ ⟨_, _, rfl, Rf32, Ra32⟩) Tryd.func19 rfl rfl)) rfl rfl ?_
   rintro _ w17 ⟨J45, hJ45, rfl, M⟩
   replace M := M.less hJ45 hoJ32
   refine wl_m M (q_pickT rfl hg40 rfl) rfl rfl ?_
   refine wl_as M rfl rfl ?_
   refine wl_nil ?_
   exact ⟨(), M, ⟨(show some (Value.bool (decide ((t27, e27) = (t32, e32)))) = some (Value.bool ((decide ((t17, e17) = (t22, e22))) && (decide ((t27, e27) = (t32, e32))))) from by first | (simp only [hg40, Bool.true_or, Bool.false_or, Bool.true_and, Bool.false_and, Bool.or_true, Bool.or_false, Bool.and_true, Bool.and_false]; done) | simp_all), trivial⟩, unw_take 13 rfl rfl⟩
  refine wl_m M (q_off 5 rfl rfl rfl hg40) rfl rfl ?_
  refine wl_m M (q_off 5 rfl rfl rfl hg40) rfl rfl ?_
  refine wl_m M (q_off 5 rfl rfl rfl hg40) rfl rfl ?_
  refine wl_m M (q_off 5 rfl rfl rfl hg40) rfl rfl ?_
  refine wl_m M (q_off 5 rfl rfl rfl hg40) rfl rfl ?_
  refine wl_m M (q_pickF rfl hg40 rfl) rfl rfl ?_
  refine wl_as M rfl rfl ?_
  refine wl_nil ?_
  exact ⟨(), M, ⟨(show some (Value.bool false) = some (Value.bool ((decide ((t17, e17) = (t22, e22))) && (decide ((t27, e27) = (t32, e32))))) from by first | (simp only [hg40, Bool.true_or, Bool.false_or, Bool.true_and, Bool.false_and, Bool.or_true, Bool.or_false, Bool.and_true, Bool.and_false]; done) | simp_all), trivial⟩, unw_take 13 rfl rfl⟩
 rintro _ jr9 w18 M
 refine wc_ret ?_
 exact out1 rfl rfl ⟨_, _, rfl, M.grow, by rw [decide_eq_true (hc17.trans hc22.symm), decide_eq_true (hc27.trans hc32.symm)]; rfl⟩
end Go.Proofs.YtoilmeiikgegcaaDoor.G
