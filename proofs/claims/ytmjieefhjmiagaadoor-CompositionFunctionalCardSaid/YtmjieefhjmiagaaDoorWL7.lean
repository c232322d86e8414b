/- Walks of the program's functions. -/
import Derived.Test.YtmjieefhjmiagaaDoorWFg
import Derived.Test.YtmjieefhjmiagaaDoorWFd
import Derived.Test.YtmjieefhjmiagaaDoorWL0
import Derived.Test.YtmjieefhjmiagaaDoorWX
set_option linter.all false
namespace Go.Proofs.YtmjieefhjmiagaaDoor.G
open Go Go.RowKit
theorem lawFunctional_c (a : Tra) (ws : List ByteArray) {v1 : Value} {u : SV} {I : Heap} {w : World} (hI : hle I (hp w)) (hT : Tabs I) (R1 : a.rd I v1) (R0 : rdSl EStr I (sv u) ws) : Calls A 8 #[v1, sv u] w (Ret w I fun r _ => r = .bool true) := by
 obtain ⟨fu1, au1, rfl, Rf1, Ra1⟩ := R1
 have hll0 := R0.len_le
 have M := Mem.start hI
 refine enter Tryd.func8 rfl 48 Tryd.ntmps8 [_, _] rfl ?_
 refine wc_seq ?_
 refine wc_region ?_
 refine wl_e (e_box M rfl) rfl rfl ?_
 rintro _ w1 ⟨b2, rfl, M⟩
 refine wl_as M rfl rfl ?_
 refine wl_nil ?_
 refine wc_seq ?_
 refine wc_seq ?_
 refine wc_join (α := Unit) [9, 10, 11, 12, 13, 14, 15, 16, 17, 18, 19, 20, 21, 22, 23, 24, 25, 26] (fun _ => [(26, .bool ((((!true) || (!([a].all fewB))) || (!(ws.all (fun s => !decide (20 < (s.size : Int))) && decide ((ws.length : Int) ≤ 6)))) || (decide (4 < (ws.length : Int)))))]) (fun _ w' => Mem w I I (box b2 25 [.int .i64 a.states, .int .i64 a.start, sv fu1, sv au1] :: []) w') ?_ ?_
 ·refine wc_region ?_
  refine wl_e (e_callC M (awake_c M.imm hT) Tryd.func10 rfl rfl) rfl rfl ?_
  rintro _ w2 ⟨J9, hJ9, rfl, M⟩
  replace M := M.less hJ9 (fun _ _ => rfl)
  refine wl_m M (q_not rfl) rfl rfl ?_
  refine wl_mv M rfl rfl ?_
  rcases Bool.eq_false_or_eq_true (!true) with hg11 | hg11
  ·refine wl_m M (q_off 2 rfl rfl rfl hg11) rfl rfl ?_
   refine wl_m M (q_off 2 rfl rfl rfl hg11) rfl rfl ?_
   refine wl_m M (q_off 2 rfl rfl rfl hg11) rfl rfl ?_
   refine wl_m M (q_off 2 rfl rfl rfl hg11) rfl rfl ?_
   refine wl_m M (q_pickT rfl hg11 rfl) rfl rfl ?_
   refine wl_mv M rfl rfl ?_
   refine wl_m M (q_off 8 rfl rfl rfl rfl) rfl rfl ?_
   refine wl_m M (q_off 8 rfl rfl rfl rfl) rfl rfl ?_
   refine wl_m M (q_off 8 rfl rfl rfl rfl) rfl rfl ?_
   refine wl_m M (q_pickT rfl rfl rfl) rfl rfl ?_
   refine wl_mv M rfl rfl ?_
   refine wl_m M (q_off 13 rfl rfl rfl rfl) rfl rfl ?_
   refine wl_m M (q_off 13 rfl rfl rfl rfl) rfl rfl ?_
   refine wl_m M (q_off 13 rfl rfl rfl rfl) rfl rfl ?_
   refine wl_m M (q_pickT rfl rfl rfl) rfl rfl ?_
   refine wl_nil ?_
   exact ⟨(), M, ⟨(show some (Value.bool true) = some (Value.bool ((((!true) || (!([a].all fewB))) || (!(ws.all (fun s => !decide (20 < (s.size : Int))) && decide ((ws.length : Int) ≤ 6)))) || (decide (4 < (ws.length : Int))))) from by first | (simp only [hg11, Bool.true_or, Bool.false_or, Bool.true_and, Bool.false_and, Bool.or_true, Bool.or_false, Bool.and_true, Bool.and_false]; done) | (simp_all; done) | (simp_all; omega)), trivial⟩, unw_take 18 rfl rfl⟩
  refine wl_m M (q_guard 2 rfl rfl rfl hg11 (q_ldbA 0 Tryd.underlying25 rfl sz25 rfl rfl rfl rfl)) rfl rfl ?_
  refine wl_e (e_guard 2 rfl rfl rfl hg11 (e_bsI (E := ETra) (xs := [(RTra.mk a.states a.start fu1 au1)]) M (bs_37_1 _ _ _ _) ⟨⟨rfl, rfl⟩, trivial⟩ rfl rfl (by decide))) rfl rfl ?_
  rintro _ w3 ⟨u13, J13, rfl, hJ13, R13, M⟩
  have hoJ13 := M.old
  refine wl_e (e_guard 2 rfl rfl rfl hg11 (e_callC M (few_c M.imm (rdTrasF R13 (Rf1.mono hJ13) (Ra1.mono hJ13))) Tryd.func11 rfl rfl)) rfl rfl ?_
  rintro _ w4 ⟨J14, hJ14, rfl, M⟩
  replace M := M.less hJ14 hoJ13
  refine wl_m M (q_guard 2 rfl rfl rfl hg11 (q_not rfl)) rfl rfl ?_
  refine wl_m M (q_pickF rfl hg11 rfl) rfl rfl ?_
  refine wl_mv M rfl rfl ?_
  rcases Bool.eq_false_or_eq_true (!([a].all fewB)) with hg17 | hg17
  ·refine wl_m M (q_off 8 rfl rfl rfl hg17) rfl rfl ?_
   refine wl_m M (q_off 8 rfl rfl rfl hg17) rfl rfl ?_
   refine wl_m M (q_off 8 rfl rfl rfl hg17) rfl rfl ?_
   refine wl_m M (q_pickT rfl hg17 rfl) rfl rfl ?_
   refine wl_mv M rfl rfl ?_
   refine wl_m M (q_off 13 rfl rfl rfl rfl) rfl rfl ?_
   refine wl_m M (q_off 13 rfl rfl rfl rfl) rfl rfl ?_
   refine wl_m M (q_off 13 rfl rfl rfl rfl) rfl rfl ?_
   refine wl_m M (q_pickT rfl rfl rfl) rfl rfl ?_
   refine wl_nil ?_
   replace M := M.less hJ13 (fun _ _ => rfl)
   exact ⟨(), M, ⟨(show some (Value.bool true) = some (Value.bool ((((!true) || (!([a].all fewB))) || (!(ws.all (fun s => !decide (20 < (s.size : Int))) && decide ((ws.length : Int) ≤ 6)))) || (decide (4 < (ws.length : Int))))) from by first | (simp only [hg11, hg17, Bool.true_or, Bool.false_or, Bool.true_and, Bool.false_and, Bool.or_true, Bool.or_false, Bool.and_true, Bool.and_false]; done) | (simp_all; done) | (simp_all; omega)), trivial⟩, unw_take 18 rfl rfl⟩
  refine wl_m M (q_guard 8 rfl rfl rfl hg17 (q_move rfl)) rfl rfl ?_
  refine wl_e (e_guard 8 rfl rfl rfl hg17 (e_callC M (brief_c M.imm (R0.mono hJ13)) Tryd.func15 rfl rfl)) rfl rfl ?_
  rintro _ w5 ⟨J19, hJ19, rfl, M⟩
  replace M := M.less hJ19 hoJ13
  refine wl_m M (q_guard 8 rfl rfl rfl hg17 (q_not rfl)) rfl rfl ?_
  refine wl_m M (q_pickF rfl hg17 rfl) rfl rfl ?_
  refine wl_mv M rfl rfl ?_
  rcases Bool.eq_false_or_eq_true (!(ws.all (fun s => !decide (20 < (s.size : Int))) && decide ((ws.length : Int) ≤ 6))) with hg22 | hg22
  ·refine wl_m M (q_off 13 rfl rfl rfl hg22) rfl rfl ?_
   refine wl_m M (q_off 13 rfl rfl rfl hg22) rfl rfl ?_
   refine wl_m M (q_off 13 rfl rfl rfl hg22) rfl rfl ?_
   refine wl_m M (q_pickT rfl hg22 rfl) rfl rfl ?_
   refine wl_nil ?_
   replace M := M.less hJ13 (fun _ _ => rfl)
   exact ⟨(), M, ⟨(show some (Value.bool true) = some (Value.bool ((((!true) || (!([a].all fewB))) || (!(ws.all (fun s => !decide (20 < (s.size : Int))) && decide ((ws.length : Int) ≤ 6)))) || (decide (4 < (ws.length : Int))))) from by first | (simp only [hg11, hg17, hg22, Bool.true_or, Bool.false_or, Bool.true_and, Bool.false_and, Bool.or_true, Bool.or_false, Bool.and_true, Bool.and_false]; done) | (simp_all; done) | (simp_all; omega)), trivial⟩, unw_take 18 rfl rfl⟩
  refine wl_m M (q_guard 13 rfl rfl rfl hg22 (q_move rfl)) rfl rfl ?_
  refine wl_m M (q_guard 13 rfl rfl rfl hg22 (q_lenR (R0.mono hJ13) Tryd.underlying42 rfl)) rfl rfl ?_
  refine wl_m M (q_guard 13 rfl rfl rfl hg22 (q_gtr rfl rfl)) rfl rfl ?_
  refine wl_m M (q_pickF rfl hg22 rfl) rfl rfl ?_
  refine wl_nil ?_
  replace M := M.less hJ13 (fun _ _ => rfl)
  exact ⟨(), M, ⟨(show some (Value.bool (decide (4 < (ws.length : Int)))) = some (Value.bool ((((!true) || (!([a].all fewB))) || (!(ws.all (fun s => !decide (20 < (s.size : Int))) && decide ((ws.length : Int) ≤ 6)))) || (decide (4 < (ws.length : Int))))) from by first | (simp only [hg11, hg17, hg22, Bool.true_or, Bool.false_or, Bool.true_and, Bool.false_and, Bool.or_true, Bool.or_false, Bool.and_true, Bool.and_false]; done) | (simp_all; done) | (simp_all; omega)), trivial⟩, unw_take 18 rfl rfl⟩
 rintro _ jr1 w6 M
 refine wc_cond rfl (fun ht26 => ?_) (fun ht26 => ?_)
 ·refine wc_seq ?_
  refine wc_region ?_
  refine wl_e (e_callC M (awake_c M.imm hT) Tryd.func10 rfl rfl) rfl rfl ?_
  rintro _ w7 ⟨J27, hJ27, rfl, M⟩
  replace M := M.less hJ27 (fun _ _ => rfl)
  refine wl_as M rfl rfl ?_
  refine wl_nil ?_
  refine wc_ret ?_
  exact out1 rfl rfl ⟨_, _, rfl, M.grow, rfl⟩
 have hbw : (ws.all (fun s => !decide (20 < (s.size : Int)))) = true := by revert ht26; generalize (ws.all (fun s => !decide (20 < (s.size : Int)))) = q; cases q <;> simp
 refine wc_skip ?_
 refine wc_seq ?_
 refine wc_region ?_
 refine wl_m M (q_ldbA 0 Tryd.underlying25 rfl sz25 rfl rfl rfl rfl) rfl rfl ?_
 refine wl_mv M rfl rfl ?_
 refine wl_e (e_callC M (functional_c (t := a) (ws := ws) (brief_szF hbw) M.imm hT ⟨_, _, rfl, Rf1, Ra1⟩ R0) Tryd.func21 rfl rfl) rfl rfl ?_
 rintro _ w8 ⟨J31, hJ31, rfl, M⟩
 replace M := M.less hJ31 (fun _ _ => rfl)
 refine wl_mv M rfl rfl ?_
 refine wl_m M (q_ext rfl rfl) rfl rfl ?_
 refine wl_m M (q_ext rfl rfl) rfl rfl ?_
 refine wl_as M rfl rfl ?_
 refine wl_as M rfl rfl ?_
 refine wl_nil ?_
 refine wc_seq ?_
 refine wc_region ?_
 refine wl_m M (q_ldbA 0 Tryd.underlying25 rfl sz25 rfl rfl rfl rfl) rfl rfl ?_
 refine wl_mv M rfl rfl ?_
 refine wl_e (e_callC M (functionalR_c (t := a) (ws := ws) (brief_szF hbw) M.imm hT ⟨_, _, rfl, Rf1, Ra1⟩ R0) Tryd.func22 rfl rfl) rfl rfl ?_
 rintro _ w9 ⟨J37, hJ37, rfl, M⟩
 replace M := M.less hJ37 (fun _ _ => rfl)
 refine wl_mv M rfl rfl ?_
 refine wl_m M (q_ext rfl rfl) rfl rfl ?_
 refine wl_m M (q_ext rfl rfl) rfl rfl ?_
 refine wl_as M rfl rfl ?_
 refine wl_as M rfl rfl ?_
 refine wl_nil ?_
 refine wc_seq ?_
 refine wc_join (α := Unit) [4, 40, 41, 42, 43, 44, 45, 46, 47] (fun _ => [(4, .bool ((((FncS a ws).1) == ((FncS a ws).1)) && (decide (((FncS a ws).2) = ((FncS a ws).2)))))]) (fun _ w' => Mem w I I (box b2 25 [.int .i64 a.states, .int .i64 a.start, sv fu1, sv au1] :: []) w') ?_ ?_
 ·refine wc_region ?_
  refine wl_mv M rfl rfl ?_
  refine wl_mv M rfl rfl ?_
  refine wl_m M (q_eqlB Tryd.underlying4 rfl rfl) rfl rfl ?_
  refine wl_mv M rfl rfl ?_
  rcases Bool.eq_false_or_eq_true (((FncS a ws).1) == ((FncS a ws).1)) with hg43 | hg43
  ·refine wl_m M (q_guard 3 rfl rfl rfl hg43 (q_move rfl)) rfl rfl ?_
   refine wl_m M (q_guard 3 rfl rfl rfl hg43 (q_move rfl)) rfl rfl ?_
   refine wl_m M (q_guard 3 rfl rfl rfl hg43 (q_eql rfl rfl)) rfl rfl ?_
   refine wl_m M (q_pickT rfl hg43 rfl) rfl rfl ?_
   refine wl_as M rfl rfl ?_
   refine wl_nil ?_
   exact ⟨(), M, ⟨(show some (Value.bool (decide (((FncS a ws).2) = ((FncS a ws).2)))) = some (Value.bool ((((FncS a ws).1) == ((FncS a ws).1)) && (decide (((FncS a ws).2) = ((FncS a ws).2))))) from by first | (simp only [hg43, Bool.true_or, Bool.false_or, Bool.true_and, Bool.false_and, Bool.or_true, Bool.or_false, Bool.and_true, Bool.and_false]; done) | (simp_all; done) | (simp_all; omega)), trivial⟩, unw_take 9 rfl rfl⟩
  refine wl_m M (q_off 3 rfl rfl rfl hg43) rfl rfl ?_
  refine wl_m M (q_off 3 rfl rfl rfl hg43) rfl rfl ?_
  refine wl_m M (q_off 3 rfl rfl rfl hg43) rfl rfl ?_
  refine wl_m M (q_pickF rfl hg43 rfl) rfl rfl ?_
  refine wl_as M rfl rfl ?_
  refine wl_nil ?_
  exact ⟨(), M, ⟨(show some (Value.bool false) = some (Value.bool ((((FncS a ws).1) == ((FncS a ws).1)) && (decide (((FncS a ws).2) = ((FncS a ws).2))))) from by first | (simp only [hg43, Bool.true_or, Bool.false_or, Bool.true_and, Bool.false_and, Bool.or_true, Bool.or_false, Bool.and_true, Bool.and_false]; done) | (simp_all; done) | (simp_all; omega)), trivial⟩, unw_take 9 rfl rfl⟩
 rintro _ jr5 w10 M
 refine wc_ret ?_
 exact out1 rfl rfl ⟨_, _, rfl, M.grow, by simp⟩
end Go.Proofs.YtmjieefhjmiagaaDoor.G
