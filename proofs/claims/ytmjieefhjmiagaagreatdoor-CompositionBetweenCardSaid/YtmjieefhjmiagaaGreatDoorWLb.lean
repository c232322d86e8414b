/- Walks of the program's functions. -/
import Derived.Test.YtmjieefhjmiagaaGreatDoorWMe
import Derived.Test.YtmjieefhjmiagaaGreatDoorWL0
import Derived.Test.YtmjieefhjmiagaaGreatDoorWRb
import Derived.Test.YtmjieefhjmiagaaGreatDoorGMif
import Derived.Test.YtmjieefhjmiagaaGreatDoorWX
import Derived.Test.YtmjieefhjmiagaaGreatDoorGOpn
set_option linter.all false
namespace Go.Proofs.YtmjieefhjmiagaaGreatDoor.G
open Go Go.RowKit
theorem before_c (s t : ByteArray) (hs : s.size ≤ 100000) (ht : t.size ≤ 100000) {I : Heap} {w : World} (hI : hle I (hp w)) : Calls A 17 #[.string s, .string t] w (Ret w I fun r _ => r = .bool (slxB (runesL s) (runesL t))) := by
 have hls := runesL_le s
 have hlt := runesL_le t
 have M := Mem.start hI
 refine enter Tryz.func17 rfl 46 Tryz.ntmps17 [_, _] rfl ?_
 refine wc_seq ?_
 refine wc_region ?_
 refine wl_as M rfl rfl ?_
 refine wl_nil ?_
 refine wc_seq ?_
 refine wc_region ?_
 refine wl_mv M rfl rfl ?_
 refine wl_e (e_cvRI (E := ERune) (s := s) M (fun _ => rfl) Tryz.underlying9 Tryz.underlying29 Tryz.underlying21 (by omega) rfl) rfl rfl ?_
 rintro v9 w1 ⟨J9, hJ9, R9, M⟩
 obtain ⟨u9, rfl⟩ := rdSl_slice R9
 have hoJ9 := M.old
 replace R9 : rdSl ERune J9 (sv u9) (runesL s) := R9
 refine wl_mv M rfl rfl ?_
 refine wl_e (e_cvRI (E := ERune) (s := t) M (fun _ => rfl) Tryz.underlying9 Tryz.underlying29 Tryz.underlying21 (by omega) rfl) rfl rfl ?_
 rintro v11 w2 ⟨J11, hJ11, R11, M⟩
 obtain ⟨u11, rfl⟩ := rdSl_slice R11
 have hoJ11 := M.old
 replace R11 : rdSl ERune J11 (sv u11) (runesL t) := R11
 refine wl_as M rfl rfl ?_
 refine wl_as M rfl rfl ?_
 refine wl_nil ?_
 refine wc_seq ?_
 refine wc_seq ?_
 refine wc_region ?_
 refine wl_mv M rfl rfl ?_
 refine wl_m M (q_lenR (R9.mono hJ11) Tryz.underlying29 rfl) rfl rfl ?_
 refine wl_mv M rfl rfl ?_
 refine wl_m M (q_lenR R11 Tryz.underlying29 rfl) rfl rfl ?_
 refine wl_m M (q_neq rfl rfl) rfl rfl ?_
 refine wl_nil ?_
 refine wc_cond rfl (fun ht16 => ?_) (fun ht16 => ?_)
 ·have hll : ¬ ((runesL s).length : Int) = ((runesL t).length : Int) := by simpa using ht16
  refine wc_seq ?_
  refine wc_region ?_
  refine wl_mv M rfl rfl ?_
  refine wl_m M (q_lenR (R9.mono hJ11) Tryz.underlying29 rfl) rfl rfl ?_
  refine wl_mv M rfl rfl ?_
  refine wl_m M (q_lenR R11 Tryz.underlying29 rfl) rfl rfl ?_
  refine wl_m M (q_lss rfl rfl) rfl rfl ?_
  refine wl_as M rfl rfl ?_
  refine wl_nil ?_
  refine wc_ret ?_
  exact out1 rfl rfl ⟨_, _, rfl, M.grow, by rw [slxB_ne hll]⟩
 have hll : ((runesL s).length : Int) = ((runesL t).length : Int) := by simpa using ht16
 refine wc_skip ?_
 refine wc_seq ?_
 refine wc_seq ?_
 refine wc_region ?_
 refine wl_as M rfl rfl ?_
 refine wl_nil ?_
 refine wc_block ?_
 refine wc_loop (α := Nat) [4, 7, 22, 23, 24, 25, 26, 27, 28, 29, 30, 31, 32, 33, 34, 35, 36, 37, 38, 39, 40, 41, 42, 43, 44, 45] (fun (k0 : Nat) => [(7, .int .i64 (k0 : Int))])
   (fun (k0 : Nat) w' => (k0 ≤ (runesL s).length) ∧ ((runesL s).take k0 = (runesL t).take k0) ∧ Mem w I J11 ([]) w')
   (fun (k0 : Nat) => (runesL s).length - k0) (0) ⟨rfl, trivial⟩ ?_ ?_
 ·refine ⟨Nat.zero_le _, (by simp), ?_⟩
  exact M
 rintro k0 jj0 w3 ⟨hk0, hp, M⟩
 have hoJ11 := M.old
 refine wc_seq ?_
 refine wc_seq ?_
 refine wc_region ?_
 refine wl_mv M rfl rfl ?_
 refine wl_mv M rfl rfl ?_
 refine wl_m M (q_lenR (R9.mono hJ11) Tryz.underlying29 rfl) rfl rfl ?_
 refine wl_m M (q_lss rfl rfl) rfl rfl ?_
 refine wl_nil ?_
 refine wc_dec rfl (fun ht25 => ?_) (fun ht25 => ?_)
 ·obtain ⟨x0, hx0⟩ : ∃ x_, (runesL s)[k0]? = some x_ := ⟨_, List.getElem?_eq_getElem (by omega)⟩
  have hll0 := ((R9.mono hJ11)).len_le
  obtain ⟨y0, hy0⟩ : ∃ y_, (runesL t)[k0]? = some y_ := ⟨_, List.getElem?_eq_getElem (by omega)⟩
  refine wc_skip ?_
  refine wc_seq ?_
  refine wc_block ?_
  refine wc_seq ?_
  refine wc_draws (fun w' => Mem w I J11 ([]) w' ∧ True) [] fol ?_
  replace M := M.drew
  have hS := (⟨M, trivial⟩ : _ ∧ _)
  refine wa_q 0 rfl (by kernel_rfl) (q_move rfl) hS rfl rfl ?_
  refine wa_q 1 rfl (by kernel_rfl) (q_move rfl) hS rfl rfl ?_
  refine wa_ixS (j := k0) 2 hS (fun _ h => (R9.mono hJ11).mono h.1.imm) rfl (by kernel_rfl) Tryz.underlying29 rfl rfl hx0 rfl (fun b30 o30 p30 => ?_)
  refine wa_q 3 rfl (by kernel_rfl) (q_ldp p30 rfl rfl) hS rfl rfl ?_
  refine wa_q 4 rfl (by kernel_rfl) (q_move rfl) hS rfl rfl ?_
  refine wa_q 5 rfl (by kernel_rfl) (q_move rfl) hS rfl rfl ?_
  refine wa_ixS (j := k0) 6 hS (fun _ h => R11.mono h.1.imm) rfl (by kernel_rfl) Tryz.underlying29 rfl (ixe (by omega)) hy0 rfl (fun b34 o34 p34 => ?_)
  refine wa_q 7 rfl (by kernel_rfl) (q_ldp p34 rfl rfl) hS rfl rfl ?_
  refine wa_q 8 rfl (by kernel_rfl) (q_neq rfl rfl) hS rfl rfl ?_
  refine wa_done (by kernel_rfl) ?_
  refine wc_cond rfl (fun ht36 => ?_) (fun ht36 => ?_)
  ·have hne : ¬ x0 = y0 := by simpa using ht36
   refine wc_seq ?_
   refine wc_draws (fun w' => Mem w I J11 ([]) w' ∧ True) [] fol ?_
   replace M := M.drew
   have hS := (⟨M, trivial⟩ : _ ∧ _)
   refine wa_q 0 rfl (by kernel_rfl) (q_move rfl) hS rfl rfl ?_
   refine wa_q 1 rfl (by kernel_rfl) (q_move rfl) hS rfl rfl ?_
   refine wa_ixS (j := k0) 2 hS (fun _ h => (R9.mono hJ11).mono h.1.imm) rfl (by kernel_rfl) Tryz.underlying29 rfl rfl hx0 rfl (fun b39 o39 p39 => ?_)
   refine wa_q 3 rfl (by kernel_rfl) (q_ldp p39 rfl rfl) hS rfl rfl ?_
   refine wa_q 4 rfl (by kernel_rfl) (q_move rfl) hS rfl rfl ?_
   refine wa_q 5 rfl (by kernel_rfl) (q_move rfl) hS rfl rfl ?_
   refine wa_ixS (j := k0) 6 hS (fun _ h => R11.mono h.1.imm) rfl (by kernel_rfl) Tryz.underlying29 rfl (ixe (by omega)) hy0 rfl (fun b43 o43 p43 => ?_)
   refine wa_q 7 rfl (by kernel_rfl) (q_ldp p43 rfl rfl) hS rfl rfl ?_
   refine wa_q 8 rfl (by kernel_rfl) (q_lss rfl rfl) hS rfl rfl ?_
   refine wa_q 9 rfl (by kernel_rfl) (q_assign rfl) hS rfl rfl ?_
   refine wa_done (by kernel_rfl) ?_
   refine wc_ret ?_
   exact out1 rfl rfl ⟨_, _, rfl, M.grow, by rw [slxB_at hll hx0 hy0 hp hne]⟩
  have heq : x0 = y0 := by simpa using ht36
  refine wc_skip ?_
  refine wc_region ?_
  refine wl_mv M rfl rfl ?_
  refine wl_m M (q_add rfl rfl (IntWalk.i64_in _ (by omega))) rfl rfl ?_
  refine wl_as M rfl rfl ?_
  refine wl_nil ?_
  refine ⟨(k0 + 1), ?_, ⟨(by omega), (by rw [take_snoc hx0, take_snoc hy0, hp, heq]), M⟩, ⟨rfl, trivial⟩, unw_look rfl unw_base⟩
  show (runesL s).length - (k0 + 1) < (runesL s).length - k0
  omega
 have hke0 : k0 = (runesL s).length := by omega
 rw [hke0] at hp
 refine wc_exit rfl ?_
 refine wc_seq ?_
 refine wc_region ?_
 refine wl_as M rfl rfl ?_
 refine wl_nil ?_
 refine wc_ret ?_
 exact out1 rfl rfl ⟨_, _, rfl, M.grow, by rw [slxB_eq hll hp]⟩
set_option maxRecDepth 4000 in
set_option maxHeartbeats 2000000 in
theorem lawBetween_c (a b : Tra) (x z : ByteArray) (nI : Int) {v1 v2 : Value} {I : Heap} {w : World} (hI : hle I (hp w)) (hT : Tabs I) (R1 : a.rd I v1) (R2 : b.rd I v2) : Calls A 5 #[v1, v2, .string x, .string z, .int .i64 nI] w (Ret w I fun r _ => r = .bool true) := by
 obtain ⟨fu1, au1, rfl, Rf1, Ra1⟩ := R1
 obtain ⟨fu2, au2, rfl, Rf2, Ra2⟩ := R2
 have M := Mem.start hI
 refine enter Tryz.func5 rfl 100 Tryz.ntmps5 [_, _, _, _, _] rfl ?_
 refine wc_seq ?_
 refine wc_region ?_
 refine wl_e (e_box M rfl) rfl rfl ?_
 rintro _ w1 ⟨b5, rfl, M⟩
 refine wl_e (e_box M rfl) rfl rfl ?_
 rintro _ w2 ⟨b6, rfl, M⟩
 refine wl_as M rfl rfl ?_
 refine wl_nil ?_
 refine wc_seq ?_
 refine wc_seq ?_
 refine wc_join (α := Unit) [14, 15, 16, 17, 18, 19, 20, 21, 22, 23, 24, 25, 26, 27, 28, 29, 30, 31, 32, 33] (fun _ => [(33, .bool ((((!true) || (!([a, b].all fewB))) || (!([x, z].all (fun s => !decide (20 < (s.size : Int))) && decide ((([x, z] : List ByteArray).length : Int) ≤ 6)))) || (decide (8 < nI))))]) (fun _ w' => Mem w I I (box b6 25 [.int .i64 b.states, .int .i64 b.start, sv fu2, sv au2] :: box b5 25 [.int .i64 a.states, .int .i64 a.start, sv fu1, sv au1] :: []) w') ?_ ?_
 ·refine wc_region ?_
  refine wl_e (e_callC M (awake_c M.imm hT) Tryz.func8 rfl rfl) rfl rfl ?_
  rintro _ w3 ⟨J14, hJ14, rfl, M⟩
  replace M := M.less hJ14 (fun _ _ => rfl)
  refine wl_m M (q_not rfl) rfl rfl ?_
  refine wl_mv M rfl rfl ?_
  rcases Bool.eq_false_or_eq_true (!true) with hg16 | hg16
  ·refine wl_m M (q_off 2 rfl rfl rfl hg16) rfl rfl ?_
   refine wl_m M (q_off 2 rfl rfl rfl hg16) rfl rfl ?_
   refine wl_m M (q_off 2 rfl rfl rfl hg16) rfl rfl ?_
   refine wl_m M (q_off 2 rfl rfl rfl hg16) rfl rfl ?_
   refine wl_m M (q_off 2 rfl rfl rfl hg16) rfl rfl ?_
   refine wl_m M (q_pickT rfl hg16 rfl) rfl rfl ?_
   refine wl_mv M rfl rfl ?_
   refine wl_m M (q_off 9 rfl rfl rfl rfl) rfl rfl ?_
   refine wl_m M (q_off 9 rfl rfl rfl rfl) rfl rfl ?_
   refine wl_m M (q_off 9 rfl rfl rfl rfl) rfl rfl ?_
   refine wl_m M (q_off 9 rfl rfl rfl rfl) rfl rfl ?_
   refine wl_m M (q_off 9 rfl rfl rfl rfl) rfl rfl ?_
   refine wl_m M (q_pickT rfl rfl rfl) rfl rfl ?_
   refine wl_mv M rfl rfl ?_
   refine wl_m M (q_off 16 rfl rfl rfl rfl) rfl rfl ?_
   refine wl_m M (q_off 16 rfl rfl rfl rfl) rfl rfl ?_
   refine wl_m M (q_pickT rfl rfl rfl) rfl rfl ?_
   refine wl_nil ?_
   exact ⟨(), M, ⟨(show some (Value.bool true) = some (Value.bool ((((!true) || (!([a, b].all fewB))) || (!([x, z].all (fun s => !decide (20 < (s.size : Int))) && decide ((([x, z] : List ByteArray).length : Int) ≤ 6)))) || (decide (8 < nI)))) from by first | (simp only [hg16, Bool.true_or, Bool.false_or, Bool.true_and, Bool.false_and, Bool.or_true, Bool.or_false, Bool.and_true, Bool.and_false]; done) | (simp_all; done) | (simp_all; omega)), trivial⟩, unw_take 20 rfl rfl⟩
  refine wl_m M (q_guard 2 rfl rfl rfl hg16 (q_ldbA 1 Tryz.underlying25 rfl sz25 rfl rfl rfl rfl)) rfl rfl ?_
  refine wl_m M (q_guard 2 rfl rfl rfl hg16 (q_ldbA 0 Tryz.underlying25 rfl sz25 rfl rfl rfl rfl)) rfl rfl ?_
  refine wl_e (e_guard 2 rfl rfl rfl hg16 (e_bsI (E := ETra) (xs := [(RTra.mk a.states a.start fu1 au1), (RTra.mk b.states b.start fu2 au2)]) M (bs_54_2 _ _ _ _ _ _ _ _) ⟨⟨rfl, rfl⟩, ⟨rfl, rfl⟩, trivial⟩ rfl rfl (by decide))) rfl rfl ?_
  rintro _ w4 ⟨u19, J19, rfl, hJ19, R19, M⟩
  have hoJ19 := M.old
  refine wl_e (e_guard 2 rfl rfl rfl hg16 (e_callC M (few_c M.imm (rdTras2 R19 (Rf1.mono hJ19) (Ra1.mono hJ19) (Rf2.mono hJ19) (Ra2.mono hJ19))) Tryz.func9 rfl rfl)) rfl rfl ?_
  rintro _ w5 ⟨J20, hJ20, rfl, M⟩
  replace M := M.less hJ20 hoJ19
  refine wl_m M (q_guard 2 rfl rfl rfl hg16 (q_not rfl)) rfl rfl ?_
  refine wl_m M (q_pickF rfl hg16 rfl) rfl rfl ?_
  refine wl_mv M rfl rfl ?_
  rcases Bool.eq_false_or_eq_true (!([a, b].all fewB)) with hg23 | hg23
  ·refine wl_m M (q_off 9 rfl rfl rfl hg23) rfl rfl ?_
   refine wl_m M (q_off 9 rfl rfl rfl hg23) rfl rfl ?_
   refine wl_m M (q_off 9 rfl rfl rfl hg23) rfl rfl ?_
   refine wl_m M (q_off 9 rfl rfl rfl hg23) rfl rfl ?_
   refine wl_m M (q_off 9 rfl rfl rfl hg23) rfl rfl ?_
   refine wl_m M (q_pickT rfl hg23 rfl) rfl rfl ?_
   refine wl_mv M rfl rfl ?_
   refine wl_m M (q_off 16 rfl rfl rfl rfl) rfl rfl ?_
   refine wl_m M (q_off 16 rfl rfl rfl rfl) rfl rfl ?_
   refine wl_m M (q_pickT rfl rfl rfl) rfl rfl ?_
   refine wl_nil ?_
   replace M := M.less hJ19 (fun _ _ => rfl)
   exact ⟨(), M, ⟨(show some (Value.bool true) = some (Value.bool ((((!true) || (!([a, b].all fewB))) || (!([x, z].all (fun s => !decide (20 < (s.size : Int))) && decide ((([x, z] : List ByteArray).length : Int) ≤ 6)))) || (decide (8 < nI)))) from by first | (simp only [hg16, hg23, Bool.true_or, Bool.false_or, Bool.true_and, Bool.false_and, Bool.or_true, Bool.or_false, Bool.and_true, Bool.and_false]; done) | (simp_all; done) | (simp_all; omega)), trivial⟩, unw_take 20 rfl rfl⟩
  refine wl_m M (q_guard 9 rfl rfl rfl hg23 (q_move rfl)) rfl rfl ?_
  refine wl_m M (q_guard 9 rfl rfl rfl hg23 (q_move rfl)) rfl rfl ?_
  refine wl_e (e_guard 9 rfl rfl rfl hg23 (e_bsI (E := EStr) (xs := [x, z]) M (bs_31_2 _ _) ⟨⟨rfl, rfl⟩, ⟨rfl, rfl⟩, trivial⟩ rfl rfl (by decide))) rfl rfl ?_
  rintro _ w6 ⟨u26, J26, rfl, hJ26, R26, M⟩
  have hoJ26 := M.old
  refine wl_e (e_guard 9 rfl rfl rfl hg23 (e_callC M (brief_c M.imm R26) Tryz.func10 rfl rfl)) rfl rfl ?_
  rintro _ w7 ⟨J27, hJ27, rfl, M⟩
  replace M := M.less hJ27 hoJ26
  refine wl_m M (q_guard 9 rfl rfl rfl hg23 (q_not rfl)) rfl rfl ?_
  refine wl_m M (q_pickF rfl hg23 rfl) rfl rfl ?_
  refine wl_mv M rfl rfl ?_
  rcases Bool.eq_false_or_eq_true (!([x, z].all (fun s => !decide (20 < (s.size : Int))) && decide ((([x, z] : List ByteArray).length : Int) ≤ 6))) with hg30 | hg30
  ·refine wl_m M (q_off 16 rfl rfl rfl hg30) rfl rfl ?_
   refine wl_m M (q_off 16 rfl rfl rfl hg30) rfl rfl ?_
   refine wl_m M (q_pickT rfl hg30 rfl) rfl rfl ?_
   refine wl_nil ?_
   replace M := M.less (hle.trans hJ19 hJ26) (fun _ _ => rfl)
   exact ⟨(), M, ⟨(show some (Value.bool true) = some (Value.bool ((((!true) || (!([a, b].all fewB))) || (!([x, z].all (fun s => !decide (20 < (s.size : Int))) && decide ((([x, z] : List ByteArray).length : Int) ≤ 6)))) || (decide (8 < nI)))) from by first | (simp only [hg16, hg23, hg30, Bool.true_or, Bool.false_or, Bool.true_and, Bool.false_and, Bool.or_true, Bool.or_false, Bool.and_true, Bool.and_false]; done) | (simp_all; done) | (simp_all; omega)), trivial⟩, unw_take 20 rfl rfl⟩
  refine wl_m M (q_guard 16 rfl rfl rfl hg30 (q_move rfl)) rfl rfl ?_
  refine wl_m M (q_guard 16 rfl rfl rfl hg30 (q_gtr rfl rfl)) rfl rfl ?_
  refine wl_m M (q_pickF rfl hg30 rfl) rfl rfl ?_
  refine wl_nil ?_
  replace M := M.less (hle.trans hJ19 hJ26) (fun _ _ => rfl)
  exact ⟨(), M, ⟨(show some (Value.bool (decide (8 < nI))) = some (Value.bool ((((!true) || (!([a, b].all fewB))) || (!([x, z].all (fun s => !decide (20 < (s.size : Int))) && decide ((([x, z] : List ByteArray).length : Int) ≤ 6)))) || (decide (8 < nI)))) from by first | (simp only [hg16, hg23, hg30, Bool.true_or, Bool.false_or, Bool.true_and, Bool.false_and, Bool.or_true, Bool.or_false, Bool.and_true, Bool.and_false]; done) | (simp_all; done) | (simp_all; omega)), trivial⟩, unw_take 20 rfl rfl⟩
 rintro _ jr1 w8 M
 refine wc_cond rfl (fun ht33 => ?_) (fun ht33 => ?_)
 ·refine wc_seq ?_
  refine wc_region ?_
  refine wl_e (e_callC M (awake_c M.imm hT) Tryz.func8 rfl rfl) rfl rfl ?_
  rintro _ w9 ⟨J34, hJ34, rfl, M⟩
  replace M := M.less hJ34 (fun _ _ => rfl)
  refine wl_as M rfl rfl ?_
  refine wl_nil ?_
  refine wc_ret ?_
  exact out1 rfl rfl ⟨_, _, rfl, M.grow, rfl⟩
 have hff : ([a, b].all fewB) = true := by revert ht33; generalize ([a, b].all fewB) = q; cases q <;> simp
 obtain ⟨hfa, hfb⟩ := few2_all hff
 have hbr : ([x, z].all (fun s => !decide (20 < (s.size : Int)))) = true := by revert ht33; generalize ([x, z].all (fun s => !decide (20 < (s.size : Int)))) = q; cases q <;> simp
 obtain ⟨hsx, hsz⟩ := brief2 hbr
 refine wc_skip ?_
 refine wc_seq ?_
 refine wc_region ?_
 refine wl_m M (q_ldbA 1 Tryz.underlying25 rfl sz25 rfl rfl rfl rfl) rfl rfl ?_
 refine wl_m M (q_ldbA 0 Tryz.underlying25 rfl sz25 rfl rfl rfl rfl) rfl rfl ?_
 refine wl_mv M rfl rfl ?_
 refine wl_mv M rfl rfl ?_
 refine wl_mv M rfl rfl ?_
 refine wl_e (e_callC M (middleC_c a b x z nI (by omega) (by omega) (few_mid hfa hfb) M.imm hT ⟨_, _, rfl, Rf1, Ra1⟩ ⟨_, _, rfl, Rf2, Ra2⟩) Tryz.func12 rfl rfl) rfl rfl ?_
 rintro _ w10 ⟨J41, hJ41, ⟨u41, o41, e41, rfl, R41, hk41⟩, M⟩
 have hoJ41 := M.old
 refine wl_mv M rfl rfl ?_
 refine wl_m M (q_ext rfl rfl) rfl rfl ?_
 refine wl_m M (q_ext rfl rfl) rfl rfl ?_
 refine wl_as M rfl rfl ?_
 refine wl_as M rfl rfl ?_
 refine wl_nil ?_
 refine wc_seq ?_
 refine wc_seq ?_
 refine wc_region ?_
 refine wl_mv M rfl rfl ?_
 refine wl_m M (q_neq rfl rfl) rfl rfl ?_
 refine wl_nil ?_
 refine wc_cond rfl (fun ht45 => ?_) (fun ht45 => ?_)
 ·have he : ¬ e41 = 0 := by simpa using ht45
  obtain rfl := betw_err hk41 he
  refine wc_seq ?_
  refine wc_region ?_
  refine wl_mv M rfl rfl ?_
  refine wl_m M (q_lenR R41 Tryz.underlying31 rfl) rfl rfl ?_
  refine wl_m M (q_eql rfl rfl) rfl rfl ?_
  refine wl_as M rfl rfl ?_
  refine wl_nil ?_
  refine wc_ret ?_
  exact out1 rfl rfl ⟨_, _, rfl, M.grow, rfl⟩
 have he : e41 = 0 := by simpa using ht45
 have hbo := betw_ok hk41 he
 refine wc_skip ?_
 refine wc_seq ?_
 refine wc_seq ?_
 refine wc_region ?_
 refine wl_as M rfl rfl ?_
 refine wl_nil ?_
 refine wc_block ?_
 refine wc_loop (α := Nat) [10, 13, 49, 50, 51, 52, 53, 54, 55, 56, 57, 58, 59, 60, 61, 62, 63, 64, 65, 66, 67, 68, 69, 70, 71, 72, 73, 74, 75, 76, 77, 78, 79, 80, 81, 82, 83, 84, 85, 86, 87, 88, 89, 90, 91, 92, 93, 94, 95, 96, 97, 98, 99] (fun (k0 : Nat) => [(13, .int .i64 (k0 : Int))])
   (fun (k0 : Nat) w' => (k0 ≤ o41.length) ∧ Mem w I J41 (box b6 25 [.int .i64 b.states, .int .i64 b.start, sv fu2, sv au2] :: box b5 25 [.int .i64 a.states, .int .i64 a.start, sv fu1, sv au1] :: []) w')
   (fun (k0 : Nat) => o41.length - k0) (0) ⟨rfl, trivial⟩ ?_ ?_
 ·refine ⟨Nat.zero_le _, ?_⟩
  exact M
 rintro k0 jj0 w11 ⟨hk0, M⟩
 have hoJ41 := M.old
 refine wc_seq ?_
 refine wc_seq ?_
 refine wc_region ?_
 refine wl_mv M rfl rfl ?_
 refine wl_mv M rfl rfl ?_
 refine wl_m M (q_lenR R41 Tryz.underlying31 rfl) rfl rfl ?_
 refine wl_m M (q_lss rfl rfl) rfl rfl ?_
 refine wl_nil ?_
 refine wc_dec rfl (fun ht52 => ?_) (fun ht52 => ?_)
 ·obtain ⟨x0, hx0⟩ : ∃ x_, o41[k0]? = some x_ := ⟨_, List.getElem?_eq_getElem (by omega)⟩
  have hll0 := (R41).len_le
  obtain ⟨xp, hxpe⟩ : ∃ x_, x_ = o41.getD (k0 - 1) x0 := ⟨_, rfl⟩
  have hm0 := List.mem_of_getElem? hx0
  obtain ⟨hr1, hr2⟩ := hbo.rel x0 hm0
  obtain ⟨hl1, hl2⟩ := hbo.len x0 hm0
  refine wc_skip ?_
  refine wc_seq ?_
  refine wc_block ?_
  refine wc_seq ?_
  refine wc_join (α := Unit) [55, 56, 57, 58, 59, 60, 61, 62, 63, 64, 65, 66, 67, 68, 69, 70, 71, 72, 73, 74, 75, 76, 77, 78, 79, 80, 81, 82, 83, 84, 85, 86, 87, 88, 89, 90, 91, 92, 93, 94, 95, 96, 97, 98, 99] (fun _ => [(99, .bool ((((!(relS a x x0)) || (!(relS b x0 z))) || (decide (nI < ((runesL x0).length : Int)))) || ((decide (0 < (k0 : Int))) && (!(slxB (runesL xp) (runesL x0))))))]) (fun _ w' => Mem w I J41 (box b6 25 [.int .i64 b.states, .int .i64 b.start, sv fu2, sv au2] :: box b5 25 [.int .i64 a.states, .int .i64 a.start, sv fu1, sv au1] :: []) w') ?_ ?_
  ·refine wc_draws (fun w' => Mem w I J41 (box b6 25 [.int .i64 b.states, .int .i64 b.start, sv fu2, sv au2] :: box b5 25 [.int .i64 a.states, .int .i64 a.start, sv fu1, sv au1] :: []) w' ∧ True) [] fol ?_
   replace M := M.drew
   have hS := (⟨M, trivial⟩ : _ ∧ _)
   refine wa_q 0 rfl (by kernel_rfl) ((q_ldbA 1 Tryz.underlying25 rfl sz25 rfl rfl rfl rfl).mono fun _ h => h.1) hS rfl rfl ?_
   refine wa_q 1 rfl (by kernel_rfl) (q_move rfl) hS rfl rfl ?_
   refine wa_q 2 rfl (by kernel_rfl) (q_move rfl) hS rfl rfl ?_
   refine wa_q 3 rfl (by kernel_rfl) (q_move rfl) hS rfl rfl ?_
   refine wa_ixS (j := k0) 4 hS (fun _ h => R41.mono h.1.imm) rfl (by kernel_rfl) Tryz.underlying31 rfl rfl hx0 rfl (fun b59 o59 p59 => ?_)
   refine wa_q 5 rfl (by kernel_rfl) (q_ldp p59 rfl rfl) hS rfl rfl ?_
   refine wa_e 6 rfl (by kernel_rfl) (e_callC M (relates_c a x x0 (by omega) (by omega) (Nat.le_trans (Nat.mul_le_mul (show x.size + 1 ≤ 21 by omega) (show x0.size + 1 ≤ 161 by omega)) (by decide)) M.imm ⟨_, _, rfl, (Rf1.mono hJ41), (Ra1.mono hJ41)⟩) Tryz.func15 rfl rfl) rfl rfl ?_
   rintro _ w12 ⟨J61, hJ61, rfl, M⟩
   have hS := (⟨(M.less hJ61 hoJ41), trivial⟩ : _ ∧ _)
   refine ⟨fun _ => hS, ?_⟩
   replace M := M.less hJ61 hoJ41
   refine wa_q 7 rfl (by kernel_rfl) (q_not rfl) hS rfl rfl ?_
   refine wa_q 8 rfl (by kernel_rfl) (q_move rfl) hS rfl rfl ?_
   rcases Bool.eq_false_or_eq_true (!(relS a x x0)) with hg63 | hg63
   ·refine wa_q 9 rfl (by kernel_rfl) (q_off 8 rfl rfl rfl hg63) hS rfl rfl ?_
    refine wa_q 10 rfl (by kernel_rfl) (q_off 8 rfl rfl rfl hg63) hS rfl rfl ?_
    refine wa_q 11 rfl (by kernel_rfl) (q_off 8 rfl rfl rfl hg63) hS rfl rfl ?_
    refine wa_q 12 rfl (by kernel_rfl) (q_off 8 rfl rfl rfl hg63) hS rfl rfl ?_
    refine wa_q 13 rfl (by kernel_rfl) (q_off 8 rfl rfl rfl hg63) hS rfl rfl ?_
    refine wa_q 14 rfl (by kernel_rfl) (q_off 8 rfl rfl rfl hg63) hS rfl rfl ?_
    refine wa_q 15 rfl (by kernel_rfl) (q_off 8 rfl rfl rfl hg63) hS rfl rfl ?_
    refine wa_q 16 rfl (by kernel_rfl) (q_off 8 rfl rfl rfl hg63) hS rfl rfl ?_
    refine wa_q 17 rfl (by kernel_rfl) (q_pickT rfl hg63 rfl) hS rfl rfl ?_
    refine wa_q 18 rfl (by kernel_rfl) (q_move rfl) hS rfl rfl ?_
    refine wa_q 19 rfl (by kernel_rfl) (q_off 18 rfl rfl rfl rfl) hS rfl rfl ?_
    refine wa_q 20 rfl (by kernel_rfl) (q_off 18 rfl rfl rfl rfl) hS rfl rfl ?_
    refine wa_q 21 rfl (by kernel_rfl) (q_off 18 rfl rfl rfl rfl) hS rfl rfl ?_
    refine wa_q 22 rfl (by kernel_rfl) (q_off 18 rfl rfl rfl rfl) hS rfl rfl ?_
    refine wa_q 25 rfl (by kernel_rfl) (q_off 18 rfl rfl rfl rfl) hS rfl rfl ?_
    refine wa_q 23 rfl (by kernel_rfl) (q_off 18 rfl rfl rfl rfl) hS rfl rfl ?_
    refine wa_q 24 rfl (by kernel_rfl) (q_off 18 rfl rfl rfl rfl) hS rfl rfl ?_
    refine wa_q 26 rfl (by kernel_rfl) (q_off 18 rfl rfl rfl rfl) hS rfl rfl ?_
    refine wa_q 27 rfl (by kernel_rfl) (q_pickT rfl rfl rfl) hS rfl rfl ?_
    refine wa_q 28 rfl (by kernel_rfl) (q_move rfl) hS rfl rfl ?_
    refine wa_q 29 rfl (by kernel_rfl) (q_off 28 rfl rfl rfl rfl) hS rfl rfl ?_
    refine wa_q 30 rfl (by kernel_rfl) (q_off 28 rfl rfl rfl rfl) hS rfl rfl ?_
    refine wa_q 31 rfl (by kernel_rfl) (q_off 28 rfl rfl rfl rfl) hS rfl rfl ?_
    refine wa_q 32 rfl (by kernel_rfl) (q_offu 31 rfl rfl rfl) hS rfl rfl ?_
    refine wa_q 33 rfl (by kernel_rfl) (q_offu 31 rfl rfl rfl) hS rfl rfl ?_
    refine wa_q 34 rfl (by kernel_rfl) (q_offu 31 rfl rfl rfl) hS rfl rfl ?_
    refine wa_q 35 rfl (by kernel_rfl) (q_offu 31 rfl rfl rfl) hS rfl rfl ?_
    refine wa_q 36 rfl (by kernel_rfl) (q_offu 31 rfl rfl rfl) hS rfl rfl ?_
    refine wa_q 37 rfl (by kernel_rfl) (q_offu 31 rfl rfl rfl) hS rfl rfl ?_
    refine wa_q 38 rfl (by kernel_rfl) (q_offu 31 rfl rfl rfl) hS rfl rfl ?_
    refine wa_q 39 rfl (by kernel_rfl) (q_offu 31 rfl rfl rfl) hS rfl rfl ?_
    refine wa_q 40 rfl (by kernel_rfl) (q_offu 31 rfl rfl rfl) hS rfl rfl ?_
    refine wa_q 41 rfl (by kernel_rfl) (q_offu 31 rfl rfl rfl) hS rfl rfl ?_
    refine wa_q 42 rfl (by kernel_rfl) (q_offu 31 rfl rfl rfl) hS rfl rfl ?_
    refine wa_q 43 rfl (by kernel_rfl) (q_off 28 rfl rfl rfl rfl) hS rfl rfl ?_
    refine wa_q 44 rfl (by kernel_rfl) (q_pickT rfl rfl rfl) hS rfl rfl ?_
    refine wa_done (by kernel_rfl) ?_
    exact ⟨(), M, ⟨(show some (Value.bool true) = some (Value.bool ((((!(relS a x x0)) || (!(relS b x0 z))) || (decide (nI < ((runesL x0).length : Int)))) || ((decide (0 < (k0 : Int))) && (!(slxB (runesL xp) (runesL x0)))))) from by first | (simp only [hg63, Bool.true_or, Bool.false_or, Bool.true_and, Bool.false_and, Bool.or_true, Bool.or_false, Bool.and_true, Bool.and_false]; done) | (simp_all; done) | (simp_all; omega)), trivial⟩, unw_take 45 rfl rfl⟩
   refine wa_q 9 rfl (by kernel_rfl) ((q_guard 8 rfl rfl rfl hg63 (q_ldbA 0 Tryz.underlying25 rfl sz25 rfl rfl rfl rfl)).mono fun _ h => h.1) hS rfl rfl ?_
   refine wa_q 10 rfl (by kernel_rfl) (q_guard 8 rfl rfl rfl hg63 (q_move rfl)) hS rfl rfl ?_
   refine wa_q 11 rfl (by kernel_rfl) (q_guard 8 rfl rfl rfl hg63 (q_move rfl)) hS rfl rfl ?_
   refine wa_ixSG (j := k0) 8 rfl rfl rfl hg63 12 hS (fun _ h => R41.mono h.1.imm) rfl (by kernel_rfl) Tryz.underlying31 rfl rfl hx0 rfl (fun b67 o67 p67 => ?_)
   refine wa_q 13 rfl (by kernel_rfl) (q_guard 8 rfl rfl rfl hg63 (q_ldp p67 rfl rfl)) hS rfl rfl ?_
   refine wa_q 14 rfl (by kernel_rfl) (q_guard 8 rfl rfl rfl hg63 (q_move rfl)) hS rfl rfl ?_
   refine wa_e 15 rfl (by kernel_rfl) (e_guard 8 rfl rfl rfl hg63 (e_callC M (relates_c b x0 z (by omega) (by omega) (Nat.le_trans (Nat.mul_le_mul (show x0.size + 1 ≤ 161 by omega) (show z.size + 1 ≤ 21 by omega)) (by decide)) M.imm ⟨_, _, rfl, (Rf2.mono hJ41), (Ra2.mono hJ41)⟩) Tryz.func15 rfl rfl)) rfl rfl ?_
   rintro _ w13 ⟨J70, hJ70, rfl, M⟩
   have hS := (⟨(M.less hJ70 hoJ41), trivial⟩ : _ ∧ _)
   refine ⟨fun _ => hS, ?_⟩
   replace M := M.less hJ70 hoJ41
   refine wa_q 16 rfl (by kernel_rfl) (q_guard 8 rfl rfl rfl hg63 (q_not rfl)) hS rfl rfl ?_
   refine wa_q 17 rfl (by kernel_rfl) (q_pickF rfl hg63 rfl) hS rfl rfl ?_
   refine wa_q 18 rfl (by kernel_rfl) (q_move rfl) hS rfl rfl ?_
   rcases Bool.eq_false_or_eq_true (!(relS b x0 z)) with hg73 | hg73
   ·refine wa_q 19 rfl (by kernel_rfl) (q_off 18 rfl rfl rfl hg73) hS rfl rfl ?_
    refine wa_q 20 rfl (by kernel_rfl) (q_off 18 rfl rfl rfl hg73) hS rfl rfl ?_
    refine wa_q 21 rfl (by kernel_rfl) (q_off 18 rfl rfl rfl hg73) hS rfl rfl ?_
    refine wa_q 22 rfl (by kernel_rfl) (q_off 18 rfl rfl rfl hg73) hS rfl rfl ?_
    refine wa_q 25 rfl (by kernel_rfl) (q_off 18 rfl rfl rfl hg73) hS rfl rfl ?_
    refine wa_q 23 rfl (by kernel_rfl) (q_off 18 rfl rfl rfl hg73) hS rfl rfl ?_
    refine wa_q 24 rfl (by kernel_rfl) (q_off 18 rfl rfl rfl hg73) hS rfl rfl ?_
    refine wa_q 26 rfl (by kernel_rfl) (q_off 18 rfl rfl rfl hg73) hS rfl rfl ?_
    refine wa_q 27 rfl (by kernel_rfl) (q_pickT rfl hg73 rfl) hS rfl rfl ?_
    refine wa_q 28 rfl (by kernel_rfl) (q_move rfl) hS rfl rfl ?_
    refine wa_q 29 rfl (by kernel_rfl) (q_off 28 rfl rfl rfl rfl) hS rfl rfl ?_
    refine wa_q 30 rfl (by kernel_rfl) (q_off 28 rfl rfl rfl rfl) hS rfl rfl ?_
    refine wa_q 31 rfl (by kernel_rfl) (q_off 28 rfl rfl rfl rfl) hS rfl rfl ?_
    refine wa_q 32 rfl (by kernel_rfl) (q_offu 31 rfl rfl rfl) hS rfl rfl ?_
    refine wa_q 33 rfl (by kernel_rfl) (q_offu 31 rfl rfl rfl) hS rfl rfl ?_
    refine wa_q 34 rfl (by kernel_rfl) (q_offu 31 rfl rfl rfl) hS rfl rfl ?_
    refine wa_q 35 rfl (by kernel_rfl) (q_offu 31 rfl rfl rfl) hS rfl rfl ?_
    refine wa_q 36 rfl (by kernel_rfl) (q_offu 31 rfl rfl rfl) hS rfl rfl ?_
    refine wa_q 37 rfl (by kernel_rfl) (q_offu 31 rfl rfl rfl) hS rfl rfl ?_
    refine wa_q 38 rfl (by kernel_rfl) (q_offu 31 rfl rfl rfl) hS rfl rfl ?_
    refine wa_q 39 rfl (by kernel_rfl) (q_offu 31 rfl rfl rfl) hS rfl rfl ?_
    refine wa_q 40 rfl (by kernel_rfl) (q_offu 31 rfl rfl rfl) hS rfl rfl ?_
    refine wa_q 41 rfl (by kernel_rfl) (q_offu 31 rfl rfl rfl) hS rfl rfl ?_
    refine wa_q 42 rfl (by kernel_rfl) (q_offu 31 rfl rfl rfl) hS rfl rfl ?_
    refine wa_q 43 rfl (by kernel_rfl) (q_off 28 rfl rfl rfl rfl) hS rfl rfl ?_
    refine wa_q 44 rfl (by kernel_rfl) (q_pickT rfl rfl rfl) hS rfl rfl ?_
    refine wa_done (by kernel_rfl) ?_
    exact ⟨(), M, ⟨(show some (Value.bool true) = some (Value.bool ((((!(relS a x x0)) || (!(relS b x0 z))) || (decide (nI < ((runesL x0).length : Int)))) || ((decide (0 < (k0 : Int))) && (!(slxB (runesL xp) (runesL x0)))))) from by first | (simp only [hg63, hg73, Bool.true_or, Bool.false_or, Bool.true_and, Bool.false_and, Bool.or_true, Bool.or_false, Bool.and_true, Bool.and_false]; done) | (simp_all; done) | (simp_all; omega)), trivial⟩, unw_take 45 rfl rfl⟩
   refine wa_q 19 rfl (by kernel_rfl) (q_guard 18 rfl rfl rfl hg73 (q_move rfl)) hS rfl rfl ?_
   refine wa_q 20 rfl (by kernel_rfl) (q_guard 18 rfl rfl rfl hg73 (q_move rfl)) hS rfl rfl ?_
   refine wa_ixSG (j := k0) 18 rfl rfl rfl hg73 21 hS (fun _ h => R41.mono h.1.imm) rfl (by kernel_rfl) Tryz.underlying31 rfl rfl hx0 rfl (fun b76 o76 p76 => ?_)
   refine wa_q 22 rfl (by kernel_rfl) (q_guard 18 rfl rfl rfl hg73 (q_ldp p76 rfl rfl)) hS rfl rfl ?_
   refine wa_q 25 rfl (by kernel_rfl) (q_guard 18 rfl rfl rfl hg73 (q_move rfl)) hS rfl rfl ?_
   refine wa_e 23 rfl (by kernel_rfl) (e_guard 18 rfl rfl rfl hg73 (e_cvRI (E := ERune) (s := x0) M (fun _ => rfl) Tryz.underlying9 Tryz.underlying29 Tryz.underlying21 (by omega) rfl)) rfl rfl ?_
   rintro v78 w14 ⟨J78, hJ78, R78, M⟩
   obtain ⟨u78, rfl⟩ := rdSl_slice R78
   have hoJ78 := M.old
   have hS := (⟨(M.less hJ78 hoJ41), trivial⟩ : _ ∧ _)
   refine ⟨fun _ => hS, ?_⟩
   replace R78 : rdSl ERune J78 (sv u78) (runesL x0) := R78
   refine wa_q 24 rfl (by kernel_rfl) (q_guard 18 rfl rfl rfl hg73 (q_lenR R78 Tryz.underlying29 rfl)) hS rfl rfl ?_
   refine wa_q 26 rfl (by kernel_rfl) (q_guard 18 rfl rfl rfl hg73 (q_gtr rfl rfl)) hS rfl rfl ?_
   refine wa_q 27 rfl (by kernel_rfl) (q_pickF rfl hg73 rfl) hS rfl rfl ?_
   refine wa_q 28 rfl (by kernel_rfl) (q_move rfl) hS rfl rfl ?_
   rcases Bool.eq_false_or_eq_true (decide (nI < ((runesL x0).length : Int))) with hg83 | hg83
   ·refine wa_q 29 rfl (by kernel_rfl) (q_off 28 rfl rfl rfl hg83) hS rfl rfl ?_
    refine wa_q 30 rfl (by kernel_rfl) (q_off 28 rfl rfl rfl hg83) hS rfl rfl ?_
    refine wa_q 31 rfl (by kernel_rfl) (q_off 28 rfl rfl rfl hg83) hS rfl rfl ?_
    refine wa_q 32 rfl (by kernel_rfl) (q_offu 31 rfl rfl rfl) hS rfl rfl ?_
    refine wa_q 33 rfl (by kernel_rfl) (q_offu 31 rfl rfl rfl) hS rfl rfl ?_
    refine wa_q 34 rfl (by kernel_rfl) (q_offu 31 rfl rfl rfl) hS rfl rfl ?_
    refine wa_q 35 rfl (by kernel_rfl) (q_offu 31 rfl rfl rfl) hS rfl rfl ?_
    refine wa_q 36 rfl (by kernel_rfl) (q_offu 31 rfl rfl rfl) hS rfl rfl ?_
    refine wa_q 37 rfl (by kernel_rfl) (q_offu 31 rfl rfl rfl) hS rfl rfl ?_
    refine wa_q 38 rfl (by kernel_rfl) (q_offu 31 rfl rfl rfl) hS rfl rfl ?_
    refine wa_q 39 rfl (by kernel_rfl) (q_offu 31 rfl rfl rfl) hS rfl rfl ?_
    refine wa_q 40 rfl (by kernel_rfl) (q_offu 31 rfl rfl rfl) hS rfl rfl ?_
    refine wa_q 41 rfl (by kernel_rfl) (q_offu 31 rfl rfl rfl) hS rfl rfl ?_
    refine wa_q 42 rfl (by kernel_rfl) (q_offu 31 rfl rfl rfl) hS rfl rfl ?_
    refine wa_q 43 rfl (by kernel_rfl) (q_off 28 rfl rfl rfl hg83) hS rfl rfl ?_
    refine wa_q 44 rfl (by kernel_rfl) (q_pickT rfl hg83 rfl) hS rfl rfl ?_
    refine wa_done (by kernel_rfl) ?_
    replace M := M.less hJ78 hoJ41
    exact ⟨(), M, ⟨(show some (Value.bool true) = some (Value.bool ((((!(relS a x x0)) || (!(relS b x0 z))) || (decide (nI < ((runesL x0).length : Int)))) || ((decide (0 < (k0 : Int))) && (!(slxB (runesL xp) (runesL x0)))))) from by first | (simp only [hg63, hg73, hg83, Bool.true_or, Bool.false_or, Bool.true_and, Bool.false_and, Bool.or_true, Bool.or_false, Bool.and_true, Bool.and_false]; done) | (simp_all; done) | (simp_all; omega)), trivial⟩, unw_take 45 rfl rfl⟩
   refine wa_q 29 rfl (by kernel_rfl) (q_guard 28 rfl rfl rfl hg83 (q_move rfl)) hS rfl rfl ?_
   refine wa_q 30 rfl (by kernel_rfl) (q_guard 28 rfl rfl rfl hg83 (q_gtr rfl rfl)) hS rfl rfl ?_
   refine wa_q 31 rfl (by kernel_rfl) (q_guard 28 rfl rfl rfl hg83 (q_move rfl)) hS rfl rfl ?_
   rcases Bool.eq_false_or_eq_true (decide (0 < (k0 : Int))) with hg86 | hg86
   ·refine wa_q 32 rfl (by kernel_rfl) (q_guard 31 rfl rfl rfl hg86 (q_move rfl)) hS rfl rfl ?_
    refine wa_q 33 rfl (by kernel_rfl) (q_guard 31 rfl rfl rfl hg86 (q_move rfl)) hS rfl rfl ?_
    refine wa_q 34 rfl (by kernel_rfl) (q_guard 31 rfl rfl rfl hg86 (q_sub rfl rfl (IntWalk.i64_in _ (by omega)))) hS rfl rfl ?_
    have hk0 : 0 < k0 := by have := of_decide_eq_true hg86; omega
    have hxp : o41[k0 - 1]? = some xp := by rw [hxpe]; exact getD_at (by omega)
    have hlp := (hbo.len xp (List.mem_of_getElem? hxp)).2
    have hsl := hbo.srt (k0 - 1) xp x0 hxp (by rw [show k0 - 1 + 1 = k0 by omega]; exact hx0)
    refine wa_ixSG (j := (k0 - 1)) 31 rfl rfl rfl hg86 35 hS (fun _ h => R41.mono h.1.imm) rfl (by kernel_rfl) Tryz.underlying31 rfl (ixe (by omega)) hxp rfl (fun b90 o90 p90 => ?_)
    refine wa_q 36 rfl (by kernel_rfl) (q_guard 31 rfl rfl rfl hg86 (q_ldp p90 rfl rfl)) hS rfl rfl ?_
    refine wa_q 37 rfl (by kernel_rfl) (q_guard 31 rfl rfl rfl hg86 (q_move rfl)) hS rfl rfl ?_
    refine wa_q 38 rfl (by kernel_rfl) (q_guard 31 rfl rfl rfl hg86 (q_move rfl)) hS rfl rfl ?_
    refine wa_ixSG (j := k0) 31 rfl rfl rfl hg86 39 hS (fun _ h => R41.mono h.1.imm) rfl (by kernel_rfl) Tryz.underlying31 rfl rfl hx0 rfl (fun b94 o94 p94 => ?_)
    refine wa_q 40 rfl (by kernel_rfl) (q_guard 31 rfl rfl rfl hg86 (q_ldp p94 rfl rfl)) hS rfl rfl ?_
    refine wa_e 41 rfl (by kernel_rfl) (e_guard 31 rfl rfl rfl hg86 (e_callC M (before_c xp x0 (by omega) (by omega) M.imm) Tryz.func17 rfl rfl)) rfl rfl ?_
    rintro _ w15 ⟨J96, hJ96, rfl, M⟩
    have hS := (⟨(M.less (hle.trans hJ78 hJ96) hoJ41), trivial⟩ : _ ∧ _)
    refine ⟨fun _ => hS, ?_⟩
    replace M := M.less hJ96 hoJ78
    refine wa_q 42 rfl (by kernel_rfl) (q_guard 31 rfl rfl rfl hg86 (q_not rfl)) hS rfl rfl ?_
    refine wa_q 43 rfl (by kernel_rfl) (q_guard 28 rfl rfl rfl hg83 (q_pickT rfl hg86 rfl)) hS rfl rfl ?_
    refine wa_q 44 rfl (by kernel_rfl) (q_pickF rfl hg83 rfl) hS rfl rfl ?_
    refine wa_done (by kernel_rfl) ?_
    replace M := M.less hJ78 hoJ41
    exact ⟨(), M, ⟨(show some (Value.bool (!(slxB (runesL xp) (runesL x0)))) = some (Value.bool ((((!(relS a x x0)) || (!(relS b x0 z))) || (decide (nI < ((runesL x0).length : Int)))) || ((decide (0 < (k0 : Int))) && (!(slxB (runesL xp) (runesL x0)))))) from by first | (simp only [hg63, hg73, hg83, hg86, Bool.true_or, Bool.false_or, Bool.true_and, Bool.false_and, Bool.or_true, Bool.or_false, Bool.and_true, Bool.and_false]; done) | (simp_all; done) | (simp_all; omega)), trivial⟩, unw_take 45 rfl rfl⟩
   refine wa_q 32 rfl (by kernel_rfl) (q_off 31 rfl rfl rfl hg86) hS rfl rfl ?_
   refine wa_q 33 rfl (by kernel_rfl) (q_off 31 rfl rfl rfl hg86) hS rfl rfl ?_
   refine wa_q 34 rfl (by kernel_rfl) (q_off 31 rfl rfl rfl hg86) hS rfl rfl ?_
   refine wa_q 35 rfl (by kernel_rfl) (q_off 31 rfl rfl rfl hg86) hS rfl rfl ?_
   refine wa_q 36 rfl (by kernel_rfl) (q_off 31 rfl rfl rfl hg86) hS rfl rfl ?_
   refine wa_q 37 rfl (by kernel_rfl) (q_off 31 rfl rfl rfl hg86) hS rfl rfl ?_
   refine wa_q 38 rfl (by kernel_rfl) (q_off 31 rfl rfl rfl hg86) hS rfl rfl ?_
   refine wa_q 39 rfl (by kernel_rfl) (q_off 31 rfl rfl rfl hg86) hS rfl rfl ?_
   refine wa_q 40 rfl (by kernel_rfl) (q_off 31 rfl rfl rfl hg86) hS rfl rfl ?_
   refine wa_q 41 rfl (by kernel_rfl) (q_off 31 rfl rfl rfl hg86) hS rfl rfl ?_
   refine wa_q 42 rfl (by kernel_rfl) (q_off 31 rfl rfl rfl hg86) hS rfl rfl ?_
   refine wa_q 43 rfl (by kernel_rfl) (q_guard 28 rfl rfl rfl hg83 (q_pickF rfl hg86 rfl)) hS rfl rfl ?_
   refine wa_q 44 rfl (by kernel_rfl) (q_pickF rfl hg83 rfl) hS rfl rfl ?_
   refine wa_done (by kernel_rfl) ?_
   replace M := M.less hJ78 hoJ41
   exact ⟨(), M, ⟨(show some (Value.bool false) = some (Value.bool ((((!(relS a x x0)) || (!(relS b x0 z))) || (decide (nI < ((runesL x0).length : Int)))) || ((decide (0 < (k0 : Int))) && (!(slxB (runesL xp) (runesL x0)))))) from by first | (simp only [hg63, hg73, hg83, hg86, Bool.true_or, Bool.false_or, Bool.true_and, Bool.false_and, Bool.or_true, Bool.or_false, Bool.and_true, Bool.and_false]; done) | (simp_all; done) | (simp_all; omega)), trivial⟩, unw_take 45 rfl rfl⟩
  rintro _ jr9 w16 M
  refine wc_cond rfl (fun ht99 => ?_) (fun ht99 => ?_)
  ·have hsl9 : (decide (0 < (k0 : Int)) && !slxB (runesL xp) (runesL x0)) = false := by
     by_cases hk0 : 0 < k0
     · have hsl := hbo.srt (k0 - 1) xp x0 (by rw [hxpe]; exact getD_at (by omega)) (by rw [show k0 - 1 + 1 = k0 by omega]; exact hx0)
       rw [hsl]; simp
     · rw [decide_eq_false (by omega)]; rfl
   rw [hr1, hr2, hsl9, decide_eq_false (by omega)] at ht99
   exact absurd ht99 (by decide)
  refine wc_skip ?_
  refine wc_region ?_
  refine wl_mv M rfl rfl ?_
  refine wl_m M (q_add rfl rfl (IntWalk.i64_in _ (by omega))) rfl rfl ?_
  refine wl_as M rfl rfl ?_
  refine wl_nil ?_
  refine ⟨(k0 + 1), ?_, ⟨(by omega), M⟩, ⟨rfl, trivial⟩, unw_look rfl (unw_hav rfl (unw_look rfl unw_base))⟩
  show o41.length - (k0 + 1) < o41.length - k0
  omega
 have hke0 : k0 = o41.length := by omega
 refine wc_exit rfl ?_
 refine wc_seq ?_
 refine wc_region ?_
 refine wl_as M rfl rfl ?_
 refine wl_nil ?_
 refine wc_ret ?_
 exact out1 rfl rfl ⟨_, _, rfl, M.grow, rfl⟩
end Go.Proofs.YtmjieefhjmiagaaGreatDoor.G
