/- Walks of the program's functions. -/
import Derived.Test.YtmjieefhjmiagaaGreatDoorWE
import Derived.Test.YtmjieefhjmiagaaGreatDoorGChk
set_option linter.all false
namespace Go.Proofs.YtmjieefhjmiagaaGreatDoor.G
open Go Go.RowKit
theorem runes3_c (s : ByteArray) (hs : s.size ≤ 70368744177664) {I : Heap} {w : World} (hI : hle I (hp w)) (hT : Tabs I) : Calls A 67 #[.string s] w (Ret w I fun r I' => ∃ u : SV, r = .tuple #[sv u, .bool (okR s)] ∧ rdSl ERune I' (sv u) (runesR s)) := by
 have M := Mem.start hI
 refine enter Tryz.func67 rfl 23 Tryz.ntmps67 [_] rfl ?_
 refine wc_seq ?_
 refine wc_region ?_
 refine wl_as M rfl rfl ?_
 refine wl_as M rfl rfl ?_
 refine wl_nil ?_
 refine wc_seq ?_
 refine wc_seq ?_
 refine wc_region ?_
 refine wl_mv M rfl rfl ?_
 refine wl_e (e_callC M (validS_c s hs M.imm hT) Tryz.func101 rfl rfl) rfl rfl ?_
 rintro _ w1 ⟨J7, hJ7, rfl, M⟩
 replace M := M.less hJ7 (fun _ _ => rfl)
 refine wl_m M (q_not rfl) rfl rfl ?_
 refine wl_nil ?_
 refine wc_cond rfl (fun ht8 => ?_) (fun ht8 => ?_)
 ·refine wc_seq ?_
  refine wc_region ?_
  refine wl_as M rfl rfl ?_
  refine wl_as M rfl rfl ?_
  refine wl_nil ?_
  refine wc_ret ?_
  exact out2 rfl rfl rfl ⟨_, _, rfl, M.grow, nilV, by rw [okR, show Lib.validD s.data.toList = false by simpa using ht8]; rfl, by rw [runesR, okR, show Lib.validD s.data.toList = false by simpa using ht8]; exact rdSl_nil _⟩
 refine wc_skip ?_
 refine wc_seq ?_
 refine wc_region ?_
 refine wl_mv M rfl rfl ?_
 refine wl_e (e_cvRI (E := ERune) (s := s) M (fun _ => rfl) Tryz.underlying9 Tryz.underlying29 Tryz.underlying21 hs rfl) rfl rfl ?_
 rintro v10 w2 ⟨J10, hJ10, R10, M⟩
 obtain ⟨u10, rfl⟩ := rdSl_slice R10
 have hoJ10 := M.old
 replace R10 : rdSl ERune J10 (sv u10) (runesL s) := R10
 refine wl_as M rfl rfl ?_
 refine wl_nil ?_
 refine wc_seq ?_
 refine wc_seq ?_
 refine wc_region ?_
 refine wl_as M rfl rfl ?_
 refine wl_nil ?_
 refine wc_block ?_
 refine wc_loop (α := Nat) [2, 3, 5, 11, 12, 13, 14, 15, 16, 17, 18, 19, 20, 21] (fun (k0 : Nat) => [(5, .int .i64 (k0 : Int))])
   (fun (k0 : Nat) w' => (k0 ≤ (runesL s).length) ∧ ((0 : Int) ∉ (runesL s).take k0) ∧ Mem w I J10 ([]) w')
   (fun (k0 : Nat) => (runesL s).length - k0) (0) ⟨rfl, trivial⟩ ?_ ?_
 ·refine ⟨Nat.zero_le _, by simp, ?_⟩
  exact M
 rintro k0 jj0 w3 ⟨hk0, hn, M⟩
 have hoJ10 := M.old
 refine wc_seq ?_
 refine wc_seq ?_
 refine wc_region ?_
 refine wl_mv M rfl rfl ?_
 refine wl_mv M rfl rfl ?_
 refine wl_m M (q_lenR R10 Tryz.underlying29 rfl) rfl rfl ?_
 refine wl_m M (q_lss rfl rfl) rfl rfl ?_
 refine wl_nil ?_
 refine wc_dec rfl (fun ht14 => ?_) (fun ht14 => ?_)
 ·obtain ⟨x0, hx0⟩ : ∃ x_, (runesL s)[k0]? = some x_ := ⟨_, List.getElem?_eq_getElem (by omega)⟩
  have hll0 := (R10).len_le
  have hll0 := R10.len_le
  refine wc_skip ?_
  refine wc_seq ?_
  refine wc_block ?_
  refine wc_seq ?_
  refine wc_region ?_
  refine wl_mv M rfl rfl ?_
  refine wl_mv M rfl rfl ?_
  refine wl_ix (j := k0) M R10 Tryz.underlying29 rfl rfl hx0 rfl (fun b19 o19 p19 => ?_)
  refine wl_m M (q_ldp p19 rfl rfl) rfl rfl ?_
  refine wl_m M (q_eql rfl rfl) rfl rfl ?_
  refine wl_nil ?_
  refine wc_dec rfl (fun ht21 => ?_) (fun ht21 => ?_)
  ·refine wc_seq ?_
   refine wc_region ?_
   refine wl_as M rfl rfl ?_
   refine wl_as M rfl rfl ?_
   refine wl_nil ?_
   refine wc_ret ?_
   have hko : okR s = false := by rw [okR, decide_eq_true (List.mem_of_getElem? (ht21 ▸ hx0))]; simp
   exact out2 rfl rfl rfl ⟨_, _, rfl, M.grow, nilV, by rw [hko]; rfl, by rw [runesR, hko]; exact rdSl_nil _⟩
  refine wc_skip ?_
  refine wc_region ?_
  refine wl_mv M rfl rfl ?_
  refine wl_m M (q_add rfl rfl (IntWalk.i64_in _ (by omega))) rfl rfl ?_
  refine wl_as M rfl rfl ?_
  refine wl_nil ?_
  refine ⟨(k0 + 1), ?_, ⟨(by omega), (by rw [take_snoc hx0]; simp only [List.mem_append, List.mem_singleton, not_or]; exact ⟨hn, fun e => ht21 e.symm⟩), M⟩, ⟨rfl, trivial⟩, unw_look rfl unw_base⟩
  show (runesL s).length - (k0 + 1) < (runesL s).length - k0
  omega
 have hke0 : k0 = (runesL s).length := by omega
 rw [hke0, List.take_length] at hn
 refine wc_exit rfl ?_
 refine wc_seq ?_
 refine wc_region ?_
 refine wl_mv M rfl rfl ?_
 refine wl_as M rfl rfl ?_
 refine wl_as M rfl rfl ?_
 refine wl_nil ?_
 refine wc_ret ?_
 have hko : okR s = true := by rw [okR, decide_eq_false hn, show Lib.validD s.data.toList = true by simpa using ht8]; rfl
 exact out2 rfl rfl rfl ⟨_, _, rfl, M.grow, u10, by rw [hko], by rw [runesR, if_pos hko]; exact R10⟩
theorem check5_c (a b : Tra) (x z : ByteArray) (hx : x.size ≤ 70368744177664) (hz : z.size ≤ 70368744177664) {v1 v2 : Value} {I : Heap} {w : World} (hI : hle I (hp w)) (hT : Tabs I) (R1 : a.rd I v1) (R2 : b.rd I v2) :
    Calls A 30 #[v1, v2, .string x, .string z] w (Ret w I fun r _ => r = .int .i64 (chk5 a b x z)) := by
 obtain ⟨fu1, au1, rfl, Rf1, Ra1⟩ := R1
 obtain ⟨fu2, au2, rfl, Rf2, Ra2⟩ := R2
 have M := Mem.start hI
 refine enter Tryz.func30 rfl 47 Tryz.ntmps30 [_, _, _, _] rfl ?_
 refine wc_seq ?_
 refine wc_region ?_
 refine wl_e (e_box M rfl) rfl rfl ?_
 rintro _ w1 ⟨b4, rfl, M⟩
 refine wl_e (e_box M rfl) rfl rfl ?_
 rintro _ w2 ⟨b5, rfl, M⟩
 refine wl_as M rfl rfl ?_
 refine wl_nil ?_
 refine wc_seq ?_
 refine wc_region ?_
 refine wl_mv M rfl rfl ?_
 refine wl_e (e_callC M (runes3_c x hx M.imm hT) Tryz.func67 rfl rfl) rfl rfl ?_
 rintro _ w3 ⟨J15, hJ15, ⟨u15, rfl, R15⟩, M⟩
 have hoJ15 := M.old
 refine wl_mv M rfl rfl ?_
 refine wl_m M (q_ext rfl rfl) rfl rfl ?_
 refine wl_m M (q_ext rfl rfl) rfl rfl ?_
 refine wl_as M rfl rfl ?_
 refine wl_as M rfl rfl ?_
 refine wl_nil ?_
 refine wc_seq ?_
 refine wc_region ?_
 refine wl_mv M rfl rfl ?_
 refine wl_e (e_callC M (runes3_c z hz M.imm (hT.mono hJ15)) Tryz.func67 rfl rfl) rfl rfl ?_
 rintro _ w4 ⟨J20, hJ20, ⟨u20, rfl, R20⟩, M⟩
 have hoJ20 := M.old
 refine wl_mv M rfl rfl ?_
 refine wl_m M (q_ext rfl rfl) rfl rfl ?_
 refine wl_m M (q_ext rfl rfl) rfl rfl ?_
 refine wl_as M rfl rfl ?_
 refine wl_as M rfl rfl ?_
 refine wl_nil ?_
 refine wc_seq ?_
 refine wc_seq ?_
 refine wc_join (α := Unit) [23, 24, 25, 26, 27, 28, 29, 30, 31, 32, 33, 34, 35, 36, 37, 38] (fun _ => [(38, .bool ((((!(validT a)) || (!(validT b))) || (!(okR x))) || (!(okR z))))]) (fun _ w' => Mem w I J20 (box b5 25 [.int .i64 b.states, .int .i64 b.start, sv fu2, sv au2] :: box b4 25 [.int .i64 a.states, .int .i64 a.start, sv fu1, sv au1] :: []) w') ?_ ?_
 ·refine wc_region ?_
  refine wl_m M (q_ldbA 1 Tryz.underlying25 rfl sz25 rfl rfl rfl rfl) rfl rfl ?_
  refine wl_e (e_callC M (valid3_c a M.imm ⟨fu1, au1, rfl, ((Rf1.mono hJ15).mono hJ20), ((Ra1.mono hJ15).mono hJ20)⟩) Tryz.func40 rfl rfl) rfl rfl ?_
  rintro _ w5 ⟨J24, hJ24, rfl, M⟩
  replace M := M.less hJ24 hoJ20
  refine wl_m M (q_not rfl) rfl rfl ?_
  refine wl_mv M rfl rfl ?_
  rcases Bool.eq_false_or_eq_true (!(validT a)) with hg26 | hg26
  ·refine wl_m M (q_off 3 rfl rfl rfl hg26) rfl rfl ?_
   refine wl_m M (q_off 3 rfl rfl rfl hg26) rfl rfl ?_
   refine wl_m M (q_off 3 rfl rfl rfl hg26) rfl rfl ?_
   refine wl_m M (q_pickT rfl hg26 rfl) rfl rfl ?_
   refine wl_mv M rfl rfl ?_
   refine wl_m M (q_off 8 rfl rfl rfl rfl) rfl rfl ?_
   refine wl_m M (q_off 8 rfl rfl rfl rfl) rfl rfl ?_
   refine wl_m M (q_pickT rfl rfl rfl) rfl rfl ?_
   refine wl_mv M rfl rfl ?_
   refine wl_m M (q_off 12 rfl rfl rfl rfl) rfl rfl ?_
   refine wl_m M (q_off 12 rfl rfl rfl rfl) rfl rfl ?_
   refine wl_m M (q_pickT rfl rfl rfl) rfl rfl ?_
   refine wl_nil ?_
   exact ⟨(), M, ⟨(show some (Value.bool true) = some (Value.bool ((((!(validT a)) || (!(validT b))) || (!(okR x))) || (!(okR z)))) from by first | (simp only [hg26, Bool.true_or, Bool.false_or, Bool.true_and, Bool.false_and, Bool.or_true, Bool.or_false, Bool.and_true, Bool.and_false]; done) | (simp_all; done) | (simp_all; omega)), trivial⟩, unw_take 16 rfl rfl⟩
  refine wl_m M (q_guard 3 rfl rfl rfl hg26 (q_ldbA 0 Tryz.underlying25 rfl sz25 rfl rfl rfl rfl)) rfl rfl ?_
  refine wl_e (e_guard 3 rfl rfl rfl hg26 (e_callC M (valid3_c b M.imm ⟨fu2, au2, rfl, ((Rf2.mono hJ15).mono hJ20), ((Ra2.mono hJ15).mono hJ20)⟩) Tryz.func40 rfl rfl)) rfl rfl ?_
  rintro _ w6 ⟨J28, hJ28, rfl, M⟩
  replace M := M.less hJ28 hoJ20
  refine wl_m M (q_guard 3 rfl rfl rfl hg26 (q_not rfl)) rfl rfl ?_
  refine wl_m M (q_pickF rfl hg26 rfl) rfl rfl ?_
  refine wl_mv M rfl rfl ?_
  rcases Bool.eq_false_or_eq_true (!(validT b)) with hg31 | hg31
  ·refine wl_m M (q_off 8 rfl rfl rfl hg31) rfl rfl ?_
   refine wl_m M (q_off 8 rfl rfl rfl hg31) rfl rfl ?_
   refine wl_m M (q_pickT rfl hg31 rfl) rfl rfl ?_
   refine wl_mv M rfl rfl ?_
   refine wl_m M (q_off 12 rfl rfl rfl rfl) rfl rfl ?_
   refine wl_m M (q_off 12 rfl rfl rfl rfl) rfl rfl ?_
   refine wl_m M (q_pickT rfl rfl rfl) rfl rfl ?_
   refine wl_nil ?_
   exact ⟨(), M, ⟨(show some (Value.bool true) = some (Value.bool ((((!(validT a)) || (!(validT b))) || (!(okR x))) || (!(okR z)))) from by first | (simp only [hg26, hg31, Bool.true_or, Bool.false_or, Bool.true_and, Bool.false_and, Bool.or_true, Bool.or_false, Bool.and_true, Bool.and_false]; done) | (simp_all; done) | (simp_all; omega)), trivial⟩, unw_take 16 rfl rfl⟩
  refine wl_m M (q_guard 8 rfl rfl rfl hg31 (q_move rfl)) rfl rfl ?_
  refine wl_m M (q_guard 8 rfl rfl rfl hg31 (q_not rfl)) rfl rfl ?_
  refine wl_m M (q_pickF rfl hg31 rfl) rfl rfl ?_
  refine wl_mv M rfl rfl ?_
  rcases Bool.eq_false_or_eq_true (!(okR x)) with hg35 | hg35
  ·refine wl_m M (q_off 12 rfl rfl rfl hg35) rfl rfl ?_
   refine wl_m M (q_off 12 rfl rfl rfl hg35) rfl rfl ?_
   refine wl_m M (q_pickT rfl hg35 rfl) rfl rfl ?_
   refine wl_nil ?_
   exact ⟨(), M, ⟨(show some (Value.bool true) = some (Value.bool ((((!(validT a)) || (!(validT b))) || (!(okR x))) || (!(okR z)))) from by first | (simp only [hg26, hg31, hg35, Bool.true_or, Bool.false_or, Bool.true_and, Bool.false_and, Bool.or_true, Bool.or_false, Bool.and_true, Bool.and_false]; done) | (simp_all; done) | (simp_all; omega)), trivial⟩, unw_take 16 rfl rfl⟩
  refine wl_m M (q_guard 12 rfl rfl rfl hg35 (q_move rfl)) rfl rfl ?_
  refine wl_m M (q_guard 12 rfl rfl rfl hg35 (q_not rfl)) rfl rfl ?_
  refine wl_m M (q_pickF rfl hg35 rfl) rfl rfl ?_
  refine wl_nil ?_
  exact ⟨(), M, ⟨(show some (Value.bool (!(okR z))) = some (Value.bool ((((!(validT a)) || (!(validT b))) || (!(okR x))) || (!(okR z)))) from by first | (simp only [hg26, hg31, hg35, Bool.true_or, Bool.false_or, Bool.true_and, Bool.false_and, Bool.or_true, Bool.or_false, Bool.and_true, Bool.and_false]; done) | (simp_all; done) | (simp_all; omega)), trivial⟩, unw_take 16 rfl rfl⟩
 rintro _ jr3 w7 M
 refine wc_cond rfl (fun ht38 => ?_) (fun ht38 => ?_)
 ·refine wc_seq ?_
  refine wc_region ?_
  refine wl_as M rfl rfl ?_
  refine wl_nil ?_
  refine wc_ret ?_
  exact out1 rfl rfl ⟨_, _, rfl, M.grow, by rw [chk5, if_pos ht38]⟩
 refine wc_skip ?_
 refine wc_seq ?_
 refine wc_seq ?_
 refine wc_join (α := Unit) [39, 40, 41, 42, 43, 44, 45, 46] (fun _ => [(46, .bool ((decide (40 < ((runesR x).length : Int))) || (decide (40 < ((runesR z).length : Int)))))]) (fun _ w' => Mem w I J20 (box b5 25 [.int .i64 b.states, .int .i64 b.start, sv fu2, sv au2] :: box b4 25 [.int .i64 a.states, .int .i64 a.start, sv fu1, sv au1] :: []) w') ?_ ?_
 ·refine wc_region ?_
  refine wl_mv M rfl rfl ?_
  refine wl_m M (q_lenR (R15.mono hJ20) Tryz.underlying29 rfl) rfl rfl ?_
  refine wl_m M (q_gtr rfl rfl) rfl rfl ?_
  refine wl_mv M rfl rfl ?_
  rcases Bool.eq_false_or_eq_true (decide (40 < ((runesR x).length : Int))) with hg42 | hg42
  ·refine wl_m M (q_off 3 rfl rfl rfl hg42) rfl rfl ?_
   refine wl_m M (q_off 3 rfl rfl rfl hg42) rfl rfl ?_
   refine wl_m M (q_off 3 rfl rfl rfl hg42) rfl rfl ?_
   refine wl_m M (q_pickT rfl hg42 rfl) rfl rfl ?_
   refine wl_nil ?_
   exact ⟨(), M, ⟨(show some (Value.bool true) = some (Value.bool ((decide (40 < ((runesR x).length : Int))) || (decide (40 < ((runesR z).length : Int))))) from by first | (simp only [hg42, Bool.true_or, Bool.false_or, Bool.true_and, Bool.false_and, Bool.or_true, Bool.or_false, Bool.and_true, Bool.and_false]; done) | (simp_all; done) | (simp_all; omega)), trivial⟩, unw_take 8 rfl rfl⟩
  refine wl_m M (q_guard 3 rfl rfl rfl hg42 (q_move rfl)) rfl rfl ?_
  refine wl_m M (q_guard 3 rfl rfl rfl hg42 (q_lenR R20 Tryz.underlying29 rfl)) rfl rfl ?_
  refine wl_m M (q_guard 3 rfl rfl rfl hg42 (q_gtr rfl rfl)) rfl rfl ?_
  refine wl_m M (q_pickF rfl hg42 rfl) rfl rfl ?_
  refine wl_nil ?_
  exact ⟨(), M, ⟨(show some (Value.bool (decide (40 < ((runesR z).length : Int)))) = some (Value.bool ((decide (40 < ((runesR x).length : Int))) || (decide (40 < ((runesR z).length : Int))))) from by first | (simp only [hg42, Bool.true_or, Bool.false_or, Bool.true_and, Bool.false_and, Bool.or_true, Bool.or_false, Bool.and_true, Bool.and_false]; done) | (simp_all; done) | (simp_all; omega)), trivial⟩, unw_take 8 rfl rfl⟩
 rintro _ jr5 w8 M
 refine wc_cond rfl (fun ht46 => ?_) (fun ht46 => ?_)
 ·refine wc_seq ?_
  refine wc_region ?_
  refine wl_as M rfl rfl ?_
  refine wl_nil ?_
  refine wc_ret ?_
  exact out1 rfl rfl ⟨_, _, rfl, M.grow, by rw [chk5, if_neg (by rw [ht38]; decide), if_pos ht46]⟩
 refine wc_skip ?_
 refine wc_seq ?_
 refine wc_region ?_
 refine wl_as M rfl rfl ?_
 refine wl_nil ?_
 refine wc_ret ?_
 exact out1 rfl rfl ⟨_, _, rfl, M.grow, by rw [chk5, if_neg (by rw [ht38]; decide), if_neg (by rw [ht46]; decide)]⟩
end Go.Proofs.YtmjieefhjmiagaaGreatDoor.G
