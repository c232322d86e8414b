/- Walks of the program's functions. -/
import Derived.Test.YtmjieefhjmiagaaDoorWE
import Derived.Test.YtmjieefhjmiagaaDoorGChk
set_option linter.all false
namespace Go.Proofs.YtmjieefhjmiagaaDoor.G
open Go Go.RowKit
theorem runes3_c (s : ByteArray) (hs : s.size ≤ 70368744177664) {I : Heap} {w : World} (hI : hle I (hp w)) (hT : Tabs I) : Calls A 51 #[.string s] w (Ret w I fun r I' => ∃ u : SV, r = .tuple #[sv u, .bool (okR s)] ∧ rdSl ERune I' (sv u) (runesR s)) := by
 have M := Mem.start hI
 refine enter Tryd.func51 rfl 23 Tryd.ntmps51 [_] rfl ?_
 refine wc_seq ?_
 refine wc_region ?_
 refine wl_as M rfl rfl ?_
 refine wl_as M rfl rfl ?_
 refine wl_nil ?_
 refine wc_seq ?_
 refine wc_seq ?_
 refine wc_region ?_
 refine wl_mv M rfl rfl ?_
 refine wl_e (e_callC M (validS_c s hs M.imm hT) Tryd.func80 rfl rfl) rfl rfl ?_
 rintro _ w1 ⟨J7, hJ7, rfl, M⟩
 replace M := M.less hJ7 (fun _ _ => rfl)
 refine wl_m M (q_not rfl) rfl rfl ?_
 refine wl_nil ?_
 refine wc_cond rfl (fun ht8 => ?_) (fun ht8 => ?_)
 ·refine wc_seq ?_
  refine wc_region ?_
  refine wl_as M rfl rfl ?_
  refine wl_as M rfl rfl ?_
  refine wl_nil ?_
  refine wc_ret ?_
  exact out2 rfl rfl rfl ⟨_, _, rfl, M.grow, nilV, by rw [okR, show Lib.validD s.data.toList = false by simpa using ht8]; rfl, by rw [runesR, okR, show Lib.validD s.data.toList = false by simpa using ht8]; exact rdSl_nil _⟩
 refine wc_skip ?_
 refine wc_seq ?_
 refine wc_region ?_
 refine wl_mv M rfl rfl ?_
 refine wl_e (e_cvRI (E := ERune) (s := s) M (fun _ => rfl) Tryd.underlying9 Tryd.underlying84 Tryd.underlying21 hs rfl) rfl rfl ?_
 rintro v10 w2 ⟨J10, hJ10, R10, M⟩
 obtain ⟨u10, rfl⟩ := rdSl_slice R10
 have hoJ10 := M.old
 replace R10 : rdSl ERune J10 (sv u10) (runesL s) := R10
 refine wl_as M rfl rfl ?_
 refine wl_nil ?_
 refine wc_seq ?_
 refine wc_seq ?_
 refine wc_region ?_
 refine wl_as M rfl rfl ?_
 refine wl_nil ?_
 refine wc_block ?_
 refine wc_loop (α := Nat) [2, 3, 5, 11, 12, 13, 14, 15, 16, 17, 18, 19, 20, 21] (fun (k0 : Nat) => [(5, .int .i64 (k0 : Int))])
   (fun (k0 : Nat) w' => (k0 ≤ (runesL s).length) ∧ ((0 : Int) ∉ (runesL s).take k0) ∧ Mem w I J10 ([]) w')
   (fun (k0 : Nat) => (runesL s).length - k0) (0) ⟨rfl, trivial⟩ ?_ ?_
 ·refine ⟨Nat.zero_le _, by simp, ?_⟩
  exact M
 rintro k0 jj0 w3 ⟨hk0, hn, M⟩
 have hoJ10 := M.old
 refine wc_seq ?_
 refine wc_seq ?_
 refine wc_region ?_
 refine wl_mv M rfl rfl ?_
 refine wl_mv M rfl rfl ?_
 refine wl_m M (q_lenR R10 Tryd.underlying84 rfl) rfl rfl ?_
 refine wl_m M (q_lss rfl rfl) rfl rfl ?_
 refine wl_nil ?_
 refine wc_dec rfl (fun ht14 => ?_) (fun ht14 => ?_)
 ·obtain ⟨x0, hx0⟩ : ∃ x_, (runesL s)[k0]? = some x_ := ⟨_, List.getElem?_eq_getElem (by omega)⟩
  have hll0 := (R10).len_le
  have hll0 := R10.len_le
  refine wc_skip ?_
  refine wc_seq ?_
  refine wc_block ?_
  refine wc_seq ?_
  refine wc_region ?_
  refine wl_mv M rfl rfl ?_
  refine wl_mv M rfl rfl ?_
  refine wl_ix (j := k0) M R10 Tryd.underlying84 rfl rfl hx0 rfl (fun b19 o19 p19 => ?_)
  refine wl_m M (q_ldp p19 rfl rfl) rfl rfl ?_
  refine wl_m M (q_eql rfl rfl) rfl rfl ?_
  refine wl_nil ?_
  refine wc_dec rfl (fun ht21 => ?_) (fun ht21 => ?_)
  ·refine wc_seq ?_
   refine wc_region ?_
   refine wl_as M rfl rfl ?_
   refine wl_as M rfl rfl ?_
   refine wl_nil ?_
   refine wc_ret ?_
   have hko : okR s = false := by rw [okR, decide_eq_true (List.mem_of_getElem? (ht21 ▸ hx0))]; simp
   exact out2 rfl rfl rfl ⟨_, _, rfl, M.grow, nilV, by rw [hko]; rfl, by rw [runesR, hko]; exact rdSl_nil _⟩
  refine wc_skip ?_
  refine wc_region ?_
  refine wl_mv M rfl rfl ?_
  refine wl_m M (q_add rfl rfl (IntWalk.i64_in _ (by omega))) rfl rfl ?_
  refine wl_as M rfl rfl ?_
  refine wl_nil ?_
  refine ⟨(k0 + 1), ?_, ⟨(by omega), (by rw [take_snoc hx0]; simp only [List.mem_append, List.mem_singleton, not_or]; exact ⟨hn, fun e => ht21 e.symm⟩), M⟩, ⟨rfl, trivial⟩, unw_look rfl unw_base⟩
  show (runesL s).length - (k0 + 1) < (runesL s).length - k0
  omega
 have hke0 : k0 = (runesL s).length := by omega
 rw [hke0, List.take_length] at hn
 refine wc_exit rfl ?_
 refine wc_seq ?_
 refine wc_region ?_
 refine wl_mv M rfl rfl ?_
 refine wl_as M rfl rfl ?_
 refine wl_as M rfl rfl ?_
 refine wl_nil ?_
 refine wc_ret ?_
 have hko : okR s = true := by rw [okR, decide_eq_false hn, show Lib.validD s.data.toList = true by simpa using ht8]; rfl
 exact out2 rfl rfl rfl ⟨_, _, rfl, M.grow, u10, by rw [hko], by rw [runesR, if_pos hko]; exact R10⟩
theorem check5_c (a b : Tra) (x z : ByteArray) (hx : x.size ≤ 70368744177664) (hz : z.size ≤ 70368744177664) {v1 v2 : Value} {I : Heap} {w : World} (hI : hle I (hp w)) (hT : Tabs I) (R1 : a.rd I v1) (R2 : b.rd I v2) :
    Calls A 44 #[v1, v2, .string x, .string z] w (Ret w I fun r _ => r = .int .i64 (chk5 a b x z)) := by
 obtain ⟨fu1, au1, rfl, Rf1, Ra1⟩ := R1
 obtain ⟨fu2, au2, rfl, Rf2, Ra2⟩ := R2
 have M := Mem.start hI
 refine enter Tryd.func44 rfl 47 Tryd.ntmps44 [_, _, _, _] rfl ?_
 refine wc_seq ?_
 refine wc_region ?_
 refine wl_e (e_box M rfl) rfl rfl ?_
 rintro _ w1 ⟨b4, rfl, M⟩
 refine wl_e (e_box M rfl) rfl rfl ?_
 rintro _ w2 ⟨b5, rfl, M⟩
 refine wl_as M rfl rfl ?_
 refine wl_nil ?_
 refine wc_seq ?_
 refine wc_region ?_
 refine wl_mv M rfl rfl ?_
 refine wl_e (e_callC M (runes3_c x hx M.imm hT) Tryd.func51 rfl rfl) rfl rfl ?_
 rintro _ w3 ⟨J15, hJ15, ⟨u15, rfl, R15⟩, M⟩
 have hoJ15 := M.old
 refine wl_mv M rfl rfl ?_
 refine wl_m M (q_ext rfl rfl) rfl rfl ?_
 refine wl_m M (q_ext rfl rfl) rfl rfl ?_
 refine wl_as M rfl rfl ?_
 refine wl_as M rfl rfl ?_
 refine wl_nil ?_
 refine wc_seq ?_
 refine wc_region ?_
 refine wl_mv M rfl rfl ?_
 refine wl_e (e_callC M (runes3_c z hz M.imm (hT.mono hJ15)) Tryd.func51 rfl rfl) rfl rfl ?_
 rintro _ w4 ⟨J20, hJ20, ⟨u20, rfl, R20⟩, M⟩
 have hoJ20 := M.old
 refine wl_mv M rfl rfl ?_
 refine wl_m M (q_ext rfl rfl) rfl rfl ?_
 refine wl_m M (q_ext rfl rfl) rfl rfl ?_
 refine wl_as M rfl rfl ?_
 refine wl_as M rfl rfl ?_
 refine wl_nil ?_
 refine wc_seq ?_
 refine wc_seq ?_
 refine wc_join (α := Unit) [23, 24, 25, 26, 27, 28, 29, 30, 31, 32, 33, 34, 35, 36, 37, 38] (fun _ => [(38, .bool ((((!(validT a)) || (!(validT b))) || (!(okR x))) || (!(okR z))))]) (fun _ w' => Mem w I J20 (box b5 25 [.int .i64 b.states, .int .i64 b.start, sv fu2, sv au2] :: box b4 25 [.int .i64 a.states, .int .i64 a.start, sv fu1, sv au1] :: []) w') ?_ ?_
 ·refine wc_region ?_
  refine wl_m M (q_ldbA 1 Tryd.underlying25 rfl sz25 rfl rfl rfl rfl) rfl rfl ?_
  refine wl_e (e_callC M (valid3_c a M.imm ⟨fu1, au1, rfl, ((Rf1.mono hJ15).mono hJ20), ((Ra1.mono hJ15).mono hJ20)⟩) Tryd.func36 rfl rfl) rfl rfl ?_
  rintro _ w5 ⟨J24, hJ24, rfl, M⟩
  replace M := M.less hJ24 hoJ20
  refine wl_m M (q_not rfl) rfl rfl ?_
  refine wl_mv M rfl rfl ?_
  rcases Bool.eq_false_or_eq_true (!(validT a)) with hg26 | hg26
  ·refine wl_m M (q_off 3 rfl rfl rfl hg26) rfl rfl ?_
   refine wl_m M (q_off 3 rfl rfl rfl hg26) rfl rfl ?_
   refine wl_m M (q_off 3 rfl rfl rfl hg26) rfl rfl ?_
   refine wl_m M (q_pickT rfl hg26 rfl) rfl rfl ?_
   refine wl_mv M rfl rfl ?_
   refine wl_m M (q_off 8 rfl rfl rfl rfl) rfl rfl ?_
   refine wl_m M (q_off 8 rfl rfl rfl rfl) rfl rfl ?_
   refine wl_m M (q_pickT rfl rfl rfl) rfl rfl ?_
   refine wl_mv M rfl rfl ?_
   refine wl_m M (q_off 12 rfl rfl rfl rfl) rfl rfl ?_
   refine wl_m M (q_off 12 rfl rfl rfl rfl) rfl rfl ?_
   refine wl_m M (q_pickT rfl rfl rfl) rfl rfl ?_
   refine wl_nil ?_
   exact ⟨(), M, ⟨(show some (Value.bool true) = some (Value.bool ((((!(validT a)) || (!(validT b))) || (!(okR x))) || (!(okR z)))) from by first | (simp only [hg26, Bool.true_or, Bool.false_or, Bool.true_and, Bool.false_and, Bool.or_true, Bool.or_false, Bool.and_true, Bool.and_false]; done) | (simp_all; done) | (simp_all; omega)), trivial⟩, unw_take 16 rfl rfl⟩
  refine wl_m M (q_guard 3 rfl rfl rfl hg26 (q_ldbA 0 Tryd.underlying25 rfl sz25 rfl rfl rfl rfl)) rfl rfl ?_
  refine wl_e (e_guard 3 rfl rfl rfl hg26 (e_callC M (valid3_c b M.imm ⟨fu2, au2, rfl, ((Rf2.mono hJ15).mono hJ20), ((Ra2.mono hJ15).mono hJ20)⟩) Tryd.func36 rfl rfl)) rfl rfl ?_
  rintro _ w6 ⟨J28, hJ28, rfl, M⟩
  replace M := M.less hJ28 hoJ20
  refine wl_m M (q_guard 3 rfl rfl rfl hg26 (q_not rfl)) rfl rfl ?_
  refine wl_m M (q_pickF rfl hg26 rfl) rfl rfl ?_
  refine wl_mv M rfl rfl ?_
  rcases Bool.eq_false_or_eq_true (!(validT b)) with hg31 | hg31
  ·refine wl_m M (q_off 8 rfl rfl rfl hg31) rfl rfl ?_
   refine wl_m M (q_off 8 rfl rfl rfl hg31) rfl rfl ?_
   refine wl_m M (q_pickT rfl hg31 rfl) rfl rfl ?_
   refine wl_mv M rfl rfl ?_
   refine wl_m M (q_off 12 rfl rfl rfl rfl) rfl rfl ?_
   refine wl_m M (q_off 12 rfl rfl rfl rfl) rfl rfl ?_
   refine wl_m M (q_pickT rfl rfl rfl) rfl rfl ?_
   refine wl_nil ?_
   exact ⟨(), M, ⟨(show some (Value.bool true) = some (Value.bool ((((!(validT a)) || (!(validT b))) || (!(okR x))) || (!(okR z)))) from by first | (simp only [hg26, hg31, Bool.true_or, Bool.false_or, Bool.true_and, Bool.false_and, Bool.or_true, Bool.or_false, Bool.and_true, Bool.and_false]; done) | (simp_all; done) | (simp_all; omega)), trivial⟩, unw_take 16 rfl rfl⟩
  refine wl_m M (q_guard 8 rfl rfl rfl hg31 (q_move rfl)) rfl rfl ?_
  refine wl_m M (q_guard 8 rfl rfl rfl hg31 (q_not rfl)) rfl rfl ?_
  refine wl_m M (q_pickF rfl hg31 rfl) rfl rfl ?_
  refine wl_mv M rfl rfl ?_
  rcases Bool.eq_false_or_eq_true (!(okR x)) with hg35 | hg35
  ·refine wl_m M (q_off 12 rfl rfl rfl hg35) rfl rfl ?_
   refine wl_m M (q_off 12 rfl rfl rfl hg35) rfl rfl ?_
   refine wl_m M (q_pickT rfl hg35 rfl) rfl rfl ?_
   refine wl_nil ?_
   exact ⟨(), M, ⟨(show some (Value.bool true) = some (Value.bool ((((!(validT a)) || (!(validT b))) || (!(okR x))) || (!(okR z)))) from by first | (simp only [hg26, hg31, hg35, Bool.true_or, Bool.false_or, Bool.true_and, Bool.false_and, Bool.or_true, Bool.or_false, Bool.and_true, Bool.and_false]; done) | (simp_all; done) | (simp_all; omega)), trivial⟩, unw_take 16 rfl rfl⟩
  refine wl_m M (q_guard 12 rfl rfl rfl hg35 (q_move rfl)) rfl rfl ?_
  refine wl_m M (q_guard 12 rfl rfl rfl hg35 (q_not rfl)) rfl rfl ?_
  refine wl_m M (q_pickF rfl hg35 rfl) rfl rfl ?_
  refine wl_nil ?_
  exact ⟨(), M, ⟨(show some (Value.bool (!(okR z))) = some (Value.bool ((((!(validT a)) || (!(validT b))) || (!(okR x))) || (!(okR z)))) from by first | (simp only [hg26, hg31, hg35, Bool.true_or, Bool.false_or, Bool.true_and, Bool.false_and, Bool.or_true, Bool.or_false, Bool.and_true, Bool.and_false]; done) | (simp_all; done) | (simp_all; omega)), trivial⟩, unw_take 16 rfl rfl⟩
 rintro _ jr3 w7 M
 refine wc_cond rfl (fun ht38 => ?_) (fun ht38 => ?_)
 ·refine wc_seq ?_
  refine wc_region ?_
  refine wl_as M rfl rfl ?_
  refine wl_nil ?_
  refine wc_ret ?_
  exact out1 rfl rfl ⟨_, _, rfl, M.grow, by rw [chk5, if_pos ht38]⟩
 refine wc_skip ?_
 refine wc_seq ?_
 refine wc_seq ?_
 refine wc_join (α := Unit) [39, 40, 41, 42, 43, 44, 45, 46] (fun _ => [(46, .bool ((decide (40 < ((runesR x).length : Int))) || (decide (40 < ((runesR z).length : Int)))))]) (fun _ w' => Mem w I J20 (box b5 25 [.int .i64 b.states, .int .i64 b.start, sv fu2, sv au2] :: box b4 25 [.int .i64 a.states, .int .i64 a.start, sv fu1, sv au1] :: []) w') ?_ ?_
 ·refine wc_region ?_
  refine wl_mv M rfl rfl ?_
  refine wl_m M (q_lenR (R15.mono hJ20) Tryd.underlying84 rfl) rfl rfl ?_
  refine wl_m M (q_gtr rfl rfl) rfl rfl ?_
  refine wl_mv M rfl rfl ?_
  rcases Bool.eq_false_or_eq_true (decide (40 < ((runesR x).length : Int))) with hg42 | hg42
  ·refine wl_m M (q_off 3 rfl rfl rfl hg42) rfl rfl ?_
   refine wl_m M (q_off 3 rfl rfl rfl hg42) rfl rfl ?_
   refine wl_m M (q_off 3 rfl rfl rfl hg42) rfl rfl ?_
   refine wl_m M (q_pickT rfl hg42 rfl) rfl rfl ?_
   refine wl_nil ?_
   exact ⟨(), M, ⟨(show some (Value.bool true) = some (Value.bool ((decide (40 < ((runesR x).length : Int))) || (decide (40 < ((runesR z).length : Int))))) from by first | (simp only [hg42, Bool.true_or, Bool.false_or, Bool.true_and, Bool.false_and, Bool.or_true, Bool.or_false, Bool.and_true, Bool.and_false]; done) | (simp_all; done) | (simp_all; omega)), trivial⟩, unw_take 8 rfl rfl⟩
  refine wl_m M (q_guard 3 rfl rfl rfl hg42 (q_move rfl)) rfl rfl ?_
  refine wl_m M (q_guard 3 rfl rfl rfl hg42 (q_lenR R20 Tryd.underlying84 rfl)) rfl rfl ?_
  refine wl_m M (q_guard 3 rfl rfl rfl hg42 (q_gtr rfl rfl)) rfl rfl ?_
  refine wl_m M (q_pickF rfl hg42 rfl) rfl rfl ?_
  refine wl_nil ?_
  exact ⟨(), M, ⟨(show some (Value.bool (decide (40 < ((runesR z).length : Int)))) = some (Value.bool ((decide (40 < ((runesR x).length : Int))) || (decide (40 < ((runesR z).length : Int))))) from by first | (simp only [hg42, Bool.true_or, Bool.false_or, Bool.true_and, Bool.false_and, Bool.or_true, Bool.or_false, Bool.and_true, Bool.and_false]; done) | (simp_all; done) | (simp_all; omega)), trivial⟩, unw_take 8 rfl rfl⟩
 rintro _ jr5 w8 M
 refine wc_cond rfl (fun ht46 => ?_) (fun ht46 => ?_)
 ·refine wc_seq ?_
  refine wc_region ?_
  refine wl_as M rfl rfl ?_
  refine wl_nil ?_
  refine wc_ret ?_
  exact out1 rfl rfl ⟨_, _, rfl, M.grow, by rw [chk5, if_neg (by rw [ht38]; decide), if_pos ht46]⟩
 refine wc_skip ?_
 refine wc_seq ?_
 refine wc_region ?_
 refine wl_as M rfl rfl ?_
 refine wl_nil ?_
 refine wc_ret ?_
 exact out1 rfl rfl ⟨_, _, rfl, M.grow, by rw [chk5, if_neg (by rw [ht38]; decide), if_neg (by rw [ht46]; decide)]⟩
theorem target_c (x : Arc) {l m : List Int} {i k : Nat} (hi : i ≤ l.length) (hk : k ≤ m.length) (hl : l.length ≤ 4096) (hm : m.length ≤ 4096) {u1 u2 : SV} {I : Heap} {w : World} (hI : hle I (hp w)) (R1 : rdSl ERune I (sv u1) l) (R2 : rdSl ERune I (sv u2) m) :
    Calls A 70 #[EArc.val x, sv u1, sv u2, .int .i64 (i : Int), .int .i64 (k : Int)] w (Ret w I fun r _ => r = .tuple #[.int .i64 (tgtK l m x i k), .bool (tgtB l m x i k)]) := by
 have M := Mem.start hI
 refine enter Tryd.func70 rfl 57 Tryd.ntmps70 [_, _, _, _, _] rfl ?_
 refine wc_seq ?_
 refine wc_region ?_
 refine wl_e (e_box M rfl) rfl rfl ?_
 rintro _ w1 ⟨b5, rfl, M⟩
 refine wl_as M rfl rfl ?_
 refine wl_as M rfl rfl ?_
 refine wl_nil ?_
 refine wc_seq ?_
 refine wc_region ?_
 refine wl_mv M rfl rfl ?_
 refine wl_m M (q_lenR R2 Tryd.underlying84 rfl) rfl rfl ?_
 refine wl_m M (q_add rfl rfl (IntWalk.i64_in _ (by omega))) rfl rfl ?_
 refine wl_as M rfl rfl ?_
 refine wl_nil ?_
 refine wc_seq ?_
 refine wc_seq ?_
 refine wc_region ?_
 refine wl_m M (q_fa fo_48_2 rfl) rfl rfl ?_
 refine wl_m M (q_ldb 0 Tryd.underlying21 rfl rfl rfl rfl) rfl rfl ?_
 refine wl_m M (q_neq rfl rfl) rfl rfl ?_
 refine wl_nil ?_
 refine wc_cond rfl (fun ht18 => ?_) (fun ht18 => ?_)
 ·refine wc_seq ?_
  refine wc_seq ?_
  refine wc_join (α := Unit) [19, 20, 21, 22, 23, 24, 25, 26, 27, 28, 29, 30, 31] (fun _ => [(31, .bool ((decide ((l.length : Int) ≤ (i : Int))) || (!decide ((l.getD i 0) = x.inp))))]) (fun _ w' => Mem w I I (box b5 48 [.int .i64 x.src, .int .i64 x.dst, .int .i32 x.inp, .int .i32 x.out] :: []) w') ?_ ?_
  ·refine wc_draws (fun w' => Mem w I I (box b5 48 [.int .i64 x.src, .int .i64 x.dst, .int .i32 x.inp, .int .i32 x.out] :: []) w' ∧ True) [] fol ?_
   replace M := M.drew
   have hS := (⟨M, trivial⟩ : _ ∧ _)
   refine wa_q 0 rfl (by kernel_rfl) (q_move rfl) hS rfl rfl ?_
   refine wa_q 1 rfl (by kernel_rfl) (q_move rfl) hS rfl rfl ?_
   refine wa_q 2 rfl (by kernel_rfl) (q_lenR R1 Tryd.underlying84 rfl) hS rfl rfl ?_
   refine wa_q 3 rfl (by kernel_rfl) (q_geq rfl rfl) hS rfl rfl ?_
   refine wa_q 4 rfl (by kernel_rfl) (q_move rfl) hS rfl rfl ?_
   rcases Bool.eq_false_or_eq_true (decide ((l.length : Int) ≤ (i : Int))) with hg23 | hg23
   ·refine wa_q 5 rfl (by kernel_rfl) (q_off 4 rfl rfl rfl hg23) hS rfl rfl ?_
    refine wa_q 6 rfl (by kernel_rfl) (q_off 4 rfl rfl rfl hg23) hS rfl rfl ?_
    refine wa_q 7 rfl (by kernel_rfl) (q_off 4 rfl rfl rfl hg23) hS rfl rfl ?_
    refine wa_q 8 rfl (by kernel_rfl) (q_off 4 rfl rfl rfl hg23) hS rfl rfl ?_
    refine wa_q 9 rfl (by kernel_rfl) (q_off 4 rfl rfl rfl hg23) hS rfl rfl ?_
    refine wa_q 10 rfl (by kernel_rfl) (q_off 4 rfl rfl rfl hg23) hS rfl rfl ?_
    refine wa_q 11 rfl (by kernel_rfl) (q_off 4 rfl rfl rfl hg23) hS rfl rfl ?_
    refine wa_q 12 rfl (by kernel_rfl) (q_pickT rfl hg23 rfl) hS rfl rfl ?_
    refine wa_done (by kernel_rfl) ?_
    exact ⟨(), M, ⟨(show some (Value.bool true) = some (Value.bool ((decide ((l.length : Int) ≤ (i : Int))) || (!decide ((l.getD i 0) = x.inp)))) from by first | (simp only [hg23, Bool.true_or, Bool.false_or, Bool.true_and, Bool.false_and, Bool.or_true, Bool.or_false, Bool.and_true, Bool.and_false]; done) | (simp_all; done) | (simp_all; omega)), trivial⟩, unw_take 13 rfl rfl⟩
   refine wa_q 5 rfl (by kernel_rfl) (q_guard 4 rfl rfl rfl hg23 (q_move rfl)) hS rfl rfl ?_
   refine wa_q 6 rfl (by kernel_rfl) (q_guard 4 rfl rfl rfl hg23 (q_move rfl)) hS rfl rfl ?_
   have hb23 := of_decide_eq_false hg23
   refine wa_ixSG (j := i) 4 rfl rfl rfl hg23 7 hS (fun _ h => R1.mono h.1.imm) rfl (by kernel_rfl) Tryd.underlying84 rfl rfl (getD_at (d := 0) (by omega)) rfl (fun b26 o26 p26 => ?_)
   refine wa_q 8 rfl (by kernel_rfl) (q_guard 4 rfl rfl rfl hg23 (q_ldp p26 rfl rfl)) hS rfl rfl ?_
   refine wa_q 9 rfl (by kernel_rfl) (q_guard 4 rfl rfl rfl hg23 (q_fa fo_48_2 rfl)) hS rfl rfl ?_
   refine wa_q 10 rfl (by kernel_rfl) ((q_guard 4 rfl rfl rfl hg23 (q_ldb 0 Tryd.underlying21 rfl rfl rfl rfl)).mono fun _ h => h.1) hS rfl rfl ?_
   refine wa_q 11 rfl (by kernel_rfl) (q_guard 4 rfl rfl rfl hg23 (q_neq rfl rfl)) hS rfl rfl ?_
   refine wa_q 12 rfl (by kernel_rfl) (q_pickF rfl hg23 rfl) hS rfl rfl ?_
   refine wa_done (by kernel_rfl) ?_
   exact ⟨(), M, ⟨(show some (Value.bool (!decide ((l.getD i 0) = x.inp))) = some (Value.bool ((decide ((l.length : Int) ≤ (i : Int))) || (!decide ((l.getD i 0) = x.inp)))) from by first | (simp only [hg23, Bool.true_or, Bool.false_or, Bool.true_and, Bool.false_and, Bool.or_true, Bool.or_false, Bool.and_true, Bool.and_false]; done) | (simp_all; done) | (simp_all; omega)), trivial⟩, unw_take 13 rfl rfl⟩
  rintro _ jr3 w2 M
  refine wc_cond rfl (fun ht31 => ?_) (fun ht31 => ?_)
  ·refine wc_seq ?_
   refine wc_region ?_
   refine wl_as M rfl rfl ?_
   refine wl_as M rfl rfl ?_
   refine wl_nil ?_
   refine wc_ret ?_
   have f1 := fit_no (nd_t ht18) ht31
   exact out2 rfl rfl rfl ⟨_, _, rfl, M.grow, by rw [tgtK, tgtB, f1]; rfl⟩
  refine wc_skip ?_
  refine wc_region ?_
  refine wl_mv M rfl rfl ?_
  refine wl_m M (q_add rfl rfl (IntWalk.i64_in _ (by omega))) rfl rfl ?_
  refine wl_as M rfl rfl ?_
  refine wl_nil ?_
  refine wc_seq ?_
  refine wc_seq ?_
  refine wc_region ?_
  refine wl_m M (q_fa fo_48_3 rfl) rfl rfl ?_
  refine wl_m M (q_ldb 0 Tryd.underlying21 rfl rfl rfl rfl) rfl rfl ?_
  refine wl_m M (q_neq rfl rfl) rfl rfl ?_
  refine wl_nil ?_
  refine wc_cond rfl (fun ht36 => ?_) (fun ht36 => ?_)
  ·refine wc_seq ?_
   refine wc_seq ?_
   refine wc_join (α := Unit) [37, 38, 39, 40, 41, 42, 43, 44, 45, 46, 47, 48, 49] (fun _ => [(49, .bool ((decide ((m.length : Int) ≤ (k : Int))) || (!decide ((m.getD k 0) = x.out))))]) (fun _ w' => Mem w I I (box b5 48 [.int .i64 x.src, .int .i64 x.dst, .int .i32 x.inp, .int .i32 x.out] :: []) w') ?_ ?_
   ·refine wc_draws (fun w' => Mem w I I (box b5 48 [.int .i64 x.src, .int .i64 x.dst, .int .i32 x.inp, .int .i32 x.out] :: []) w' ∧ True) [] fol ?_
    replace M := M.drew
    have hS := (⟨M, trivial⟩ : _ ∧ _)
    refine wa_q 0 rfl (by kernel_rfl) (q_move rfl) hS rfl rfl ?_
    refine wa_q 1 rfl (by kernel_rfl) (q_move rfl) hS rfl rfl ?_
    refine wa_q 2 rfl (by kernel_rfl) (q_lenR R2 Tryd.underlying84 rfl) hS rfl rfl ?_
    refine wa_q 3 rfl (by kernel_rfl) (q_geq rfl rfl) hS rfl rfl ?_
    refine wa_q 4 rfl (by kernel_rfl) (q_move rfl) hS rfl rfl ?_
    rcases Bool.eq_false_or_eq_true (decide ((m.length : Int) ≤ (k : Int))) with hg41 | hg41
    ·refine wa_q 5 rfl (by kernel_rfl) (q_off 4 rfl rfl rfl hg41) hS rfl rfl ?_
     refine wa_q 6 rfl (by kernel_rfl) (q_off 4 rfl rfl rfl hg41) hS rfl rfl ?_
     refine wa_q 7 rfl (by kernel_rfl) (q_off 4 rfl rfl rfl hg41) hS rfl rfl ?_
     refine wa_q 8 rfl (by kernel_rfl) (q_off 4 rfl rfl rfl hg41) hS rfl rfl ?_
     refine wa_q 9 rfl (by kernel_rfl) (q_off 4 rfl rfl rfl hg41) hS rfl rfl ?_
     refine wa_q 10 rfl (by kernel_rfl) (q_off 4 rfl rfl rfl hg41) hS rfl rfl ?_
     refine wa_q 11 rfl (by kernel_rfl) (q_off 4 rfl rfl rfl hg41) hS rfl rfl ?_
     refine wa_q 12 rfl (by kernel_rfl) (q_pickT rfl hg41 rfl) hS rfl rfl ?_
     refine wa_done (by kernel_rfl) ?_
     exact ⟨(), M, ⟨(show some (Value.bool true) = some (Value.bool ((decide ((m.length : Int) ≤ (k : Int))) || (!decide ((m.getD k 0) = x.out)))) from by first | (simp only [hg41, Bool.true_or, Bool.false_or, Bool.true_and, Bool.false_and, Bool.or_true, Bool.or_false, Bool.and_true, Bool.and_false]; done) | (simp_all; done) | (simp_all; omega)), trivial⟩, unw_take 13 rfl rfl⟩
    refine wa_q 5 rfl (by kernel_rfl) (q_guard 4 rfl rfl rfl hg41 (q_move rfl)) hS rfl rfl ?_
    refine wa_q 6 rfl (by kernel_rfl) (q_guard 4 rfl rfl rfl hg41 (q_move rfl)) hS rfl rfl ?_
    have hb41 := of_decide_eq_false hg41
    refine wa_ixSG (j := k) 4 rfl rfl rfl hg41 7 hS (fun _ h => R2.mono h.1.imm) rfl (by kernel_rfl) Tryd.underlying84 rfl rfl (getD_at (d := 0) (by omega)) rfl (fun b44 o44 p44 => ?_)
    refine wa_q 8 rfl (by kernel_rfl) (q_guard 4 rfl rfl rfl hg41 (q_ldp p44 rfl rfl)) hS rfl rfl ?_
    refine wa_q 9 rfl (by kernel_rfl) (q_guard 4 rfl rfl rfl hg41 (q_fa fo_48_3 rfl)) hS rfl rfl ?_
    refine wa_q 10 rfl (by kernel_rfl) ((q_guard 4 rfl rfl rfl hg41 (q_ldb 0 Tryd.underlying21 rfl rfl rfl rfl)).mono fun _ h => h.1) hS rfl rfl ?_
    refine wa_q 11 rfl (by kernel_rfl) (q_guard 4 rfl rfl rfl hg41 (q_neq rfl rfl)) hS rfl rfl ?_
    refine wa_q 12 rfl (by kernel_rfl) (q_pickF rfl hg41 rfl) hS rfl rfl ?_
    refine wa_done (by kernel_rfl) ?_
    exact ⟨(), M, ⟨(show some (Value.bool (!decide ((m.getD k 0) = x.out))) = some (Value.bool ((decide ((m.length : Int) ≤ (k : Int))) || (!decide ((m.getD k 0) = x.out)))) from by first | (simp only [hg41, Bool.true_or, Bool.false_or, Bool.true_and, Bool.false_and, Bool.or_true, Bool.or_false, Bool.and_true, Bool.and_false]; done) | (simp_all; done) | (simp_all; omega)), trivial⟩, unw_take 13 rfl rfl⟩
   rintro _ jr7 w3 M
   refine wc_cond rfl (fun ht49 => ?_) (fun ht49 => ?_)
   ·refine wc_seq ?_
    refine wc_region ?_
    refine wl_as M rfl rfl ?_
    refine wl_as M rfl rfl ?_
    refine wl_nil ?_
    refine wc_ret ?_
    obtain ⟨f1, e1, _⟩ := fit_yes (nd_t ht18) ht31
    have f2 := fit_no (nd_t ht36) ht49
    exact out2 rfl rfl rfl ⟨_, _, rfl, M.grow, by rw [tgtK, tgtB, f1, f2]; rfl⟩
   refine wc_skip ?_
   refine wc_region ?_
   refine wl_mv M rfl rfl ?_
   refine wl_m M (q_add rfl rfl (IntWalk.i64_in _ (by omega))) rfl rfl ?_
   refine wl_as M rfl rfl ?_
   refine wl_nil ?_
   refine wc_seq ?_
   refine wc_region ?_
   refine wl_mv M rfl rfl ?_
   refine wl_mv M rfl rfl ?_
   have htg := tg_rng (a := (i : Int) + 1) (b := (m.length : Int) + 1) (by omega) (by omega) (by omega) (by omega)
   refine wl_m M (q_mul rfl rfl (IntWalk.i64_in _ (by omega))) rfl rfl ?_
   refine wl_mv M rfl rfl ?_
   refine wl_m M (q_add rfl rfl (IntWalk.i64_in _ (by omega))) rfl rfl ?_
   refine wl_as M rfl rfl ?_
   refine wl_as M rfl rfl ?_
   refine wl_nil ?_
   refine wc_ret ?_
   obtain ⟨f1, e1, _⟩ := fit_yes (nd_t ht18) ht31
   obtain ⟨f2, e2, _⟩ := fit_yes (nd_t ht36) ht49
   exact out2 rfl rfl rfl ⟨_, _, rfl, M.grow, by rw [tgtK, tgtB, f1, f2, e1, e2]; rfl⟩
  refine wc_skip ?_
  refine wc_seq ?_
  refine wc_region ?_
  refine wl_mv M rfl rfl ?_
  refine wl_mv M rfl rfl ?_
  have htg := tg_rng (a := (i : Int) + 1) (b := (m.length : Int) + 1) (by omega) (by omega) (by omega) (by omega)
  refine wl_m M (q_mul rfl rfl (IntWalk.i64_in _ (by omega))) rfl rfl ?_
  refine wl_mv M rfl rfl ?_
  refine wl_m M (q_add rfl rfl (IntWalk.i64_in _ (by omega))) rfl rfl ?_
  refine wl_as M rfl rfl ?_
  refine wl_as M rfl rfl ?_
  refine wl_nil ?_
  refine wc_ret ?_
  obtain ⟨f1, e1, _⟩ := fit_yes (nd_t ht18) ht31
  obtain ⟨f2, e2⟩ := fit_eps (l := m) (i := k) (r := x.out) (nd_f ht36)
  exact out2 rfl rfl rfl ⟨_, _, rfl, M.grow, by rw [tgtK, tgtB, f1, f2, e1, e2]; rfl⟩
 refine wc_skip ?_
 refine wc_seq ?_
 refine wc_seq ?_
 refine wc_region ?_
 refine wl_m M (q_fa fo_48_3 rfl) rfl rfl ?_
 refine wl_m M (q_ldb 0 Tryd.underlying21 rfl rfl rfl rfl) rfl rfl ?_
 refine wl_m M (q_neq rfl rfl) rfl rfl ?_
 refine wl_nil ?_
 refine wc_cond rfl (fun ht36 => ?_) (fun ht36 => ?_)
 ·refine wc_seq ?_
  refine wc_seq ?_
  refine wc_join (α := Unit) [37, 38, 39, 40, 41, 42, 43, 44, 45, 46, 47, 48, 49] (fun _ => [(49, .bool ((decide ((m.length : Int) ≤ (k : Int))) || (!decide ((m.getD k 0) = x.out))))]) (fun _ w' => Mem w I I (box b5 48 [.int .i64 x.src, .int .i64 x.dst, .int .i32 x.inp, .int .i32 x.out] :: []) w') ?_ ?_
  ·refine wc_draws (fun w' => Mem w I I (box b5 48 [.int .i64 x.src, .int .i64 x.dst, .int .i32 x.inp, .int .i32 x.out] :: []) w' ∧ True) [] fol ?_
   replace M := M.drew
   have hS := (⟨M, trivial⟩ : _ ∧ _)
   refine wa_q 0 rfl (by kernel_rfl) (q_move rfl) hS rfl rfl ?_
   refine wa_q 1 rfl (by kernel_rfl) (q_move rfl) hS rfl rfl ?_
   refine wa_q 2 rfl (by kernel_rfl) (q_lenR R2 Tryd.underlying84 rfl) hS rfl rfl ?_
   refine wa_q 3 rfl (by kernel_rfl) (q_geq rfl rfl) hS rfl rfl ?_
   refine wa_q 4 rfl (by kernel_rfl) (q_move rfl) hS rfl rfl ?_
   rcases Bool.eq_false_or_eq_true (decide ((m.length : Int) ≤ (k : Int))) with hg41 | hg41
   ·refine wa_q 5 rfl (by kernel_rfl) (q_off 4 rfl rfl rfl hg41) hS rfl rfl ?_
    refine wa_q 6 rfl (by kernel_rfl) (q_off 4 rfl rfl rfl hg41) hS rfl rfl ?_
    refine wa_q 7 rfl (by kernel_rfl) (q_off 4 rfl rfl rfl hg41) hS rfl rfl ?_
    refine wa_q 8 rfl (by kernel_rfl) (q_off 4 rfl rfl rfl hg41) hS rfl rfl ?_
    refine wa_q 9 rfl (by kernel_rfl) (q_off 4 rfl rfl rfl hg41) hS rfl rfl ?_
    refine wa_q 10 rfl (by kernel_rfl) (q_off 4 rfl rfl rfl hg41) hS rfl rfl ?_
    refine wa_q 11 rfl (by kernel_rfl) (q_off 4 rfl rfl rfl hg41) hS rfl rfl ?_
    refine wa_q 12 rfl (by kernel_rfl) (q_pickT rfl hg41 rfl) hS rfl rfl ?_
    refine wa_done (by kernel_rfl) ?_
    exact ⟨(), M, ⟨(show some (Value.bool true) = some (Value.bool ((decide ((m.length : Int) ≤ (k : Int))) || (!decide ((m.getD k 0) = x.out)))) from by first | (simp only [hg41, Bool.true_or, Bool.false_or, Bool.true_and, Bool.false_and, Bool.or_true, Bool.or_false, Bool.and_true, Bool.and_false]; done) | (simp_all; done) | (simp_all; omega)), trivial⟩, unw_take 13 rfl rfl⟩
   refine wa_q 5 rfl (by kernel_rfl) (q_guard 4 rfl rfl rfl hg41 (q_move rfl)) hS rfl rfl ?_
   refine wa_q 6 rfl (by kernel_rfl) (q_guard 4 rfl rfl rfl hg41 (q_move rfl)) hS rfl rfl ?_
   have hb41 := of_decide_eq_false hg41
   refine wa_ixSG (j := k) 4 rfl rfl rfl hg41 7 hS (fun _ h => R2.mono h.1.imm) rfl (by kernel_rfl) Tryd.underlying84 rfl rfl (getD_at (d := 0) (by omega)) rfl (fun b44 o44 p44 => ?_)
   refine wa_q 8 rfl (by kernel_rfl) (q_guard 4 rfl rfl rfl hg41 (q_ldp p44 rfl rfl)) hS rfl rfl ?_
   refine wa_q 9 rfl (by kernel_rfl) (q_guard 4 rfl rfl rfl hg41 (q_fa fo_48_3 rfl)) hS rfl rfl ?_
   refine wa_q 10 rfl (by kernel_rfl) ((q_guard 4 rfl rfl rfl hg41 (q_ldb 0 Tryd.underlying21 rfl rfl rfl rfl)).mono fun _ h => h.1) hS rfl rfl ?_
   refine wa_q 11 rfl (by kernel_rfl) (q_guard 4 rfl rfl rfl hg41 (q_neq rfl rfl)) hS rfl rfl ?_
   refine wa_q 12 rfl (by kernel_rfl) (q_pickF rfl hg41 rfl) hS rfl rfl ?_
   refine wa_done (by kernel_rfl) ?_
   exact ⟨(), M, ⟨(show some (Value.bool (!decide ((m.getD k 0) = x.out))) = some (Value.bool ((decide ((m.length : Int) ≤ (k : Int))) || (!decide ((m.getD k 0) = x.out)))) from by first | (simp only [hg41, Bool.true_or, Bool.false_or, Bool.true_and, Bool.false_and, Bool.or_true, Bool.or_false, Bool.and_true, Bool.and_false]; done) | (simp_all; done) | (simp_all; omega)), trivial⟩, unw_take 13 rfl rfl⟩
  rintro _ jr7 w4 M
  refine wc_cond rfl (fun ht49 => ?_) (fun ht49 => ?_)
  ·refine wc_seq ?_
   refine wc_region ?_
   refine wl_as M rfl rfl ?_
   refine wl_as M rfl rfl ?_
   refine wl_nil ?_
   refine wc_ret ?_
   obtain ⟨f1, e1⟩ := fit_eps (l := l) (i := i) (r := x.inp) (nd_f ht18)
   have f2 := fit_no (nd_t ht36) ht49
   exact out2 rfl rfl rfl ⟨_, _, rfl, M.grow, by rw [tgtK, tgtB, f1, f2]; rfl⟩
  refine wc_skip ?_
  refine wc_region ?_
  refine wl_mv M rfl rfl ?_
  refine wl_m M (q_add rfl rfl (IntWalk.i64_in _ (by omega))) rfl rfl ?_
  refine wl_as M rfl rfl ?_
  refine wl_nil ?_
  refine wc_seq ?_
  refine wc_region ?_
  refine wl_mv M rfl rfl ?_
  refine wl_mv M rfl rfl ?_
  have htg := tg_rng (a := (i : Int)) (b := (m.length : Int) + 1) (by omega) (by omega) (by omega) (by omega)
  refine wl_m M (q_mul rfl rfl (IntWalk.i64_in _ (by omega))) rfl rfl ?_
  refine wl_mv M rfl rfl ?_
  refine wl_m M (q_add rfl rfl (IntWalk.i64_in _ (by omega))) rfl rfl ?_
  refine wl_as M rfl rfl ?_
  refine wl_as M rfl rfl ?_
  refine wl_nil ?_
  refine wc_ret ?_
  obtain ⟨f1, e1⟩ := fit_eps (l := l) (i := i) (r := x.inp) (nd_f ht18)
  obtain ⟨f2, e2, _⟩ := fit_yes (nd_t ht36) ht49
  exact out2 rfl rfl rfl ⟨_, _, rfl, M.grow, by rw [tgtK, tgtB, f1, f2, e1, e2]; rfl⟩
 refine wc_skip ?_
 refine wc_seq ?_
 refine wc_region ?_
 refine wl_mv M rfl rfl ?_
 refine wl_mv M rfl rfl ?_
 have htg := tg_rng (a := (i : Int)) (b := (m.length : Int) + 1) (by omega) (by omega) (by omega) (by omega)
 refine wl_m M (q_mul rfl rfl (IntWalk.i64_in _ (by omega))) rfl rfl ?_
 refine wl_mv M rfl rfl ?_
 refine wl_m M (q_add rfl rfl (IntWalk.i64_in _ (by omega))) rfl rfl ?_
 refine wl_as M rfl rfl ?_
 refine wl_as M rfl rfl ?_
 refine wl_nil ?_
 refine wc_ret ?_
 obtain ⟨f1, e1⟩ := fit_eps (l := l) (i := i) (r := x.inp) (nd_f ht18)
 obtain ⟨f2, e2⟩ := fit_eps (l := m) (i := k) (r := x.out) (nd_f ht36)
 exact out2 rfl rfl rfl ⟨_, _, rfl, M.grow, by rw [tgtK, tgtB, f1, f2, e1, e2]; rfl⟩
end Go.Proofs.YtmjieefhjmiagaaDoor.G
