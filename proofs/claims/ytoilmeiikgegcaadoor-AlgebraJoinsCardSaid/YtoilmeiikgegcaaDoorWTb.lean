/- Walks of the program's functions. -/
import Derived.Test.YtoilmeiikgegcaaDoorWTa
set_option linter.all false
namespace Go.Proofs.YtoilmeiikgegcaaDoor.G
open Go Go.RowKit
theorem emptyT_c (t : Tra) {v : Value} {I : Heap} {w : World} (hI : hle I (hp w)) (R : t.rd I v) : Calls A 38 #[v] w (Ret w I fun r _ => r = .bool (emptyS t)) := by
 obtain ⟨fu1, au1, rfl, Rf1, Ra1⟩ := R
 have M := Mem.start hI
 refine enter Tryd.func38 rfl 17 Tryd.ntmps38 [_] rfl ?_
 refine wc_seq ?_
 refine wc_region ?_
 refine wl_e (e_box M rfl) rfl rfl ?_
 rintro _ w1 ⟨b1, rfl, M⟩
 refine wl_as M rfl rfl ?_
 refine wl_nil ?_
 refine wc_seq ?_
 refine wc_join (α := Unit) [2, 3, 4, 5, 6, 7, 8, 9, 10, 11, 12, 13, 14, 15, 16] (fun _ => [(2, .bool ((!(validT t)) || (!(dnB t))))]) (fun _ w' => Mem w I I (box b1 29 [.int .i64 t.states, .int .i64 t.start, sv fu1, sv au1] :: []) w') ?_ ?_
 ·refine wc_draws (fun w' => Mem w I I (box b1 29 [.int .i64 t.states, .int .i64 t.start, sv fu1, sv au1] :: []) w' ∧ True) [] fol ?_
  replace M := M.drew
  have hS := (⟨M, trivial⟩ : _ ∧ _)
  refine wa_q 0 rfl (by kernel_rfl) ((q_ldbA 0 Tryd.underlying29 rfl sz29 rfl rfl rfl rfl).mono fun _ h => h.1) hS rfl rfl ?_
  refine wa_e 1 rfl (by kernel_rfl) (e_callC M (valid_c t M.imm ⟨_, _, rfl, Rf1, Ra1⟩) Tryd.func39 rfl rfl) rfl rfl ?_
  rintro _ w2 ⟨J4, hJ4, rfl, M⟩
  have hS := (⟨(M.less hJ4 (fun _ _ => rfl)), trivial⟩ : _ ∧ _)
  refine ⟨fun _ => hS, ?_⟩
  replace M := M.less hJ4 (fun _ _ => rfl)
  refine wa_q 2 rfl (by kernel_rfl) (q_not rfl) hS rfl rfl ?_
  refine wa_q 3 rfl (by kernel_rfl) (q_move rfl) hS rfl rfl ?_
  rcases Bool.eq_false_or_eq_true (!(validT t)) with hg6 | hg6
  ·refine wa_q 4 rfl (by kernel_rfl) (q_off 3 rfl rfl rfl hg6) hS rfl rfl ?_
   refine wa_q 5 rfl (by kernel_rfl) (q_off 3 rfl rfl rfl hg6) hS rfl rfl ?_
   refine wa_q 6 rfl (by kernel_rfl) (q_off 3 rfl rfl rfl hg6) hS rfl rfl ?_
   refine wa_q 8 rfl (by kernel_rfl) (q_off 3 rfl rfl rfl hg6) hS rfl rfl ?_
   refine wa_q 9 rfl (by kernel_rfl) (q_off 3 rfl rfl rfl hg6) hS rfl rfl ?_
   refine wa_q 7 rfl (by kernel_rfl) (q_off 3 rfl rfl rfl hg6) hS rfl rfl ?_
   refine wa_q 10 rfl (by kernel_rfl) (q_off 3 rfl rfl rfl hg6) hS rfl rfl ?_
   refine wa_q 11 rfl (by kernel_rfl) (q_off 3 rfl rfl rfl hg6) hS rfl rfl ?_
   refine wa_q 12 rfl (by kernel_rfl) (q_off 3 rfl rfl rfl hg6) hS rfl rfl ?_
   refine wa_q 13 rfl (by kernel_rfl) (q_pickT rfl hg6 rfl) hS rfl rfl ?_
   refine wa_q 14 rfl (by kernel_rfl) (q_assign rfl) hS rfl rfl ?_
   refine wa_done (by kernel_rfl) ?_
   exact ⟨(), M, ⟨(show some (Value.bool true) = some (Value.bool ((!(validT t)) || (!(dnB t)))) from by first | (simp only [hg6, Bool.true_or, Bool.false_or, Bool.true_and, Bool.false_and, Bool.or_true, Bool.or_false, Bool.and_true, Bool.and_false]; done) | simp_all), trivial⟩, unw_take 15 rfl rfl⟩
  refine wa_q 4 rfl (by kernel_rfl) ((q_guard 3 rfl rfl rfl hg6 (q_ldbA 0 Tryd.underlying29 rfl sz29 rfl rfl rfl rfl)).mono fun _ h => h.1) hS rfl rfl ?_
  refine wa_q 5 rfl (by kernel_rfl) (q_guard 3 rfl rfl rfl hg6 (q_fa fo_29_2 rfl)) hS rfl rfl ?_
  refine wa_q 6 rfl (by kernel_rfl) ((q_guard 3 rfl rfl rfl hg6 (q_ldb 0 Tryd.underlying26 rfl rfl rfl rfl)).mono fun _ h => h.1) hS rfl rfl ?_
  refine wa_q 8 rfl (by kernel_rfl) (q_guard 3 rfl rfl rfl hg6 (q_fa fo_29_1 rfl)) hS rfl rfl ?_
  refine wa_q 9 rfl (by kernel_rfl) ((q_guard 3 rfl rfl rfl hg6 (q_ldb 0 Tryd.underlying3 rfl rfl rfl rfl)).mono fun _ h => h.1) hS rfl rfl ?_
  obtain ⟨m, ha, hrf⟩ := valid_rng (t := t) (by simpa using hg6)
  have hfl := valid_fl (t := t) (by simpa using hg6)
  refine wa_e 7 rfl (by kernel_rfl) (e_guard 3 rfl rfl rfl hg6 (e_callC M (reachedT_c ha.st ha.le ha.arcs ha.alen hrf hfl true M.imm ⟨_, _, rfl, Rf1, Ra1⟩ Rf1) Tryd.func59 rfl rfl)) rfl rfl ?_
  rintro v10 w3 ⟨J10, hJ10, ⟨bs, R10, hbl, hbs⟩, M⟩
  obtain ⟨u10, rfl⟩ := rdSl_slice R10
  have hoJ10 := M.old
  have hS := (⟨(M.less hJ10 (fun _ _ => rfl)), trivial⟩ : _ ∧ _)
  refine ⟨fun _ => hS, ?_⟩
  refine wa_ix1G (j := t.start.toNat) 3 rfl rfl rfl hg6 10 M hS R10 rfl (by kernel_rfl) Tryd.underlying56 rfl (ixe (by have := ha.start; omega)) (dn_at ha.start hbl hbs) rfl (fun b13 o13 p13 => ?_)
  refine wa_q1 11 rfl (by kernel_rfl) (q_guard 3 rfl rfl rfl hg6 (q_ldp p13 rfl rfl)) M rfl rfl (fun _ => hS) ?_
  refine wa_q 12 rfl (by kernel_rfl) (q_guard 3 rfl rfl rfl hg6 (q_not rfl)) hS rfl rfl ?_
  refine wa_q 13 rfl (by kernel_rfl) (q_pickF rfl hg6 rfl) hS rfl rfl ?_
  refine wa_q 14 rfl (by kernel_rfl) (q_assign rfl) hS rfl rfl ?_
  refine wa_done (by kernel_rfl) ?_
  replace M := M.less hJ10 (fun _ _ => rfl)
  exact ⟨(), M, ⟨(show some (Value.bool (!(dnB t))) = some (Value.bool ((!(validT t)) || (!(dnB t)))) from by first | (simp only [hg6, Bool.true_or, Bool.false_or, Bool.true_and, Bool.false_and, Bool.or_true, Bool.or_false, Bool.and_true, Bool.and_false]; done) | simp_all), trivial⟩, unw_take 15 rfl rfl⟩
 rintro _ jr1 w4 M
 refine wc_ret ?_
 exact out1 rfl rfl ⟨_, _, rfl, M.grow, rfl⟩
theorem orderT_c (x y : Arc) {I : Heap} {w : World} (hI : hle I (hp w)) : Calls A 63 #[EArc.val x, EArc.val y] w (Ret w I fun r _ => r = .int .i64 (ordA x y)) := by
 have M := Mem.start hI
 refine enter Tryd.func63 rfl 27 Tryd.ntmps63 [_, _] rfl ?_
 refine wc_seq ?_
 refine wc_region ?_
 refine wl_e (e_box M rfl) rfl rfl ?_
 rintro _ w1 ⟨b2, rfl, M⟩
 refine wl_e (e_box M rfl) rfl rfl ?_
 rintro _ w2 ⟨b3, rfl, M⟩
 refine wl_as M rfl rfl ?_
 refine wl_nil ?_
 refine wc_seq ?_
 refine wc_draws (fun w' => Mem w I I (box b3 52 [.int .i64 y.src, .int .i64 y.dst, .int .i32 y.inp, .int .i32 y.out] :: box b2 52 [.int .i64 x.src, .int .i64 x.dst, .int .i32 x.inp, .int .i32 x.out] :: []) w' ∧ True) [] fol ?_
 replace M := M.drew
 have hS := (⟨M, trivial⟩ : _ ∧ _)
 refine wa_q 0 rfl (by kernel_rfl) (q_fa fo_52_0 rfl) hS rfl rfl ?_
 refine wa_q 1 rfl (by kernel_rfl) ((q_ldb 1 Tryd.underlying3 rfl rfl rfl rfl).mono fun _ h => h.1) hS rfl rfl ?_
 refine wa_q 2 rfl (by kernel_rfl) (q_fa fo_52_0 rfl) hS rfl rfl ?_
 refine wa_q 3 rfl (by kernel_rfl) ((q_ldb 0 Tryd.underlying3 rfl rfl rfl rfl).mono fun _ h => h.1) hS rfl rfl ?_
 refine wa_q 5 rfl (by kernel_rfl) (q_fa fo_52_1 rfl) hS rfl rfl ?_
 refine wa_q 6 rfl (by kernel_rfl) ((q_ldb 1 Tryd.underlying3 rfl rfl rfl rfl).mono fun _ h => h.1) hS rfl rfl ?_
 refine wa_q 7 rfl (by kernel_rfl) (q_fa fo_52_1 rfl) hS rfl rfl ?_
 refine wa_q 8 rfl (by kernel_rfl) ((q_ldb 0 Tryd.underlying3 rfl rfl rfl rfl).mono fun _ h => h.1) hS rfl rfl ?_
 refine wa_q 10 rfl (by kernel_rfl) (q_fa fo_52_2 rfl) hS rfl rfl ?_
 refine wa_q 11 rfl (by kernel_rfl) ((q_ldb 1 Tryd.underlying21 rfl rfl rfl rfl).mono fun _ h => h.1) hS rfl rfl ?_
 refine wa_q 12 rfl (by kernel_rfl) (q_fa fo_52_2 rfl) hS rfl rfl ?_
 refine wa_q 13 rfl (by kernel_rfl) ((q_ldb 0 Tryd.underlying21 rfl rfl rfl rfl).mono fun _ h => h.1) hS rfl rfl ?_
 refine wa_q 15 rfl (by kernel_rfl) (q_fa fo_52_3 rfl) hS rfl rfl ?_
 refine wa_q 16 rfl (by kernel_rfl) ((q_ldb 1 Tryd.underlying21 rfl rfl rfl rfl).mono fun _ h => h.1) hS rfl rfl ?_
 refine wa_q 17 rfl (by kernel_rfl) (q_fa fo_52_3 rfl) hS rfl rfl ?_
 refine wa_q 18 rfl (by kernel_rfl) ((q_ldb 0 Tryd.underlying21 rfl rfl rfl rfl).mono fun _ h => h.1) hS rfl rfl ?_
 refine wa_e 4 rfl (by kernel_rfl) (e_callC M (compare_int _ _ M.imm) Tryd.func65 rfl rfl) rfl rfl ?_
 rintro _ w3 ⟨J9, hJ9, rfl, M⟩
 have hS := (⟨(M.less hJ9 (fun _ _ => rfl)), trivial⟩ : _ ∧ _)
 refine ⟨fun _ => hS, ?_⟩
 replace M := M.less hJ9 (fun _ _ => rfl)
 refine wa_e 9 rfl (by kernel_rfl) (e_callC M (compare_int _ _ M.imm) Tryd.func65 rfl rfl) rfl rfl ?_
 rintro _ w4 ⟨J14, hJ14, rfl, M⟩
 have hS := (⟨(M.less hJ14 (fun _ _ => rfl)), trivial⟩ : _ ∧ _)
 refine ⟨fun _ => hS, ?_⟩
 replace M := M.less hJ14 (fun _ _ => rfl)
 refine wa_e 14 rfl (by kernel_rfl) (e_callC M (compare_rune _ _ M.imm) Tryd.func66 rfl rfl) rfl rfl ?_
 rintro _ w5 ⟨J19, hJ19, rfl, M⟩
 have hS := (⟨(M.less hJ19 (fun _ _ => rfl)), trivial⟩ : _ ∧ _)
 refine ⟨fun _ => hS, ?_⟩
 replace M := M.less hJ19 (fun _ _ => rfl)
 refine wa_e 19 rfl (by kernel_rfl) (e_callC M (compare_rune _ _ M.imm) Tryd.func66 rfl rfl) rfl rfl ?_
 rintro _ w6 ⟨J24, hJ24, rfl, M⟩
 have hS := (⟨(M.less hJ24 (fun _ _ => rfl)), trivial⟩ : _ ∧ _)
 refine ⟨fun _ => hS, ?_⟩
 replace M := M.less hJ24 (fun _ _ => rfl)
 refine wa_e 20 rfl (by kernel_rfl) (e_bsI (E := EInt) (xs := [cmpI x.src y.src, cmpI x.dst y.dst, cmpI x.inp y.inp, cmpI x.out y.out]) M (bs_26_4 _ _ _ _) ⟨⟨rfl, rfl⟩, ⟨rfl, rfl⟩, ⟨rfl, rfl⟩, ⟨rfl, rfl⟩, trivial⟩ rfl rfl (by decide)) rfl rfl ?_
 rintro _ w7 ⟨u25, J25, rfl, hJ25, R25, M⟩
 have hoJ25 := M.old
 have hS := (⟨(M.less hJ25 (fun _ _ => rfl)), trivial⟩ : _ ∧ _)
 refine ⟨fun _ => hS, ?_⟩
 refine wa_e 21 rfl (by kernel_rfl) (e_callC M (or_c M.imm R25) Tryd.func64 rfl rfl) rfl rfl ?_
 rintro _ w8 ⟨J26, hJ26, rfl, M⟩
 have hS := (⟨(M.less (hle.trans hJ25 hJ26) (fun _ _ => rfl)), trivial⟩ : _ ∧ _)
 refine ⟨fun _ => hS, ?_⟩
 replace M := M.less hJ26 hoJ25
 refine wa_q 22 rfl (by kernel_rfl) (q_assign rfl) hS rfl rfl ?_
 refine wa_done (by kernel_rfl) ?_
 refine wc_ret ?_
 exact out1 rfl rfl ⟨_, _, rfl, M.grow, rfl⟩
end Go.Proofs.YtoilmeiikgegcaaDoor.G
