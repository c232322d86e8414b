/- Walks of the program's functions. -/
import Derived.Test.YtoilmeiikgegcaaDoorWVa
set_option linter.all false
namespace Go.Proofs.YtoilmeiikgegcaaDoor.G
open Go Go.RowKit
theorem orderU_c (x y : Arc) {I : Heap} {w : World} (hI : hle I (hp w)) : Calls A 72 #[EArc.val x, EArc.val y] w (Ret w I fun r _ => r = .int .i64 (ordA x y)) := by
 have M := Mem.start hI
 refine enter Tryd.func72 rfl 27 Tryd.ntmps72 [_, _] rfl ?_
 refine wc_seq ?_
 refine wc_region ?_
 refine wl_e (e_box M rfl) rfl rfl ?_
 rintro _ w1 ⟨b2, rfl, M⟩
 refine wl_e (e_box M rfl) rfl rfl ?_
 rintro _ w2 ⟨b3, rfl, M⟩
 refine wl_as M rfl rfl ?_
 refine wl_nil ?_
 refine wc_seq ?_
 refine wc_draws (fun w' => Mem w I I (box b3 52 [.int .i64 y.src, .int .i64 y.dst, .int .i32 y.inp, .int .i32 y.out] :: box b2 52 [.int .i64 x.src, .int .i64 x.dst, .int .i32 x.inp, .int .i32 x.out] :: []) w' ∧ True) [] fol ?_
 replace M := M.drew
 have hS := (⟨M, trivial⟩ : _ ∧ _)
 refine wa_q 0 rfl (by kernel_rfl) (q_fa fo_52_0 rfl) hS rfl rfl ?_
 refine wa_q 1 rfl (by kernel_rfl) ((q_ldb 1 Tryd.underlying3 rfl rfl rfl rfl).mono fun _ h => h.1) hS rfl rfl ?_
 refine wa_q 2 rfl (by kernel_rfl) (q_fa fo_52_0 rfl) hS rfl rfl ?_
 refine wa_q 3 rfl (by kernel_rfl) ((q_ldb 0 Tryd.underlying3 rfl rfl rfl rfl).mono fun _ h => h.1) hS rfl rfl ?_
 refine wa_q 5 rfl (by kernel_rfl) (q_fa fo_52_1 rfl) hS rfl rfl ?_
 refine wa_q 6 rfl (by kernel_rfl) ((q_ldb 1 Tryd.underlying3 rfl rfl rfl rfl).mono fun _ h => h.1) hS rfl rfl ?_
 refine wa_q 7 rfl (by kernel_rfl) (q_fa fo_52_1 rfl) hS rfl rfl ?_
 refine wa_q 8 rfl (by kernel_rfl) ((q_ldb 0 Tryd.underlying3 rfl rfl rfl rfl).mono fun _ h => h.1) hS rfl rfl ?_
 refine wa_q 10 rfl (by kernel_rfl) (q_fa fo_52_2 rfl) hS rfl rfl ?_
 refine wa_q 11 rfl (by kernel_rfl) ((q_ldb 1 Tryd.underlying21 rfl rfl rfl rfl).mono fun _ h => h.1) hS rfl rfl ?_
 refine wa_q 12 rfl (by kernel_rfl) (q_fa fo_52_2 rfl) hS rfl rfl ?_
 refine wa_q 13 rfl (by kernel_rfl) ((q_ldb 0 Tryd.underlying21 rfl rfl rfl rfl).mono fun _ h => h.1) hS rfl rfl ?_
 refine wa_q 15 rfl (by kernel_rfl) (q_fa fo_52_3 rfl) hS rfl rfl ?_
 refine wa_q 16 rfl (by kernel_rfl) ((q_ldb 1 Tryd.underlying21 rfl rfl rfl rfl).mono fun _ h => h.1) hS rfl rfl ?_
 refine wa_q 17 rfl (by kernel_rfl) (q_fa fo_52_3 rfl) hS rfl rfl ?_
 refine wa_q 18 rfl (by kernel_rfl) ((q_ldb 0 Tryd.underlying21 rfl rfl rfl rfl).mono fun _ h => h.1) hS rfl rfl ?_
 refine wa_e 4 rfl (by kernel_rfl) (e_callC M (compare_int _ _ M.imm) Tryd.func65 rfl rfl) rfl rfl ?_
 rintro _ w3 ⟨J9, hJ9, rfl, M⟩
 have hS := (⟨(M.less hJ9 (fun _ _ => rfl)), trivial⟩ : _ ∧ _)
 refine ⟨fun _ => hS, ?_⟩
 replace M := M.less hJ9 (fun _ _ => rfl)
 refine wa_e 9 rfl (by kernel_rfl) (e_callC M (compare_int _ _ M.imm) Tryd.func65 rfl rfl) rfl rfl ?_
 rintro _ w4 ⟨J14, hJ14, rfl, M⟩
 have hS := (⟨(M.less hJ14 (fun _ _ => rfl)), trivial⟩ : _ ∧ _)
 refine ⟨fun _ => hS, ?_⟩
 replace M := M.less hJ14 (fun _ _ => rfl)
 refine wa_e 14 rfl (by kernel_rfl) (e_callC M (compare_rune _ _ M.imm) Tryd.func66 rfl rfl) rfl rfl ?_
 rintro _ w5 ⟨J19, hJ19, rfl, M⟩
 have hS := (⟨(M.less hJ19 (fun _ _ => rfl)), trivial⟩ : _ ∧ _)
 refine ⟨fun _ => hS, ?_⟩
 replace M := M.less hJ19 (fun _ _ => rfl)
 refine wa_e 19 rfl (by kernel_rfl) (e_callC M (compare_rune _ _ M.imm) Tryd.func66 rfl rfl) rfl rfl ?_
 rintro _ w6 ⟨J24, hJ24, rfl, M⟩
 have hS := (⟨(M.less hJ24 (fun _ _ => rfl)), trivial⟩ : _ ∧ _)
 refine ⟨fun _ => hS, ?_⟩
 replace M := M.less hJ24 (fun _ _ => rfl)
 refine wa_e 20 rfl (by kernel_rfl) (e_bsI (E := EInt) (xs := [cmpI x.src y.src, cmpI x.dst y.dst, cmpI x.inp y.inp, cmpI x.out y.out]) M (bs_26_4 _ _ _ _) ⟨⟨rfl, rfl⟩, ⟨rfl, rfl⟩, ⟨rfl, rfl⟩, ⟨rfl, rfl⟩, trivial⟩ rfl rfl (by decide)) rfl rfl ?_
 rintro _ w7 ⟨u25, J25, rfl, hJ25, R25, M⟩
 have hoJ25 := M.old
 have hS := (⟨(M.less hJ25 (fun _ _ => rfl)), trivial⟩ : _ ∧ _)
 refine ⟨fun _ => hS, ?_⟩
 refine wa_e 21 rfl (by kernel_rfl) (e_callC M (or_c M.imm R25) Tryd.func64 rfl rfl) rfl rfl ?_
 rintro _ w8 ⟨J26, hJ26, rfl, M⟩
 have hS := (⟨(M.less (hle.trans hJ25 hJ26) (fun _ _ => rfl)), trivial⟩ : _ ∧ _)
 refine ⟨fun _ => hS, ?_⟩
 replace M := M.less hJ26 hoJ25
 refine wa_q 22 rfl (by kernel_rfl) (q_assign rfl) hS rfl rfl ?_
 refine wa_done (by kernel_rfl) ?_
 refine wc_ret ?_
 exact out1 rfl rfl ⟨_, _, rfl, M.grow, rfl⟩
end Go.Proofs.YtoilmeiikgegcaaDoor.G
