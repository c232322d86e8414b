/- Walks of the program's functions. -/
import Derived.Test.YtfepjcmjkaolgaaWL1
import Derived.Test.YtfepjcmjkaolgaaGBef
import Derived.Test.YtfepjcmjkaolgaaWRg
set_option linter.all false
namespace Go.Proofs.Ytfepjcmjkaolgaa.G
open Go Go.RowKit
set_option maxRecDepth 4000 in
set_option maxHeartbeats 2000000 in
theorem lawReads_c (t : Tra) (x : ByteArray) {v1 : Value} {I : Heap} {w : World} (hI : hle I (hp w)) (R1 : t.rd I v1) : Calls A 9 #[v1, .string x] w (Ret w I fun r _ => r = .bool true) := by
 obtain ⟨fu1, au1, rfl, Rf1, Ra1⟩ := R1
 have M := Mem.start hI
 refine enter Try.func9 rfl 97 Try.ntmps9 [_, _] rfl ?_
 refine wc_seq <| wc_region <| wl_e (e_box M rfl) rfl rfl ?_
 rintro _ w1 ⟨b2, rfl, M⟩
 refine wl_as M rfl rfl <| wl_nil ?_
 refine wc_seq ?_
 refine wc_seq ?_
 refine wc_join (α := Unit) [12, 13, 14, 15, 16, 17, 18, 19, 20, 21, 22, 23, 24, 25, 26, 27, 28, 29, 30] (fun _ => [(30, .bool ((((decide (40 < t.states)) || (decide (100 < (t.arcs.length : Int)))) || (!(decide ((x.size : Int) ≤ 20)))) || (!(validT t))))]) (fun _ w' => Mem w I I (box b2 25 [.int .i64 t.states, .int .i64 t.start, sv fu1, sv au1] :: []) w') ?_ ?_
 ·refine wc_region <| wl_m M (q_fa fo_25_0 rfl) rfl rfl <| wl_m M (q_ldb 0 Try.underlying3 rfl rfl rfl rfl) rfl rfl <| wl_m M (q_gtr rfl rfl) rfl rfl <| wl_mv M rfl rfl ?_
  rcases Bool.eq_false_or_eq_true (decide (40 < t.states)) with hg15 | hg15
  ·refine wl_m M (q_off 3 rfl rfl rfl hg15) rfl rfl <| wl_m M (q_off 3 rfl rfl rfl hg15) rfl rfl <| wl_m M (q_off 3 rfl rfl rfl hg15) rfl rfl <| wl_m M (q_off 3 rfl rfl rfl hg15) rfl rfl <| wl_m M (q_pickT rfl hg15 rfl) rfl rfl <| wl_mv M rfl rfl <| wl_m M (q_off 9 rfl rfl rfl rfl) rfl rfl <| wl_m M (q_off 9 rfl rfl rfl rfl) rfl rfl <| wl_m M (q_off 9 rfl rfl rfl rfl) rfl rfl <| wl_m M (q_pickT rfl rfl rfl) rfl rfl <| wl_mv M rfl rfl <| wl_m M (q_off 14 rfl rfl rfl rfl) rfl rfl <| wl_m M (q_off 14 rfl rfl rfl rfl) rfl rfl ?_
   refine wl_m M (q_off 14 rfl rfl rfl rfl) rfl rfl <| wl_m M (q_pickT rfl rfl rfl) rfl rfl <| wl_nil ?_
   exact ⟨(), M, ⟨(show some (Value.bool true) = some (Value.bool ((((decide (40 < t.states)) || (decide (100 < (t.arcs.length : Int)))) || (!(decide ((x.size : Int) ≤ 20)))) || (!(validT t)))) from by first | (simp only [hg15, bL8]; done) | (simp_all; done) | (simp_all; omega)), trivial⟩, unw_take 19 rfl rfl⟩
  refine wl_m M (q_guard 3 rfl rfl rfl hg15 (q_fa fo_25_3 rfl)) rfl rfl <| wl_m M (q_guard 3 rfl rfl rfl hg15 (q_ldb 0 Try.underlying23 rfl rfl rfl rfl)) rfl rfl <| wl_m M (q_guard 3 rfl rfl rfl hg15 (q_lenR Ra1 Try.underlying23 rfl)) rfl rfl <| wl_m M (q_guard 3 rfl rfl rfl hg15 (q_gtr rfl rfl)) rfl rfl <| wl_m M (q_pickF rfl hg15 rfl) rfl rfl <| wl_mv M rfl rfl ?_
  rcases Bool.eq_false_or_eq_true (decide (100 < (t.arcs.length : Int))) with hg21 | hg21
  ·refine wl_m M (q_off 9 rfl rfl rfl hg21) rfl rfl <| wl_m M (q_off 9 rfl rfl rfl hg21) rfl rfl <| wl_m M (q_off 9 rfl rfl rfl hg21) rfl rfl <| wl_m M (q_pickT rfl hg21 rfl) rfl rfl <| wl_mv M rfl rfl <| wl_m M (q_off 14 rfl rfl rfl rfl) rfl rfl <| wl_m M (q_off 14 rfl rfl rfl rfl) rfl rfl <| wl_m M (q_off 14 rfl rfl rfl rfl) rfl rfl <| wl_m M (q_pickT rfl rfl rfl) rfl rfl <| wl_nil ?_
   exact ⟨(), M, ⟨(show some (Value.bool true) = some (Value.bool ((((decide (40 < t.states)) || (decide (100 < (t.arcs.length : Int)))) || (!(decide ((x.size : Int) ≤ 20)))) || (!(validT t)))) from by first | (simp only [hg15, hg21, bL8]; done) | (simp_all; done) | (simp_all; omega)), trivial⟩, unw_take 19 rfl rfl⟩
  refine wl_m M (q_guard 9 rfl rfl rfl hg21 (q_move rfl)) rfl rfl <| wl_e (e_guard 9 rfl rfl rfl hg21 (e_callC M (short_c x 20 M.imm) Try.func21 rfl rfl)) rfl rfl ?_
  rintro _ w2 ⟨J23, hJ23, rfl, M⟩
  replace M := M.less hJ23 (fun _ _ => rfl)
  refine wl_m M (q_guard 9 rfl rfl rfl hg21 (q_not rfl)) rfl rfl <| wl_m M (q_pickF rfl hg21 rfl) rfl rfl <| wl_mv M rfl rfl ?_
  rcases Bool.eq_false_or_eq_true (!(decide ((x.size : Int) ≤ 20))) with hg26 | hg26
  ·refine wl_m M (q_off 14 rfl rfl rfl hg26) rfl rfl <| wl_m M (q_off 14 rfl rfl rfl hg26) rfl rfl <| wl_m M (q_off 14 rfl rfl rfl hg26) rfl rfl <| wl_m M (q_pickT rfl hg26 rfl) rfl rfl <| wl_nil ?_
   exact ⟨(), M, ⟨(show some (Value.bool true) = some (Value.bool ((((decide (40 < t.states)) || (decide (100 < (t.arcs.length : Int)))) || (!(decide ((x.size : Int) ≤ 20)))) || (!(validT t)))) from by first | (simp only [hg15, hg21, hg26, bL8]; done) | (simp_all; done) | (simp_all; omega)), trivial⟩, unw_take 19 rfl rfl⟩
  refine wl_m M (q_guard 14 rfl rfl rfl hg26 (q_ldbA 0 Try.underlying25 rfl sz25 rfl rfl rfl rfl)) rfl rfl <| wl_e (e_guard 14 rfl rfl rfl hg26 (e_callC M (valid_c t M.imm ⟨_, _, rfl, Rf1, Ra1⟩) Try.func11 rfl rfl)) rfl rfl ?_
  rintro _ w3 ⟨J28, hJ28, rfl, M⟩
  replace M := M.less hJ28 (fun _ _ => rfl)
  refine wl_m M (q_guard 14 rfl rfl rfl hg26 (q_not rfl)) rfl rfl <| wl_m M (q_pickF rfl hg26 rfl) rfl rfl <| wl_nil ?_
  exact ⟨(), M, ⟨(show some (Value.bool (!(validT t))) = some (Value.bool ((((decide (40 < t.states)) || (decide (100 < (t.arcs.length : Int)))) || (!(decide ((x.size : Int) ≤ 20)))) || (!(validT t)))) from by first | (simp only [hg15, hg21, hg26, bL8]; done) | (simp_all; done) | (simp_all; omega)), trivial⟩, unw_take 19 rfl rfl⟩
 rintro _ jr1 w4 M
 refine wc_cond rfl (fun ht30 => ?_) (fun ht30 => ?_)
 ·refine wc_seq <| wc_region <| wl_e (e_callC M (awake3_c M.imm) Try.func12 rfl rfl) rfl rfl ?_
  rintro _ w5 ⟨J31, hJ31, rfl, M⟩
  replace M := M.less hJ31 (fun _ _ => rfl)
  refine wl_as M rfl rfl <| wl_nil <| wc_ret ?_
  exact out1 rfl rfl ⟨_, _, rfl, M.grow, rfl⟩
 simp only [Bool.or_eq_false_iff, Bool.not_eq_false', decide_eq_false_iff_not, decide_eq_true_eq] at ht30
 obtain ⟨⟨⟨h1, h2⟩, h3⟩, hv⟩ := ht30
 refine wc_skip ?_
 refine wc_seq <| wc_region <| wl_m M (q_ldbA 0 Try.underlying25 rfl sz25 rfl rfl rfl rfl) rfl rfl <| wl_mv M rfl rfl <| wl_e (e_callC M (outputs_c t x 8 (by omega) (fun _ => Nat.le_trans (Nat.mul_le_mul (show x.size + 1 ≤ 21 by omega) (show t.arcs.length ≤ 100 by omega)) (by decide)) (alph_hun (by omega)) M.imm ⟨_, _, rfl, Rf1, Ra1⟩) Try.func14 rfl rfl) rfl rfl ?_
 rintro _ w6 ⟨J35, hJ35, ⟨u35, o35, e35, rfl, R35, hk35⟩, M⟩
 have hoJ35 := M.old
 refine wl_mv M rfl rfl <| wl_m M (q_ext rfl rfl) rfl rfl <| wl_m M (q_ext rfl rfl) rfl rfl <| wl_as M rfl rfl <| wl_as M rfl rfl <| wl_nil ?_
 refine wc_seq ?_
 refine wc_seq <| wc_region <| wl_mv M rfl rfl <| wl_m M (q_neq rfl rfl) rfl rfl <| wl_nil ?_
 refine wc_cond rfl (fun ht39 => ?_) (fun ht39 => ?_)
 ·refine wc_seq <| wc_region <| wl_e (e_callC M (awake3_c M.imm) Try.func12 rfl rfl) rfl rfl ?_
  rintro _ w7 ⟨J40, hJ40, rfl, M⟩
  replace M := M.less hJ40 hoJ35
  refine wl_as M rfl rfl <| wl_nil <| wc_ret ?_
  exact out1 rfl rfl ⟨_, _, rfl, M.grow, rfl⟩
 have he : e35 = 0 := by simpa using ht39
 subst he
 refine wc_skip ?_
 refine wc_seq <| wc_region <| wl_mv M rfl rfl <| wl_e (e_cvRI (E := ERune) (s := x) M (fun _ => rfl) Try.underlying9 Try.underlying40 Try.underlying21 (by omega) rfl) rfl rfl ?_
 rintro v42 w8 ⟨J42, hJ42, R42, M⟩
 obtain ⟨u42, rfl⟩ := rdSl_slice R42
 have hoJ42 := M.old
 replace R42 : rdSl ERune J42 (sv u42) (runesL x) := R42
 refine wl_as M rfl rfl <| wl_nil ?_
 refine wc_seq <| wc_region <| wl_m M (q_ldbA 0 Try.underlying25 rfl sz25 rfl rfl rfl rfl) rfl rfl <| wl_m M (q_fa fo_25_1 rfl) rfl rfl <| wl_m M (q_ldb 0 Try.underlying3 rfl rfl rfl rfl) rfl rfl <| wl_e (e_bsI (E := EInt) (xs := [t.start]) M (bs_22_1 _) ⟨⟨rfl, rfl⟩, trivial⟩ rfl rfl (by decide)) rfl rfl ?_
 rintro _ w9 ⟨u46, J46, rfl, hJ46, R46, M⟩
 have hoJ46 := M.old
 refine wl_e (e_callC M (stepT_c t [t.start] 0 (by simp) M.imm ⟨_, _, rfl, (((Rf1.mono hJ35).mono hJ42).mono hJ46), (((Ra1.mono hJ35).mono hJ42).mono hJ46)⟩ R46) Try.func20 rfl rfl) rfl rfl ?_
 rintro v47 w10 ⟨J47, hJ47, ⟨o47, R47, hs47⟩, M⟩
 obtain ⟨u47, rfl⟩ := rdSl_slice R47
 have hoJ47 := M.old
 refine wl_as M rfl rfl <| wl_nil ?_
 refine wc_seq ?_
 refine wc_seq <| wc_region <| wl_as M rfl rfl <| wl_nil <| wc_block ?_
 refine wc_loop (α := Heap × Nat × SV × (List Int)) [8, 9, 48, 49, 50, 51, 52, 53, 54, 55, 56, 57, 58, 59, 60] (fun ((Ic, k0, us, ss) : Heap × Nat × SV × (List Int)) => [(8, sv us), (9, .int .i64 (k0 : Int))])
   (fun ((Ic, k0, us, ss) : Heap × Nat × SV × (List Int)) w' => (hle J47 Ic) ∧ (k0 ≤ (runesL x).length) ∧ (rdSl EInt Ic (sv us) ss) ∧ (RdOk t ((runesL x).take k0) ss) ∧ Mem w I Ic (box b2 25 [.int .i64 t.states, .int .i64 t.start, sv fu1, sv au1] :: []) w')
   (fun ((Ic, k0, us, ss) : Heap × Nat × SV × (List Int)) => (runesL x).length - k0) (J47, 0, u47, o47) ⟨rfl, rfl, trivial⟩ ?_ ?_
 ·refine ⟨hle.refl _, Nat.zero_le _, R47, (rd_zero hv hs47), ?_⟩
  exact M
 rintro ⟨Ic, k0, us, ss⟩ jj0 w11 ⟨hIc, hk0, Rs, hrd, M⟩
 have hoIc := M.old
 refine wc_seq ?_
 refine wc_seq <| wc_region <| wl_mv M rfl rfl <| wl_mv M rfl rfl <| wl_m M (q_lenR (((R42.mono hJ46).mono hJ47).mono hIc) Try.underlying40 rfl) rfl rfl <| wl_m M (q_lss rfl rfl) rfl rfl <| wl_nil ?_
 refine wc_dec rfl (fun ht51 => ?_) (fun ht51 => ?_)
 ·obtain ⟨x0, hx0⟩ : ∃ x_, (runesL x)[k0]? = some x_ := ⟨_, List.getElem?_eq_getElem (by omega)⟩
  have hll0 := ((((R42.mono hJ46).mono hJ47).mono hIc)).len_le
  refine wc_skip ?_
  refine wc_seq <| wc_block ?_
  refine wc_draws (fun w' => Mem w I Ic (box b2 25 [.int .i64 t.states, .int .i64 t.start, sv fu1, sv au1] :: []) w' ∧ True) [] fol ?_
  replace M := M.drew
  have hS := (⟨M, trivial⟩ : _ ∧ _)
  refine wa_q 0 rfl (by kernel_rfl) ((q_ldbA 0 Try.underlying25 rfl sz25 rfl rfl rfl rfl).mono fun _ h => h.1) hS rfl rfl ?_
  refine wa_q 1 rfl (by kernel_rfl) (q_move rfl) hS rfl rfl ?_
  refine wa_q 2 rfl (by kernel_rfl) (q_move rfl) hS rfl rfl ?_
  refine wa_q 3 rfl (by kernel_rfl) (q_move rfl) hS rfl rfl ?_
  refine wa_ixS (j := k0) 4 hS (fun _ h => (((R42.mono hJ46).mono hJ47).mono hIc).mono h.1.imm) rfl (by kernel_rfl) Try.underlying40 rfl rfl hx0 rfl (fun b58 o58 p58 => ?_)
  refine wa_q 5 rfl (by kernel_rfl) (q_ldp p58 rfl rfl) hS rfl rfl ?_
  refine wa_e 6 rfl (by kernel_rfl) (e_callC M (stepT_c t ss x0 (rdok_len hv hrd) M.imm ⟨_, _, rfl, (((((Rf1.mono hJ35).mono hJ42).mono hJ46).mono hJ47).mono hIc), (((((Ra1.mono hJ35).mono hJ42).mono hJ46).mono hJ47).mono hIc)⟩ Rs) Try.func20 rfl rfl) rfl rfl ?_
  rintro v60 w12 ⟨J60, hJ60, ⟨o60, R60, hs60⟩, M⟩
  obtain ⟨u60, rfl⟩ := rdSl_slice R60
  have hoJ60 := M.old
  have hS := (⟨(M.less hJ60 hoIc), trivial⟩ : _ ∧ _)
  refine ⟨fun _ => hS, ?_⟩
  refine wa_q 7 rfl (by kernel_rfl) (q_assign rfl) hS rfl rfl ?_
  refine wa_done (by kernel_rfl) ?_
  refine wc_region <| wl_mv M rfl rfl <| wl_m M (q_add rfl rfl (IntWalk.i64_in _ (by omega))) rfl rfl ?_
  refine wl_as M rfl rfl <| wl_nil ?_
  refine ⟨(J60, k0 + 1, u60, o60), ?_, ⟨(hle.trans hIc hJ60), (by omega), R60, (by rw [take_snoc hx0]; exact rd_step hv (reads_nz hk35 x0 (List.mem_of_getElem? hx0)) hrd hs60), M⟩, ⟨rfl, rfl, trivial⟩, unw_look rfl unw_base⟩
  show (runesL x).length - (k0 + 1) < (runesL x).length - k0
  omega
 have hke0 : k0 = (runesL x).length := by omega
 rw [hke0, List.take_length] at hrd
 refine wc_exit rfl ?_
 refine wc_seq <| wc_region <| wl_as M rfl rfl <| wl_nil ?_
 refine wc_seq ?_
 refine wc_seq <| wc_region <| wl_as M rfl rfl <| wl_nil <| wc_block ?_
 refine wc_loop (α := Nat × Bool) [10, 11, 61, 62, 63, 64, 65, 66, 67, 68, 69, 70, 71, 72, 73, 74, 75] (fun ((k2, is2) : Nat × Bool) => [(10, .bool is2), (11, .int .i64 (k2 : Int))])
   (fun ((k2, is2) : Nat × Bool) w' => (k2 ≤ ss.length) ∧ (is2 = (ss.take k2).any fun s => decide (s ∈ t.finals)) ∧ Mem w I Ic (box b2 25 [.int .i64 t.states, .int .i64 t.start, sv fu1, sv au1] :: []) w')
   (fun ((k2, is2) : Nat × Bool) => ss.length - k2) (0, false) ⟨rfl, rfl, trivial⟩ ?_ ?_
 ·refine ⟨Nat.zero_le _, rfl, ?_⟩
  exact M
 rintro ⟨k2, is2⟩ jj2 w13 ⟨hk2, his, M⟩
 have hoIc := M.old
 refine wc_seq ?_
 refine wc_seq <| wc_region <| wl_mv M rfl rfl <| wl_mv M rfl rfl <| wl_m M (q_lenR Rs Try.underlying22 rfl) rfl rfl <| wl_m M (q_lss rfl rfl) rfl rfl <| wl_nil ?_
 refine wc_dec rfl (fun ht64 => ?_) (fun ht64 => ?_)
 ·obtain ⟨x2, hx2⟩ : ∃ x_, ss[k2]? = some x_ := ⟨_, List.getElem?_eq_getElem (by omega)⟩
  have hll2 := (Rs).len_le
  refine wc_skip ?_
  refine wc_seq <| wc_block ?_
  refine wc_join (α := Unit) [10, 67, 68, 69, 70, 71, 72, 73, 74, 75] (fun _ => [(10, .bool (is2 || (decide (x2 ∈ t.finals))))]) (fun _ w' => Mem w I Ic (box b2 25 [.int .i64 t.states, .int .i64 t.start, sv fu1, sv au1] :: []) w') ?_ ?_
  ·refine wc_draws (fun w' => Mem w I Ic (box b2 25 [.int .i64 t.states, .int .i64 t.start, sv fu1, sv au1] :: []) w' ∧ True) [] fol ?_
   replace M := M.drew
   have hS := (⟨M, trivial⟩ : _ ∧ _)
   refine wa_q 0 rfl (by kernel_rfl) (q_move rfl) hS rfl rfl ?_
   refine wa_q 1 rfl (by kernel_rfl) (q_move rfl) hS rfl rfl ?_
   rcases Bool.eq_false_or_eq_true (is2) with hg68 | hg68
   ·refine wa_q 2 rfl (by kernel_rfl) (q_off 1 rfl rfl rfl hg68) hS rfl rfl ?_
    refine wa_q 3 rfl (by kernel_rfl) (q_off 1 rfl rfl rfl hg68) hS rfl rfl ?_
    refine wa_q 4 rfl (by kernel_rfl) (q_off 1 rfl rfl rfl hg68) hS rfl rfl ?_
    refine wa_q 5 rfl (by kernel_rfl) (q_off 1 rfl rfl rfl hg68) hS rfl rfl ?_
    refine wa_q 6 rfl (by kernel_rfl) (q_off 1 rfl rfl rfl hg68) hS rfl rfl ?_
    refine wa_q 7 rfl (by kernel_rfl) (q_off 1 rfl rfl rfl hg68) hS rfl rfl ?_
    refine wa_q 8 rfl (by kernel_rfl) (q_pickT rfl hg68 rfl) hS rfl rfl ?_
    refine wa_q 9 rfl (by kernel_rfl) (q_assign rfl) hS rfl rfl ?_
    refine wa_done (by kernel_rfl) ?_
    exact ⟨(), M, ⟨(show some (Value.bool true) = some (Value.bool (is2 || (decide (x2 ∈ t.finals)))) from by first | (simp only [hg68, bL8]; done) | (simp_all; done) | (simp_all; omega)), trivial⟩, unw_take 10 rfl rfl⟩
   refine wa_q 2 rfl (by kernel_rfl) ((q_guard 1 rfl rfl rfl hg68 (q_ldbA 0 Try.underlying25 rfl sz25 rfl rfl rfl rfl)).mono fun _ h => h.1) hS rfl rfl ?_
   refine wa_q 3 rfl (by kernel_rfl) (q_guard 1 rfl rfl rfl hg68 (q_move rfl)) hS rfl rfl ?_
   refine wa_q 4 rfl (by kernel_rfl) (q_guard 1 rfl rfl rfl hg68 (q_move rfl)) hS rfl rfl ?_
   refine wa_ixSG (j := k2) 1 rfl rfl rfl hg68 5 hS (fun _ h => Rs.mono h.1.imm) rfl (by kernel_rfl) Try.underlying22 rfl rfl hx2 rfl (fun b72 o72 p72 => ?_)
   refine wa_q 6 rfl (by kernel_rfl) (q_guard 1 rfl rfl rfl hg68 (q_ldp p72 rfl rfl)) hS rfl rfl ?_
   refine wa_e 7 rfl (by kernel_rfl) (e_guard 1 rfl rfl rfl hg68 (e_callC M (final3_c t x2 M.imm ⟨_, _, rfl, (((((Rf1.mono hJ35).mono hJ42).mono hJ46).mono hJ47).mono hIc), (((((Ra1.mono hJ35).mono hJ42).mono hJ46).mono hJ47).mono hIc)⟩) Try.func28 rfl rfl)) rfl rfl ?_
   rintro _ w14 ⟨J74, hJ74, rfl, M⟩
   have hS := (⟨(M.less hJ74 hoIc), trivial⟩ : _ ∧ _)
   refine ⟨fun _ => hS, ?_⟩
   replace M := M.less hJ74 hoIc
   refine wa_q 8 rfl (by kernel_rfl) (q_pickF rfl hg68 rfl) hS rfl rfl ?_
   refine wa_q 9 rfl (by kernel_rfl) (q_assign rfl) hS rfl rfl ?_
   refine wa_done (by kernel_rfl) ?_
   exact ⟨(), M, ⟨(show some (Value.bool (decide (x2 ∈ t.finals))) = some (Value.bool (is2 || (decide (x2 ∈ t.finals)))) from by first | (simp only [hg68, bL8]; done) | (simp_all; done) | (simp_all; omega)), trivial⟩, unw_take 10 rfl rfl⟩
  rintro _ jr16 w15 M
  refine wc_region <| wl_mv M rfl rfl <| wl_m M (q_add rfl rfl (IntWalk.i64_in _ (by omega))) rfl rfl ?_
  refine wl_as M rfl rfl <| wl_nil ?_
  refine ⟨(k2 + 1, (is2 || decide (x2 ∈ t.finals))), ?_, ⟨(by omega), (by rw [take_snoc hx2, List.any_append, ← his]; simp), M⟩, ⟨rfl, rfl, trivial⟩, unw_look rfl (unw_hav rfl (unw_look rfl unw_base))⟩
  show ss.length - (k2 + 1) < ss.length - k2
  omega
 have hke2 : k2 = ss.length := by omega
 rw [hke2, List.take_length] at his
 refine wc_exit rfl ?_
 refine wc_seq ?_
 refine wc_seq ?_
 refine wc_join (α := Unit) [76, 77, 78, 79, 80, 81, 82, 83, 84, 85, 86, 87] (fun _ => [(87, .bool ((seqS t) && ((decide (1 < (ss.length : Int))) || (decide (1 < (o35.length : Int))))))]) (fun _ w' => Mem w I Ic (box b2 25 [.int .i64 t.states, .int .i64 t.start, sv fu1, sv au1] :: []) w') ?_ ?_
 ·refine wc_region <| wl_m M (q_ldbA 0 Try.underlying25 rfl sz25 rfl rfl rfl rfl) rfl rfl <| wl_e (e_callC M (sequentialT_c t M.imm ⟨_, _, rfl, (((((Rf1.mono hJ35).mono hJ42).mono hJ46).mono hJ47).mono hIc), (((((Ra1.mono hJ35).mono hJ42).mono hJ46).mono hJ47).mono hIc)⟩) Try.func16 rfl rfl) rfl rfl ?_
  rintro _ w16 ⟨J77, hJ77, rfl, M⟩
  replace M := M.less hJ77 hoIc
  refine wl_mv M rfl rfl ?_
  rcases Bool.eq_false_or_eq_true (seqS t) with hg78 | hg78
  ·refine wl_m M (q_guard 2 rfl rfl rfl hg78 (q_move rfl)) rfl rfl <| wl_m M (q_guard 2 rfl rfl rfl hg78 (q_lenR Rs Try.underlying22 rfl)) rfl rfl <| wl_m M (q_guard 2 rfl rfl rfl hg78 (q_gtr rfl rfl)) rfl rfl <| wl_m M (q_guard 2 rfl rfl rfl hg78 (q_move rfl)) rfl rfl ?_
   rcases Bool.eq_false_or_eq_true (decide (1 < (ss.length : Int))) with hg82 | hg82
   ·refine wl_m M (q_off 6 rfl rfl rfl hg82) rfl rfl <| wl_m M (q_off 6 rfl rfl rfl hg82) rfl rfl <| wl_m M (q_off 6 rfl rfl rfl hg82) rfl rfl <| wl_m M (q_guard 2 rfl rfl rfl hg78 (q_pickT rfl hg82 rfl)) rfl rfl <| wl_m M (q_pickT rfl hg78 rfl) rfl rfl <| wl_nil ?_
    exact ⟨(), M, ⟨(show some (Value.bool true) = some (Value.bool ((seqS t) && ((decide (1 < (ss.length : Int))) || (decide (1 < (o35.length : Int)))))) from by first | (simp only [hg78, hg82, bL8]; done) | (simp_all; done) | (simp_all; omega)), trivial⟩, unw_take 12 rfl rfl⟩
   refine wl_m M (q_guard 6 rfl rfl rfl hg82 (q_move rfl)) rfl rfl <| wl_m M (q_guard 6 rfl rfl rfl hg82 (q_lenR ((((R35.mono hJ42).mono hJ46).mono hJ47).mono hIc) Try.underlying30 rfl)) rfl rfl <| wl_m M (q_guard 6 rfl rfl rfl hg82 (q_gtr rfl rfl)) rfl rfl <| wl_m M (q_guard 2 rfl rfl rfl hg78 (q_pickF rfl hg82 rfl)) rfl rfl <| wl_m M (q_pickT rfl hg78 rfl) rfl rfl <| wl_nil ?_
   exact ⟨(), M, ⟨(show some (Value.bool (decide (1 < (o35.length : Int)))) = some (Value.bool ((seqS t) && ((decide (1 < (ss.length : Int))) || (decide (1 < (o35.length : Int)))))) from by first | (simp only [hg78, hg82, bL8]; done) | (simp_all; done) | (simp_all; omega)), trivial⟩, unw_take 12 rfl rfl⟩
  refine wl_m M (q_off 2 rfl rfl rfl hg78) rfl rfl <| wl_m M (q_off 2 rfl rfl rfl hg78) rfl rfl <| wl_m M (q_off 2 rfl rfl rfl hg78) rfl rfl <| wl_m M (q_off 2 rfl rfl rfl hg78) rfl rfl <| wl_m M (q_offu 6 rfl rfl rfl) rfl rfl <| wl_m M (q_offu 6 rfl rfl rfl) rfl rfl <| wl_m M (q_offu 6 rfl rfl rfl) rfl rfl <| wl_m M (q_off 2 rfl rfl rfl hg78) rfl rfl <| wl_m M (q_pickF rfl hg78 rfl) rfl rfl <| wl_nil ?_
  exact ⟨(), M, ⟨(show some (Value.bool false) = some (Value.bool ((seqS t) && ((decide (1 < (ss.length : Int))) || (decide (1 < (o35.length : Int)))))) from by first | (simp only [hg78, bL8]; done) | (simp_all; done) | (simp_all; omega)), trivial⟩, unw_take 12 rfl rfl⟩
 rintro _ jr17 w17 M
 refine wc_cond rfl (fun ht87 => ?_) (fun ht87 => ?_)
 ·simp only [Bool.and_eq_true, Bool.or_eq_true, decide_eq_true_eq] at ht87
  have h1 := seq_one ht87.1 hrd
  have h2 := seq_outs ht87.1 hk35
  omega
 refine wc_skip ?_
 refine wc_seq ?_
 refine wc_join (α := Unit) [4, 88, 89, 90, 91, 92, 93, 94, 95, 96] (fun _ => [(4, .bool (true && ((decide ((o35.length : Int) = 0)) || is2)))]) (fun _ w' => Mem w I Ic (box b2 25 [.int .i64 t.states, .int .i64 t.start, sv fu1, sv au1] :: []) w') ?_ ?_
 ·refine wc_region <| wl_e (e_callC M (awake3_c M.imm) Try.func12 rfl rfl) rfl rfl ?_
  rintro _ w18 ⟨J88, hJ88, rfl, M⟩
  replace M := M.less hJ88 hoIc
  refine wl_mv M rfl rfl <| wl_m M (q_guard 1 rfl rfl rfl rfl (q_move rfl)) rfl rfl <| wl_m M (q_guard 1 rfl rfl rfl rfl (q_lenR ((((R35.mono hJ42).mono hJ46).mono hJ47).mono hIc) Try.underlying30 rfl)) rfl rfl <| wl_m M (q_guard 1 rfl rfl rfl rfl (q_eql rfl rfl)) rfl rfl <| wl_m M (q_guard 1 rfl rfl rfl rfl (q_move rfl)) rfl rfl ?_
  rcases Bool.eq_false_or_eq_true (decide ((o35.length : Int) = 0)) with hg93 | hg93
  ·refine wl_m M (q_off 5 rfl rfl rfl hg93) rfl rfl <| wl_m M (q_guard 1 rfl rfl rfl rfl (q_pickT rfl hg93 rfl)) rfl rfl <| wl_m M (q_pickT rfl rfl rfl) rfl rfl <| wl_as M rfl rfl <| wl_nil ?_
   exact ⟨(), M, ⟨(show some (Value.bool true) = some (Value.bool (true && ((decide ((o35.length : Int) = 0)) || is2))) from by first | (simp only [hg93, bL8]; done) | (simp_all; done) | (simp_all; omega)), trivial⟩, unw_take 10 rfl rfl⟩
  refine wl_m M (q_guard 5 rfl rfl rfl hg93 (q_move rfl)) rfl rfl <| wl_m M (q_guard 1 rfl rfl rfl rfl (q_pickF rfl hg93 rfl)) rfl rfl <| wl_m M (q_pickT rfl rfl rfl) rfl rfl <| wl_as M rfl rfl <| wl_nil ?_
  exact ⟨(), M, ⟨(show some (Value.bool is2) = some (Value.bool (true && ((decide ((o35.length : Int) = 0)) || is2))) from by first | (simp only [hg93, bL8]; done) | (simp_all; done) | (simp_all; omega)), trivial⟩, unw_take 10 rfl rfl⟩
 rintro _ jr19 w19 M
 refine wc_ret ?_
 exact out1 rfl rfl ⟨_, _, rfl, M.grow, (by rw [his]; exact congrArg Value.bool (reads_fin hk35 hrd))⟩
end Go.Proofs.Ytfepjcmjkaolgaa.G
