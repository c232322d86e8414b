/- Walks of the program's functions. -/
import Derived.Test.YtmjieefhjmiagaaGreatDoorWRn
import Derived.Test.YtmjieefhjmiagaaGreatDoorGAlp
import Derived.Test.YtmjieefhjmiagaaGreatDoorGRl3
import Derived.Test.YtmjieefhjmiagaaGreatDoorGThr
import Derived.Test.YtmjieefhjmiagaaGreatDoorGTk3
import Derived.Test.YtmjieefhjmiagaaGreatDoorGSts
import Derived.Test.YtmjieefhjmiagaaGreatDoorGOpn
set_option linter.all false
namespace Go.Proofs.YtmjieefhjmiagaaGreatDoor.G
open Go Go.RowKit
theorem after3_c {l : List Int} {i : Nat} (r : Int) (hi : i ≤ l.length) (hl : l.length ≤ 4096) {u : SV} {I : Heap} {w : World} (hI : hle I (hp w)) (R1 : rdSl ERune I (sv u) l) :
    Calls A 68 #[sv u, .int .i64 (i : Int), .int .i32 r] w (Ret w I fun v _ => v = .tuple #[.int .i64 (eatK i r), .bool (fitB l (i : Int) r)]) := by
 have M := Mem.start hI
 refine enter Tryz.func68 rfl 25 Tryz.ntmps68 [_, _, _] rfl ?_
 refine wc_seq ?_
 refine wc_region ?_
 refine wl_as M rfl rfl ?_
 refine wl_as M rfl rfl ?_
 refine wl_nil ?_
 refine wc_seq ?_
 refine wc_seq ?_
 refine wc_region ?_
 refine wl_mv M rfl rfl ?_
 refine wl_m M (q_eql rfl rfl) rfl rfl ?_
 refine wl_nil ?_
 refine wc_dec rfl (fun ht9 => ?_) (fun ht9 => ?_)
 ·refine wc_seq ?_
  refine wc_region ?_
  refine wl_mv M rfl rfl ?_
  refine wl_as M rfl rfl ?_
  refine wl_as M rfl rfl ?_
  refine wl_nil ?_
  refine wc_ret ?_
  exact out2 rfl rfl rfl ⟨_, _, rfl, M.grow, by rw [eatK_eq ht9, fit_eps0 ht9]⟩
 refine wc_skip ?_
 refine wc_seq ?_
 refine wc_join (α := Unit) [6, 7, 11, 12, 13, 14, 15, 16, 17, 18, 19, 20, 21, 22, 23, 24] (fun _ => [(6, .int .i64 ((i : Int) + 1)), (7, .bool ((decide ((i : Int) < (l.length : Int))) && (decide ((l.getD i 0) = r))))]) (fun _ w' => Mem w I I ([]) w') ?_ ?_
 ·refine wc_draws (fun w' => Mem w I I ([]) w' ∧ True) [] fol ?_
  replace M := M.drew
  have hS := (⟨M, trivial⟩ : _ ∧ _)
  refine wa_q 0 rfl (by kernel_rfl) (q_move rfl) hS rfl rfl ?_
  refine wa_q 1 rfl (by kernel_rfl) (q_add rfl rfl (IntWalk.i64_in _ (by omega))) hS rfl rfl ?_
  refine wa_q 2 rfl (by kernel_rfl) (q_move rfl) hS rfl rfl ?_
  refine wa_q 3 rfl (by kernel_rfl) (q_move rfl) hS rfl rfl ?_
  refine wa_q 4 rfl (by kernel_rfl) (q_lenR R1 Tryz.underlying29 rfl) hS rfl rfl ?_
  refine wa_q 5 rfl (by kernel_rfl) (q_lss rfl rfl) hS rfl rfl ?_
  refine wa_q 6 rfl (by kernel_rfl) (q_move rfl) hS rfl rfl ?_
  rcases Bool.eq_false_or_eq_true (decide ((i : Int) < (l.length : Int))) with hg17 | hg17
  ·refine wa_q 7 rfl (by kernel_rfl) (q_guard 6 rfl rfl rfl hg17 (q_move rfl)) hS rfl rfl ?_
   refine wa_q 8 rfl (by kernel_rfl) (q_guard 6 rfl rfl rfl hg17 (q_move rfl)) hS rfl rfl ?_
   have hb17 := of_decide_eq_true hg17
   refine wa_ixSG (j := i) 6 rfl rfl rfl hg17 9 hS (fun _ h => R1.mono h.1.imm) rfl (by kernel_rfl) Tryz.underlying29 rfl rfl (getD_at (d := 0) (by omega)) rfl (fun b20 o20 p20 => ?_)
   refine wa_q 10 rfl (by kernel_rfl) (q_guard 6 rfl rfl rfl hg17 (q_ldp p20 rfl rfl)) hS rfl rfl ?_
   refine wa_q 11 rfl (by kernel_rfl) (q_guard 6 rfl rfl rfl hg17 (q_move rfl)) hS rfl rfl ?_
   refine wa_q 12 rfl (by kernel_rfl) (q_guard 6 rfl rfl rfl hg17 (q_eql rfl rfl)) hS rfl rfl ?_
   refine wa_q 13 rfl (by kernel_rfl) (q_pickT rfl hg17 rfl) hS rfl rfl ?_
   refine wa_q 14 rfl (by kernel_rfl) (q_assign rfl) hS rfl rfl ?_
   refine wa_q 15 rfl (by kernel_rfl) (q_assign rfl) hS rfl rfl ?_
   refine wa_done (by kernel_rfl) ?_
   exact ⟨(), M, ⟨rfl, (show some (Value.bool (decide ((l.getD i 0) = r))) = some (Value.bool ((decide ((i : Int) < (l.length : Int))) && (decide ((l.getD i 0) = r)))) from by first | (simp only [hg17, Bool.true_or, Bool.false_or, Bool.true_and, Bool.false_and, Bool.or_true, Bool.or_false, Bool.and_true, Bool.and_false]; done) | (simp_all; done) | (simp_all; omega)), trivial⟩, unw_take 16 rfl rfl⟩
  refine wa_q 7 rfl (by kernel_rfl) (q_off 6 rfl rfl rfl hg17) hS rfl rfl ?_
  refine wa_q 8 rfl (by kernel_rfl) (q_off 6 rfl rfl rfl hg17) hS rfl rfl ?_
  refine wa_q 9 rfl (by kernel_rfl) (q_off 6 rfl rfl rfl hg17) hS rfl rfl ?_
  refine wa_q 10 rfl (by kernel_rfl) (q_off 6 rfl rfl rfl hg17) hS rfl rfl ?_
  refine wa_q 11 rfl (by kernel_rfl) (q_off 6 rfl rfl rfl hg17) hS rfl rfl ?_
  refine wa_q 12 rfl (by kernel_rfl) (q_off 6 rfl rfl rfl hg17) hS rfl rfl ?_
  refine wa_q 13 rfl (by kernel_rfl) (q_pickF rfl hg17 rfl) hS rfl rfl ?_
  refine wa_q 14 rfl (by kernel_rfl) (q_assign rfl) hS rfl rfl ?_
  refine wa_q 15 rfl (by kernel_rfl) (q_assign rfl) hS rfl rfl ?_
  refine wa_done (by kernel_rfl) ?_
  exact ⟨(), M, ⟨rfl, (show some (Value.bool false) = some (Value.bool ((decide ((i : Int) < (l.length : Int))) && (decide ((l.getD i 0) = r)))) from by first | (simp only [hg17, Bool.true_or, Bool.false_or, Bool.true_and, Bool.false_and, Bool.or_true, Bool.or_false, Bool.and_true, Bool.and_false]; done) | (simp_all; done) | (simp_all; omega)), trivial⟩, unw_take 16 rfl rfl⟩
 rintro _ jr3 w1 M
 refine wc_ret ?_
 exact out2 rfl rfl rfl ⟨_, _, rfl, M.grow, by rw [eatK_ne ht9, ← fit_get, decide_eq_false ht9, Bool.false_or]⟩
set_option maxRecDepth 4000 in
set_option maxHeartbeats 2000000 in
theorem relates3_c (t : Tra) (x z : ByteArray) (hx : x.size ≤ 24) (hz : z.size ≤ 24) {v1 : Value} {I : Heap} {w : World} (hI : hle I (hp w)) (hT : Tabs I) (R1 : t.rd I v1) :
    Calls A 32 #[v1, .string x, .string z] w (Ret w I fun r _ => r = .bool (relS t x z)) := by
 obtain ⟨fu1, au1, rfl, Rf1, Ra1⟩ := R1
 have M := Mem.start hI
 refine enter Tryz.func32 rfl 177 Tryz.ntmps32 [_, _, _] rfl ?_
 refine wc_seq ?_
 refine wc_region ?_
 refine wl_e (e_box M rfl) rfl rfl ?_
 rintro _ w1 ⟨b3, rfl, M⟩
 refine wl_as M rfl rfl ?_
 refine wl_nil ?_
 refine wc_seq ?_
 refine wc_region ?_
 refine wl_mv M rfl rfl ?_
 refine wl_e (e_callC M (runes3_c x (by omega) M.imm hT) Tryz.func67 rfl rfl) rfl rfl ?_
 rintro _ w2 ⟨J26, hJ26, ⟨u26, rfl, R26⟩, M⟩
 have hoJ26 := M.old
 refine wl_mv M rfl rfl ?_
 refine wl_m M (q_ext rfl rfl) rfl rfl ?_
 refine wl_m M (q_ext rfl rfl) rfl rfl ?_
 refine wl_as M rfl rfl ?_
 refine wl_as M rfl rfl ?_
 refine wl_nil ?_
 refine wc_seq ?_
 refine wc_region ?_
 refine wl_mv M rfl rfl ?_
 refine wl_e (e_callC M (runes3_c z (by omega) M.imm (hT.mono hJ26)) Tryz.func67 rfl rfl) rfl rfl ?_
 rintro _ w3 ⟨J31, hJ31, ⟨u31, rfl, R31⟩, M⟩
 have hoJ31 := M.old
 refine wl_mv M rfl rfl ?_
 refine wl_m M (q_ext rfl rfl) rfl rfl ?_
 refine wl_m M (q_ext rfl rfl) rfl rfl ?_
 refine wl_as M rfl rfl ?_
 refine wl_as M rfl rfl ?_
 refine wl_nil ?_
 refine wc_seq ?_
 refine wc_seq ?_
 refine wc_join (α := Unit) [34, 35, 36, 37, 38, 39, 40, 41, 42, 43, 44] (fun _ => [(44, .bool (((!(okR x)) || (!(okR z))) || (!(validT t))))]) (fun _ w' => Mem w I J31 (box b3 25 [.int .i64 t.states, .int .i64 t.start, sv fu1, sv au1] :: []) w') ?_ ?_
 ·refine wc_region ?_
  refine wl_mv M rfl rfl ?_
  refine wl_m M (q_not rfl) rfl rfl ?_
  refine wl_mv M rfl rfl ?_
  rcases Bool.eq_false_or_eq_true (!(okR x)) with hg36 | hg36
  ·refine wl_m M (q_off 2 rfl rfl rfl hg36) rfl rfl ?_
   refine wl_m M (q_off 2 rfl rfl rfl hg36) rfl rfl ?_
   refine wl_m M (q_pickT rfl hg36 rfl) rfl rfl ?_
   refine wl_mv M rfl rfl ?_
   refine wl_m M (q_off 6 rfl rfl rfl rfl) rfl rfl ?_
   refine wl_m M (q_off 6 rfl rfl rfl rfl) rfl rfl ?_
   refine wl_m M (q_off 6 rfl rfl rfl rfl) rfl rfl ?_
   refine wl_m M (q_pickT rfl rfl rfl) rfl rfl ?_
   refine wl_nil ?_
   exact ⟨(), M, ⟨(show some (Value.bool true) = some (Value.bool (((!(okR x)) || (!(okR z))) || (!(validT t)))) from by first | (simp only [hg36, Bool.true_or, Bool.false_or, Bool.true_and, Bool.false_and, Bool.or_true, Bool.or_false, Bool.and_true, Bool.and_false]; done) | (simp_all; done) | (simp_all; omega)), trivial⟩, unw_take 11 rfl rfl⟩
  refine wl_m M (q_guard 2 rfl rfl rfl hg36 (q_move rfl)) rfl rfl ?_
  refine wl_m M (q_guard 2 rfl rfl rfl hg36 (q_not rfl)) rfl rfl ?_
  refine wl_m M (q_pickF rfl hg36 rfl) rfl rfl ?_
  refine wl_mv M rfl rfl ?_
  rcases Bool.eq_false_or_eq_true (!(okR z)) with hg40 | hg40
  ·refine wl_m M (q_off 6 rfl rfl rfl hg40) rfl rfl ?_
   refine wl_m M (q_off 6 rfl rfl rfl hg40) rfl rfl ?_
   refine wl_m M (q_off 6 rfl rfl rfl hg40) rfl rfl ?_
   refine wl_m M (q_pickT rfl hg40 rfl) rfl rfl ?_
   refine wl_nil ?_
   exact ⟨(), M, ⟨(show some (Value.bool true) = some (Value.bool (((!(okR x)) || (!(okR z))) || (!(validT t)))) from by first | (simp only [hg36, hg40, Bool.true_or, Bool.false_or, Bool.true_and, Bool.false_and, Bool.or_true, Bool.or_false, Bool.and_true, Bool.and_false]; done) | (simp_all; done) | (simp_all; omega)), trivial⟩, unw_take 11 rfl rfl⟩
  refine wl_m M (q_guard 6 rfl rfl rfl hg40 (q_ldbA 0 Tryz.underlying25 rfl sz25 rfl rfl rfl rfl)) rfl rfl ?_
  refine wl_e (e_guard 6 rfl rfl rfl hg40 (e_callC M (valid3_c t M.imm ⟨_, _, rfl, ((Rf1.mono hJ26).mono hJ31), ((Ra1.mono hJ26).mono hJ31)⟩) Tryz.func40 rfl rfl)) rfl rfl ?_
  rintro _ w4 ⟨J42, hJ42, rfl, M⟩
  replace M := M.less hJ42 hoJ31
  refine wl_m M (q_guard 6 rfl rfl rfl hg40 (q_not rfl)) rfl rfl ?_
  refine wl_m M (q_pickF rfl hg40 rfl) rfl rfl ?_
  refine wl_nil ?_
  exact ⟨(), M, ⟨(show some (Value.bool (!(validT t))) = some (Value.bool (((!(okR x)) || (!(okR z))) || (!(validT t)))) from by first | (simp only [hg36, hg40, Bool.true_or, Bool.false_or, Bool.true_and, Bool.false_and, Bool.or_true, Bool.or_false, Bool.and_true, Bool.and_false]; done) | (simp_all; done) | (simp_all; omega)), trivial⟩, unw_take 11 rfl rfl⟩
 rintro _ jr3 w5 M
 refine wc_cond rfl (fun ht44 => ?_) (fun ht44 => ?_)
 ·refine wc_seq ?_
  refine wc_region ?_
  refine wl_as M rfl rfl ?_
  refine wl_nil ?_
  refine wc_ret ?_
  exact out1 rfl rfl ⟨_, _, rfl, M.grow, by rw [relS_bad3 ht44]⟩
 rw [Bool.or_eq_false_iff, Bool.or_eq_false_iff, Bool.not_eq_false', Bool.not_eq_false', Bool.not_eq_false'] at ht44
 obtain ⟨⟨hkx, hkz⟩, hv⟩ := ht44
 rw [runesR, if_pos hkx] at R26
 rw [runesR, if_pos hkz] at R31
 obtain ⟨N, ha, hrf⟩ := valid_rng hv
 have hr := ha.rng hrf
 have hst := ha.st
 have hN : N ≤ 262144 := by have := ha.le; omega
 have hal := ha.alen
 have hfl := valid_fl hv
 have hlx := runesL_le x
 have hlz := runesL_le z
 have hs0 : ((t.start.toNat : Nat) : Int) = t.start := Int.toNat_of_nonneg hr.start.1
 have hs1 : t.start.toNat < N := by have := hr.start; omega
 obtain ⟨hb1, hb2, hb3, hb4, hb5⟩ := pl_bound (w := (runesL x).length + 1) (h := (runesL z).length + 1) (i := 0) (j := 0) hs1 hN (by omega) (by omega) (by omega) (by omega)
 have hsl : t.start.toNat * ((runesL x).length + 1) * ((runesL z).length + 1) < N * ((runesL x).length + 1) * ((runesL z).length + 1) := by have := plI_lt (w := (runesL x).length + 1) (h := (runesL z).length + 1) (i := 0) (j := 0) hs1 (by omega) (by omega); simpa using this
 refine wc_skip ?_
 refine wc_seq ?_
 refine wc_region ?_
 refine wl_mv M rfl rfl ?_
 refine wl_m M (q_lenR (R26.mono hJ31) Tryz.underlying29 rfl) rfl rfl ?_
 refine wl_m M (q_add (z := (((runesL x).length + 1 : Nat) : Int)) rfl rfl (by rw [show ((runesL x).length : Int) + 1 = (((runesL x).length + 1 : Nat) : Int) by simp]; exact IntWalk.i64_in _ (by omega))) rfl rfl ?_
 refine wl_mv M rfl rfl ?_
 refine wl_m M (q_lenR R31 Tryz.underlying29 rfl) rfl rfl ?_
 refine wl_m M (q_add (z := (((runesL z).length + 1 : Nat) : Int)) rfl rfl (by rw [show ((runesL z).length : Int) + 1 = (((runesL z).length + 1 : Nat) : Int) by simp]; exact IntWalk.i64_in _ (by omega))) rfl rfl ?_
 refine wl_as M rfl rfl ?_
 refine wl_as M rfl rfl ?_
 refine wl_nil ?_
 refine wc_seq ?_
 refine wc_region ?_
 refine wl_m M (q_fa fo_25_0 rfl) rfl rfl ?_
 refine wl_m M (q_ldb 0 Tryz.underlying3 rfl rfl rfl rfl) rfl rfl ?_
 refine wl_mv M rfl rfl ?_
 refine wl_m M (q_mul (z := ((N * ((runesL x).length + 1) : Nat) : Int)) rfl rfl (by rw [show t.states * ((((runesL x).length + 1) : Nat) : Int) = ((N * ((runesL x).length + 1) : Nat) : Int) by rw [hst, ← Int.natCast_mul]]; exact IntWalk.i64_in _ (by omega))) rfl rfl ?_
 refine wl_mv M rfl rfl ?_
 refine wl_m M (q_mul (z := ((N * ((runesL x).length + 1) * ((runesL z).length + 1) : Nat) : Int)) rfl rfl (by rw [show ((N * ((runesL x).length + 1) : Nat) : Int) * ((((runesL z).length + 1) : Nat) : Int) = ((N * ((runesL x).length + 1) * ((runesL z).length + 1) : Nat) : Int) by rw [← Int.natCast_mul]]; exact IntWalk.i64_in _ (by omega))) rfl rfl ?_
 refine wl_e (e_make (E := EBool) (zv := false) (m := (N * ((runesL x).length + 1) * ((runesL z).length + 1))) M Tryz.underlying142 z4 rfl rfl (by show _ * 1 ≤ _; omega)) rfl rfl ?_
 rintro _ w6 ⟨u57, rfl, M⟩
 refine wl_as M rfl rfl ?_
 refine wl_nil ?_
 refine wc_seq ?_
 refine wc_region ?_
 refine wl_mv M rfl rfl ?_
 refine wl_m M (q_fa fo_25_1 rfl) rfl rfl ?_
 refine wl_m M (q_ldb 1 Tryz.underlying3 rfl rfl rfl rfl) rfl rfl ?_
 refine wl_mv M rfl rfl ?_
 refine wl_m M (q_mul (z := ((t.start.toNat * ((runesL x).length + 1) : Nat) : Int)) rfl rfl (by rw [show t.start * ((((runesL x).length + 1) : Nat) : Int) = ((t.start.toNat * ((runesL x).length + 1) : Nat) : Int) by rw [Int.natCast_mul, hs0]]; exact IntWalk.i64_in _ (by omega))) rfl rfl ?_
 refine wl_mv M rfl rfl ?_
 refine wl_m M (q_mul (z := ((t.start.toNat * ((runesL x).length + 1) * ((runesL z).length + 1) : Nat) : Int)) rfl rfl (by rw [show ((t.start.toNat * ((runesL x).length + 1) : Nat) : Int) * ((((runesL z).length + 1) : Nat) : Int) = ((t.start.toNat * ((runesL x).length + 1) * ((runesL z).length + 1) : Nat) : Int) by rw [← Int.natCast_mul]]; exact IntWalk.i64_in _ (by omega))) rfl rfl ?_
 refine wl_ixw (j := (t.start.toNat * ((runesL x).length + 1) * ((runesL z).length + 1))) 0 M rfl Tryz.underlying142 rfl rfl (by rw [List.length_replicate]; exact hsl) rfl (fun b65 o65 p65 => ?_)
 refine wl_e0 (e_str (u := true) 0 M rfl rfl rfl p65 (by rw [List.length_replicate]; exact hsl) rfl) rfl ?_
 intro _ w7 M
 try simp only [sC0, sCS] at M
 refine wl_nil ?_
 refine wc_seq ?_
 refine wc_seq ?_
 refine wc_region ?_
 refine wl_as M rfl rfl ?_
 refine wl_nil ?_
 refine wc_block ?_
 refine wc_loop (α := Bool × (List Bool)) [14, 15, 16, 17, 18, 19, 20, 21, 22, 66, 67, 68, 69, 70, 71, 72, 73, 74, 75, 76, 77, 78, 79, 80, 81, 82, 83, 84, 85, 86, 87, 88, 89, 90, 91, 92, 93, 94, 95, 96, 97, 98, 99, 100, 101, 102, 103, 104, 105, 106, 107, 108, 109, 110, 111, 112, 113, 114, 115, 116, 117, 118, 119, 120, 121, 122, 123, 124, 125, 126, 127, 128, 129, 130, 131, 132, 133, 134, 135, 136, 137, 138, 139, 140, 141, 142, 143, 144, 145, 146, 147, 148, 149, 150, 151] (fun ((ag0, l_57_0) : Bool × (List Bool)) => [(14, .bool ag0)])
   (fun ((ag0, l_57_0) : Bool × (List Bool)) w' => (l_57_0.length = N * ((runesL x).length + 1) * ((runesL z).length + 1) ∧ (∀ s, on l_57_0 s → plR t (runesL x) (runesL z) ((runesL x).length + 1) ((runesL z).length + 1) s) ∧ (∀ s, (· = t.start.toNat * ((runesL x).length + 1) * ((runesL z).length + 1)) s → on l_57_0 s)) ∧ (ag0 = false → ∀ e ∈ t.arcs.flatMap (prI (runesL x) (runesL z) ((runesL x).length + 1) ((runesL z).length + 1)), on l_57_0 e.1 → on l_57_0 e.2) ∧ Mem w I J31 (row EBool (sv u57) l_57_0 :: box b3 25 [.int .i64 t.states, .int .i64 t.start, sv fu1, sv au1] :: []) w')
   (fun ((ag0, l_57_0) : Bool × (List Bool)) => 2 * (l_57_0.count false) + ag0.toNat) (true, (List.replicate (N * ((runesL x).length + 1) * ((runesL z).length + 1)) false).set (t.start.toNat * ((runesL x).length + 1) * ((runesL z).length + 1)) true) ⟨rfl, trivial⟩ ?_ ?_
 ·refine ⟨⟨by simp, fun s hs => by rcases (on_set (by rw [List.length_replicate]; exact hsl)).1 hs with rfl | h; exact ⟨t.start.toNat, 0, 0, .base (by rw [hs0]; rfl), by simp⟩; exact absurd h on_rep, fun s hs => (on_set (by rw [List.length_replicate]; exact hsl)).2 (.inl hs)⟩, nofun, ?_⟩
  exact M
 rintro ⟨ag0, l_57_0⟩ jj0 w8 ⟨h2, h3, M⟩
 have hoJ31 := M.old
 refine wc_seq ?_
 refine wc_seq ?_
 refine wc_region ?_
 refine wl_mv M rfl rfl ?_
 refine wl_nil ?_
 refine wc_cond rfl (fun ht66 => ?_) (fun ht66 => ?_)
 ·refine wc_skip ?_
  refine wc_block ?_
  refine wc_seq ?_
  refine wc_region ?_
  refine wl_as M rfl rfl ?_
  refine wl_nil ?_
  refine wc_seq ?_
  refine wc_region ?_
  refine wl_as M rfl rfl ?_
  refine wl_nil ?_
  refine wc_block ?_
  refine wc_loop (α := Nat × Bool × (List Bool)) [14, 15, 16, 17, 18, 19, 20, 21, 22, 67, 68, 69, 70, 71, 72, 73, 74, 75, 76, 77, 78, 79, 80, 81, 82, 83, 84, 85, 86, 87, 88, 89, 90, 91, 92, 93, 94, 95, 96, 97, 98, 99, 100, 101, 102, 103, 104, 105, 106, 107, 108, 109, 110, 111, 112, 113, 114, 115, 116, 117, 118, 119, 120, 121, 122, 123, 124, 125, 126, 127, 128, 129, 130, 131, 132, 133, 134, 135, 136, 137, 138, 139, 140, 141, 142, 143, 144, 145, 146, 147, 148, 149, 150, 151] (fun ((k2, ag2, l_57_2) : Nat × Bool × (List Bool)) => [(14, .bool ag2), (15, .int .i64 (k2 : Int))])
    (fun ((k2, ag2, l_57_2) : Nat × Bool × (List Bool)) w' => (k2 ≤ t.arcs.length) ∧ (PassN (plR t (runesL x) (runesL z) ((runesL x).length + 1) ((runesL z).length + 1)) (· = t.start.toNat * ((runesL x).length + 1) * ((runesL z).length + 1)) (N * ((runesL x).length + 1) * ((runesL z).length + 1)) l_57_0 ((t.arcs.take k2).flatMap (prI (runesL x) (runesL z) ((runesL x).length + 1) ((runesL z).length + 1))) l_57_2 ag2) ∧ Mem w I J31 (row EBool (sv u57) l_57_2 :: box b3 25 [.int .i64 t.states, .int .i64 t.start, sv fu1, sv au1] :: []) w')
    (fun ((k2, ag2, l_57_2) : Nat × Bool × (List Bool)) => t.arcs.length - k2) (0, false, l_57_0) ⟨rfl, rfl, trivial⟩ ?_ ?_
  ·refine ⟨Nat.zero_le _, PassN.start h2.1 h2.2.1 h2.2.2, ?_⟩
   exact M
  rintro ⟨k2, ag2, l_57_2⟩ jj2 w9 ⟨hk2, hp, M⟩
  have hoJ31 := M.old
  refine wc_seq ?_
  refine wc_seq ?_
  refine wc_region ?_
  refine wl_mv M rfl rfl ?_
  refine wl_m M (q_fa fo_25_3 rfl) rfl rfl ?_
  refine wl_m M (q_ldb 1 Tryz.underlying23 rfl rfl rfl rfl) rfl rfl ?_
  refine wl_m M (q_lenR ((Ra1.mono hJ26).mono hJ31) Tryz.underlying23 rfl) rfl rfl ?_
  refine wl_m M (q_lss rfl rfl) rfl rfl ?_
  refine wl_nil ?_
  refine wc_dec rfl (fun ht71 => ?_) (fun ht71 => ?_)
  ·obtain ⟨x2, hx2⟩ : ∃ x_, t.arcs[k2]? = some x_ := ⟨_, List.getElem?_eq_getElem (by omega)⟩
   have hx2r := hr.arcs x2 (List.mem_of_getElem? hx2)
   have hsr : ((x2.src.toNat : Nat) : Int) = x2.src := Int.toNat_of_nonneg hx2r.1.1
   have hdr : ((x2.dst.toNat : Nat) : Int) = x2.dst := Int.toNat_of_nonneg hx2r.2.1
   have hs2 : x2.src.toNat < N := by omega
   have hd1 : x2.dst.toNat < N := by omega
   refine wc_skip ?_
   refine wc_seq ?_
   refine wc_block ?_
   refine wc_seq ?_
   refine wc_region ?_
   refine wl_m M (q_fa fo_25_3 rfl) rfl rfl ?_
   refine wl_m M (q_ldb 1 Tryz.underlying23 rfl rfl rfl rfl) rfl rfl ?_
   refine wl_mv M rfl rfl ?_
   refine wl_ix (j := k2) M ((Ra1.mono hJ26).mono hJ31) Tryz.underlying23 rfl rfl hx2 rfl (fun b77 o77 p77 => ?_)
   refine wl_m M (q_ldp p77 rfl rfl) rfl rfl ?_
   refine wl_e (e_alloc M z51) rfl rfl ?_
   rintro _ w10 ⟨b16, rfl, M⟩
   refine wl_e0 (e_stW 0 M rfl rfl rfl sz51 rfl rfl) rfl ?_
   intro _ w11 M
   try simp only [sC0, sCS] at M
   refine wl_nil ?_
   refine wc_seq ?_
   refine wc_region ?_
   refine wl_as M rfl rfl ?_
   refine wl_nil ?_
   refine wc_block ?_
   refine wc_loop (α := Nat × Bool × (List Bool)) [14, 17, 18, 19, 20, 21, 22, 79, 80, 81, 82, 83, 84, 85, 86, 87, 88, 89, 90, 91, 92, 93, 94, 95, 96, 97, 98, 99, 100, 101, 102, 103, 104, 105, 106, 107, 108, 109, 110, 111, 112, 113, 114, 115, 116, 117, 118, 119, 120, 121, 122, 123, 124, 125, 126, 127, 128, 129, 130, 131, 132, 133, 134, 135, 136, 137, 138, 139, 140, 141, 142, 143, 144, 145, 146, 147, 148, 149, 150, 151] (fun ((k4, ag4, l_57_4) : Nat × Bool × (List Bool)) => [(14, .bool ag4), (17, .int .i64 (k4 : Int))])
     (fun ((k4, ag4, l_57_4) : Nat × Bool × (List Bool)) w' => (k4 ≤ ((runesL x).length + 1)) ∧ (PassN (plR t (runesL x) (runesL z) ((runesL x).length + 1) ((runesL z).length + 1)) (· = t.start.toNat * ((runesL x).length + 1) * ((runesL z).length + 1)) (N * ((runesL x).length + 1) * ((runesL z).length + 1)) l_57_0 ((t.arcs.take k2).flatMap (prI (runesL x) (runesL z) ((runesL x).length + 1) ((runesL z).length + 1)) ++ (List.range k4).flatMap (prJ (runesL x) (runesL z) ((runesL x).length + 1) ((runesL z).length + 1) x2)) l_57_4 ag4) ∧ Mem w I J31 (box b16 51 [.int .i64 x2.src, .int .i64 x2.dst, .int .i32 x2.inp, .int .i32 x2.out] :: row EBool (sv u57) l_57_4 :: box b3 25 [.int .i64 t.states, .int .i64 t.start, sv fu1, sv au1] :: []) w')
     (fun ((k4, ag4, l_57_4) : Nat × Bool × (List Bool)) => ((runesL x).length + 1) - k4) (0, ag2, l_57_2) ⟨rfl, rfl, trivial⟩ ?_ ?_
   ·refine ⟨Nat.zero_le _, (by simpa using hp), ?_⟩
    exact M
   rintro ⟨k4, ag4, l_57_4⟩ jj4 w12 ⟨hk4, hp4, M⟩
   have hoJ31 := M.old
   refine wc_seq ?_
   refine wc_seq ?_
   refine wc_region ?_
   refine wl_mv M rfl rfl ?_
   refine wl_mv M rfl rfl ?_
   refine wl_m M (q_lss rfl rfl) rfl rfl ?_
   refine wl_nil ?_
   refine wc_dec rfl (fun ht81 => ?_) (fun ht81 => ?_)
   ·refine wc_skip ?_
    refine wc_seq ?_
    refine wc_block ?_
    refine wc_seq ?_
    refine wc_region ?_
    refine wl_as M rfl rfl ?_
    refine wl_nil ?_
    refine wc_block ?_
    refine wc_loop (α := Nat × Bool × (List Bool)) [14, 18, 19, 20, 21, 22, 84, 85, 86, 87, 88, 89, 90, 91, 92, 93, 94, 95, 96, 97, 98, 99, 100, 101, 102, 103, 104, 105, 106, 107, 108, 109, 110, 111, 112, 113, 114, 115, 116, 117, 118, 119, 120, 121, 122, 123, 124, 125, 126, 127, 128, 129, 130, 131, 132, 133, 134, 135, 136, 137, 138, 139, 140, 141, 142, 143, 144, 145, 146, 147, 148, 149, 150, 151] (fun ((k6, ag6, l_57_6) : Nat × Bool × (List Bool)) => [(14, .bool ag6), (18, .int .i64 (k6 : Int))])
      (fun ((k6, ag6, l_57_6) : Nat × Bool × (List Bool)) w' => (k6 ≤ ((runesL z).length + 1)) ∧ (PassN (plR t (runesL x) (runesL z) ((runesL x).length + 1) ((runesL z).length + 1)) (· = t.start.toNat * ((runesL x).length + 1) * ((runesL z).length + 1)) (N * ((runesL x).length + 1) * ((runesL z).length + 1)) l_57_0 ((t.arcs.take k2).flatMap (prI (runesL x) (runesL z) ((runesL x).length + 1) ((runesL z).length + 1)) ++ (List.range k4).flatMap (prJ (runesL x) (runesL z) ((runesL x).length + 1) ((runesL z).length + 1) x2) ++ (List.range k6).flatMap (prE (runesL x) (runesL z) ((runesL x).length + 1) ((runesL z).length + 1) x2 k4)) l_57_6 ag6) ∧ Mem w I J31 (box b16 51 [.int .i64 x2.src, .int .i64 x2.dst, .int .i32 x2.inp, .int .i32 x2.out] :: row EBool (sv u57) l_57_6 :: box b3 25 [.int .i64 t.states, .int .i64 t.start, sv fu1, sv au1] :: []) w')
      (fun ((k6, ag6, l_57_6) : Nat × Bool × (List Bool)) => ((runesL z).length + 1) - k6) (0, ag4, l_57_4) ⟨rfl, rfl, trivial⟩ ?_ ?_
    ·refine ⟨Nat.zero_le _, (by simpa using hp4), ?_⟩
     exact M
    rintro ⟨k6, ag6, l_57_6⟩ jj6 w13 ⟨hk6, hp6, M⟩
    have hoJ31 := M.old
    refine wc_seq ?_
    refine wc_seq ?_
    refine wc_region ?_
    refine wl_mv M rfl rfl ?_
    refine wl_mv M rfl rfl ?_
    refine wl_m M (q_lss rfl rfl) rfl rfl ?_
    refine wl_nil ?_
    refine wc_dec rfl (fun ht86 => ?_) (fun ht86 => ?_)
    ·have hj1 := plI_lt (w := (runesL x).length + 1) (h := (runesL z).length + 1) (i := k4) (j := k6) hs2 (by omega) (by omega)
     obtain ⟨hs3, hs4, _, _, _⟩ := pl_bound (w := (runesL x).length + 1) (h := (runesL z).length + 1) (i := k4) (j := k6) hs2 hN (by omega) (by omega) (by omega) (by omega)
     refine wc_skip ?_
     refine wc_seq ?_
     refine wc_block ?_
     refine wc_seq ?_
     refine wc_region ?_
     refine wl_mv M rfl rfl ?_
     refine wl_mv M rfl rfl ?_
     refine wl_m M (q_fa fo_51_2 rfl) rfl rfl ?_
     refine wl_m M (q_ldb 0 Tryz.underlying21 rfl rfl rfl rfl) rfl rfl ?_
     refine wl_e (e_callC M (after3_c x2.inp (i := k4) (by omega) (by omega) M.imm (R26.mono hJ31)) Tryz.func68 rfl rfl) rfl rfl ?_
     rintro _ w14 ⟨J94, hJ94, rfl, M⟩
     replace M := M.less hJ94 hoJ31
     refine wl_mv M rfl rfl ?_
     refine wl_m M (q_ext rfl rfl) rfl rfl ?_
     refine wl_m M (q_ext rfl rfl) rfl rfl ?_
     refine wl_as M rfl rfl ?_
     refine wl_as M rfl rfl ?_
     refine wl_nil ?_
     refine wc_seq ?_
     refine wc_region ?_
     refine wl_mv M rfl rfl ?_
     refine wl_mv M rfl rfl ?_
     refine wl_m M (q_fa fo_51_3 rfl) rfl rfl ?_
     refine wl_m M (q_ldb 0 Tryz.underlying21 rfl rfl rfl rfl) rfl rfl ?_
     refine wl_e (e_callC M (after3_c x2.out (i := k6) (by omega) (by omega) M.imm R31) Tryz.func68 rfl rfl) rfl rfl ?_
     rintro _ w15 ⟨J102, hJ102, rfl, M⟩
     replace M := M.less hJ102 hoJ31
     refine wl_mv M rfl rfl ?_
     refine wl_m M (q_ext rfl rfl) rfl rfl ?_
     refine wl_m M (q_ext rfl rfl) rfl rfl ?_
     refine wl_as M rfl rfl ?_
     refine wl_as M rfl rfl ?_
     refine wl_nil ?_
     refine wc_seq ?_
     refine wc_join (α := Unit) [105, 106, 107, 108, 109, 110, 111, 112, 113, 114, 115, 116, 117, 118, 119, 120, 121, 122, 123, 124, 125, 126, 127, 128, 129, 130, 131, 132, 133, 134, 135, 136, 137, 138, 139] (fun _ => [(139, .bool ((((l_57_6.getD ((x2.src.toNat * ((runesL x).length + 1) + k4) * ((runesL z).length + 1) + k6) false) && (fitB (runesL x) (k4 : Int) x2.inp)) && (fitB (runesL z) (k6 : Int) x2.out)) && (!(l_57_6.getD ((x2.dst.toNat * ((runesL x).length + 1) + (eatK k4 x2.inp).toNat) * ((runesL z).length + 1) + (eatK k6 x2.out).toNat) false))))]) (fun _ w' => Mem w I J31 (box b16 51 [.int .i64 x2.src, .int .i64 x2.dst, .int .i32 x2.inp, .int .i32 x2.out] :: row EBool (sv u57) l_57_6 :: box b3 25 [.int .i64 t.states, .int .i64 t.start, sv fu1, sv au1] :: []) w') ?_ ?_
     ·refine wc_region ?_
      refine wl_mv M rfl rfl ?_
      refine wl_m M (q_fa fo_51_0 rfl) rfl rfl ?_
      refine wl_m M (q_ldb 0 Tryz.underlying3 rfl rfl rfl rfl) rfl rfl ?_
      refine wl_mv M rfl rfl ?_
      refine wl_m M (q_mul (z := ((x2.src.toNat * ((runesL x).length + 1) : Nat) : Int)) rfl rfl (by rw [show x2.src * ((((runesL x).length + 1) : Nat) : Int) = ((x2.src.toNat * ((runesL x).length + 1) : Nat) : Int) by rw [Int.natCast_mul, hsr]]; exact IntWalk.i64_in _ (by omega))) rfl rfl ?_
      refine wl_mv M rfl rfl ?_
      refine wl_m M (q_add (z := ((x2.src.toNat * ((runesL x).length + 1) + k4 : Nat) : Int)) rfl rfl (by rw [show ((x2.src.toNat * ((runesL x).length + 1) : Nat) : Int) + (k4 : Int) = ((x2.src.toNat * ((runesL x).length + 1) + k4 : Nat) : Int) by rw [← Int.natCast_add]]; exact IntWalk.i64_in _ (by omega))) rfl rfl ?_
      refine wl_mv M rfl rfl ?_
      refine wl_m M (q_mul (z := (((x2.src.toNat * ((runesL x).length + 1) + k4) * ((runesL z).length + 1) : Nat) : Int)) rfl rfl (by rw [show ((x2.src.toNat * ((runesL x).length + 1) + k4 : Nat) : Int) * ((((runesL z).length + 1) : Nat) : Int) = (((x2.src.toNat * ((runesL x).length + 1) + k4) * ((runesL z).length + 1) : Nat) : Int) by rw [← Int.natCast_mul]]; exact IntWalk.i64_in _ (by omega))) rfl rfl ?_
      refine wl_mv M rfl rfl ?_
      refine wl_m M (q_add (z := (((x2.src.toNat * ((runesL x).length + 1) + k4) * ((runesL z).length + 1) + k6 : Nat) : Int)) rfl rfl (by rw [show (((x2.src.toNat * ((runesL x).length + 1) + k4) * ((runesL z).length + 1) : Nat) : Int) + (k6 : Int) = (((x2.src.toNat * ((runesL x).length + 1) + k4) * ((runesL z).length + 1) + k6 : Nat) : Int) by rw [← Int.natCast_add]]; exact IntWalk.i64_in _ (by omega))) rfl rfl ?_
      refine wl_ixr (j := ((x2.src.toNat * ((runesL x).length + 1) + k4) * ((runesL z).length + 1) + k6)) 1 M rfl Tryz.underlying142 rfl rfl (getD_at (d := false) (by rw [hp6.len]; exact hj1)) rfl (fun b116 o116 p116 => ?_)
      refine wl_m M (q_ldp p116 rfl rfl) rfl rfl ?_
      refine wl_mv M rfl rfl ?_
      rcases Bool.eq_false_or_eq_true ((l_57_6.getD ((x2.src.toNat * ((runesL x).length + 1) + k4) * ((runesL z).length + 1) + k6) false)) with hg118 | hg118
      ·refine wl_m M (q_guard 13 rfl rfl rfl hg118 (q_move rfl)) rfl rfl ?_
       refine wl_m M (q_pickT rfl hg118 rfl) rfl rfl ?_
       refine wl_mv M rfl rfl ?_
       rcases Bool.eq_false_or_eq_true (fitB (runesL x) (k4 : Int) x2.inp) with hg121 | hg121
       ·refine wl_m M (q_guard 16 rfl rfl rfl hg121 (q_move rfl)) rfl rfl ?_
        refine wl_m M (q_pickT rfl hg121 rfl) rfl rfl ?_
        refine wl_mv M rfl rfl ?_
        rcases Bool.eq_false_or_eq_true (fitB (runesL z) (k6 : Int) x2.out) with hg124 | hg124
        ·have hg74 : tgtB (runesL x) (runesL z) x2 k4 k6 = true := by rw [tgtB, hg121, hg124]; rfl
         obtain ⟨qi, qj, e1, e2, hq1, hq2, _⟩ := tgt_nat hg74 (show k4 ≤ (runesL x).length by omega) (show k6 ≤ (runesL z).length by omega)
         have hQI : (eatK k4 x2.inp).toNat ≤ (runesL x).length := by rw [e1, Int.toNat_natCast]; exact hq1
         have hQJ : (eatK k6 x2.out).toNat ≤ (runesL z).length := by rw [e2, Int.toNat_natCast]; exact hq2
         have hE1 : (((eatK k4 x2.inp).toNat : Nat) : Int) = eatK k4 x2.inp := Int.toNat_of_nonneg (by rw [e1]; omega)
         have hE2 : (((eatK k6 x2.out).toNat : Nat) : Int) = eatK k6 x2.out := Int.toNat_of_nonneg (by rw [e2]; omega)
         have hj2 := plI_lt (w := (runesL x).length + 1) (h := (runesL z).length + 1) (i := (eatK k4 x2.inp).toNat) (j := (eatK k6 x2.out).toNat) hd1 (by omega) (by omega)
         obtain ⟨hc1, hc2, hc3, _, _⟩ := pl_bound (w := (runesL x).length + 1) (h := (runesL z).length + 1) (i := (eatK k4 x2.inp).toNat) (j := (eatK k6 x2.out).toNat) hd1 hN (by omega) (by omega) (by omega) (by omega)
         refine wl_m M (q_guard 19 rfl rfl rfl hg124 (q_move rfl)) rfl rfl ?_
         refine wl_m M (q_guard 19 rfl rfl rfl hg124 (q_fa fo_51_1 rfl)) rfl rfl ?_
         refine wl_m M (q_guard 19 rfl rfl rfl hg124 (q_ldb 0 Tryz.underlying3 rfl rfl rfl rfl)) rfl rfl ?_
         refine wl_m M (q_guard 19 rfl rfl rfl hg124 (q_move rfl)) rfl rfl ?_
         refine wl_m M (q_guard 19 rfl rfl rfl hg124 (q_mul (z := ((x2.dst.toNat * ((runesL x).length + 1) : Nat) : Int)) rfl rfl (by rw [show x2.dst * ((((runesL x).length + 1) : Nat) : Int) = ((x2.dst.toNat * ((runesL x).length + 1) : Nat) : Int) by rw [Int.natCast_mul, hdr]]; exact IntWalk.i64_in _ (by omega)))) rfl rfl ?_
         refine wl_m M (q_guard 19 rfl rfl rfl hg124 (q_move rfl)) rfl rfl ?_
         refine wl_m M (q_guard 19 rfl rfl rfl hg124 (q_add (z := ((x2.dst.toNat * ((runesL x).length + 1) + (eatK k4 x2.inp).toNat : Nat) : Int)) rfl rfl (by rw [show ((x2.dst.toNat * ((runesL x).length + 1) : Nat) : Int) + eatK k4 x2.inp = ((x2.dst.toNat * ((runesL x).length + 1) + (eatK k4 x2.inp).toNat : Nat) : Int) by rw [Int.natCast_add, hE1]]; exact IntWalk.i64_in _ (by omega)))) rfl rfl ?_
         refine wl_m M (q_guard 19 rfl rfl rfl hg124 (q_move rfl)) rfl rfl ?_
         refine wl_m M (q_guard 19 rfl rfl rfl hg124 (q_mul (z := (((x2.dst.toNat * ((runesL x).length + 1) + (eatK k4 x2.inp).toNat) * ((runesL z).length + 1) : Nat) : Int)) rfl rfl (by rw [show ((x2.dst.toNat * ((runesL x).length + 1) + (eatK k4 x2.inp).toNat : Nat) : Int) * ((((runesL z).length + 1) : Nat) : Int) = (((x2.dst.toNat * ((runesL x).length + 1) + (eatK k4 x2.inp).toNat) * ((runesL z).length + 1) : Nat) : Int) by rw [← Int.natCast_mul]]; exact IntWalk.i64_in _ (by omega)))) rfl rfl ?_
         refine wl_m M (q_guard 19 rfl rfl rfl hg124 (q_move rfl)) rfl rfl ?_
         refine wl_m M (q_guard 19 rfl rfl rfl hg124 (q_add (z := (((x2.dst.toNat * ((runesL x).length + 1) + (eatK k4 x2.inp).toNat) * ((runesL z).length + 1) + (eatK k6 x2.out).toNat : Nat) : Int)) rfl rfl (by rw [show (((x2.dst.toNat * ((runesL x).length + 1) + (eatK k4 x2.inp).toNat) * ((runesL z).length + 1) : Nat) : Int) + eatK k6 x2.out = (((x2.dst.toNat * ((runesL x).length + 1) + (eatK k4 x2.inp).toNat) * ((runesL z).length + 1) + (eatK k6 x2.out).toNat : Nat) : Int) by rw [Int.natCast_add, hE2]]; exact IntWalk.i64_in _ (by omega)))) rfl rfl ?_
         refine wl_ixrG (j := ((x2.dst.toNat * ((runesL x).length + 1) + (eatK k4 x2.inp).toNat) * ((runesL z).length + 1) + (eatK k6 x2.out).toNat)) 19 rfl rfl rfl hg124 1 M rfl Tryz.underlying142 rfl rfl (getD_at (d := false) (by rw [hp6.len]; exact hj2)) rfl (fun b136 o136 p136 => ?_)
         refine wl_m M (q_guard 19 rfl rfl rfl hg124 (q_ldp p136 rfl rfl)) rfl rfl ?_
         refine wl_m M (q_guard 19 rfl rfl rfl hg124 (q_not rfl)) rfl rfl ?_
         refine wl_m M (q_pickT rfl hg124 rfl) rfl rfl ?_
         refine wl_nil ?_
         exact ⟨(), M, ⟨(show some (Value.bool (!(l_57_6.getD ((x2.dst.toNat * ((runesL x).length + 1) + (eatK k4 x2.inp).toNat) * ((runesL z).length + 1) + (eatK k6 x2.out).toNat) false))) = some (Value.bool ((((l_57_6.getD ((x2.src.toNat * ((runesL x).length + 1) + k4) * ((runesL z).length + 1) + k6) false) && (fitB (runesL x) (k4 : Int) x2.inp)) && (fitB (runesL z) (k6 : Int) x2.out)) && (!(l_57_6.getD ((x2.dst.toNat * ((runesL x).length + 1) + (eatK k4 x2.inp).toNat) * ((runesL z).length + 1) + (eatK k6 x2.out).toNat) false)))) from by first | (simp only [hg118, hg121, hg124, Bool.true_or, Bool.false_or, Bool.true_and, Bool.false_and, Bool.or_true, Bool.or_false, Bool.and_true, Bool.and_false]; done) | (simp_all; done) | (simp_all; omega)), trivial⟩, unw_take 35 rfl rfl⟩
        refine wl_m M (q_off 19 rfl rfl rfl hg124) rfl rfl ?_
        refine wl_m M (q_off 19 rfl rfl rfl hg124) rfl rfl ?_
        refine wl_m M (q_off 19 rfl rfl rfl hg124) rfl rfl ?_
        refine wl_m M (q_off 19 rfl rfl rfl hg124) rfl rfl ?_
        refine wl_m M (q_off 19 rfl rfl rfl hg124) rfl rfl ?_
        refine wl_m M (q_off 19 rfl rfl rfl hg124) rfl rfl ?_
        refine wl_m M (q_off 19 rfl rfl rfl hg124) rfl rfl ?_
        refine wl_m M (q_off 19 rfl rfl rfl hg124) rfl rfl ?_
        refine wl_m M (q_off 19 rfl rfl rfl hg124) rfl rfl ?_
        refine wl_m M (q_off 19 rfl rfl rfl hg124) rfl rfl ?_
        refine wl_m M (q_off 19 rfl rfl rfl hg124) rfl rfl ?_
        refine wl_m M (q_off 19 rfl rfl rfl hg124) rfl rfl ?_
        refine wl_m M (q_off 19 rfl rfl rfl hg124) rfl rfl ?_
        refine wl_m M (q_off 19 rfl rfl rfl hg124) rfl rfl ?_
        refine wl_m M (q_pickF rfl hg124 rfl) rfl rfl ?_
        refine wl_nil ?_
        exact ⟨(), M, ⟨(show some (Value.bool false) = some (Value.bool ((((l_57_6.getD ((x2.src.toNat * ((runesL x).length + 1) + k4) * ((runesL z).length + 1) + k6) false) && (fitB (runesL x) (k4 : Int) x2.inp)) && (fitB (runesL z) (k6 : Int) x2.out)) && (!(l_57_6.getD ((x2.dst.toNat * ((runesL x).length + 1) + (eatK k4 x2.inp).toNat) * ((runesL z).length + 1) + (eatK k6 x2.out).toNat) false)))) from by first | (simp only [hg118, hg121, hg124, Bool.true_or, Bool.false_or, Bool.true_and, Bool.false_and, Bool.or_true, Bool.or_false, Bool.and_true, Bool.and_false]; done) | (simp_all; done) | (simp_all; omega)), trivial⟩, unw_take 35 rfl rfl⟩
       refine wl_m M (q_off 16 rfl rfl rfl hg121) rfl rfl ?_
       refine wl_m M (q_pickF rfl hg121 rfl) rfl rfl ?_
       refine wl_mv M rfl rfl ?_
       refine wl_m M (q_off 19 rfl rfl rfl rfl) rfl rfl ?_
       refine wl_m M (q_off 19 rfl rfl rfl rfl) rfl rfl ?_
       refine wl_m M (q_off 19 rfl rfl rfl rfl) rfl rfl ?_
       refine wl_m M (q_off 19 rfl rfl rfl rfl) rfl rfl ?_
       refine wl_m M (q_off 19 rfl rfl rfl rfl) rfl rfl ?_
       refine wl_m M (q_off 19 rfl rfl rfl rfl) rfl rfl ?_
       refine wl_m M (q_off 19 rfl rfl rfl rfl) rfl rfl ?_
       refine wl_m M (q_off 19 rfl rfl rfl rfl) rfl rfl ?_
       refine wl_m M (q_off 19 rfl rfl rfl rfl) rfl rfl ?_
       refine wl_m M (q_off 19 rfl rfl rfl rfl) rfl rfl ?_
       refine wl_m M (q_off 19 rfl rfl rfl rfl) rfl rfl ?_
       refine wl_m M (q_off 19 rfl rfl rfl rfl) rfl rfl ?_
       refine wl_m M (q_off 19 rfl rfl rfl rfl) rfl rfl ?_
       refine wl_m M (q_off 19 rfl rfl rfl rfl) rfl rfl ?_
       refine wl_m M (q_pickF rfl rfl rfl) rfl rfl ?_
       refine wl_nil ?_
       exact ⟨(), M, ⟨(show some (Value.bool false) = some (Value.bool ((((l_57_6.getD ((x2.src.toNat * ((runesL x).length + 1) + k4) * ((runesL z).length + 1) + k6) false) && (fitB (runesL x) (k4 : Int) x2.inp)) && (fitB (runesL z) (k6 : Int) x2.out)) && (!(l_57_6.getD ((x2.dst.toNat * ((runesL x).length + 1) + (eatK k4 x2.inp).toNat) * ((runesL z).length + 1) + (eatK k6 x2.out).toNat) false)))) from by first | (simp only [hg118, hg121, Bool.true_or, Bool.false_or, Bool.true_and, Bool.false_and, Bool.or_true, Bool.or_false, Bool.and_true, Bool.and_false]; done) | (simp_all; done) | (simp_all; omega)), trivial⟩, unw_take 35 rfl rfl⟩
      refine wl_m M (q_off 13 rfl rfl rfl hg118) rfl rfl ?_
      refine wl_m M (q_pickF rfl hg118 rfl) rfl rfl ?_
      refine wl_mv M rfl rfl ?_
      refine wl_m M (q_off 16 rfl rfl rfl rfl) rfl rfl ?_
      refine wl_m M (q_pickF rfl rfl rfl) rfl rfl ?_
      refine wl_mv M rfl rfl ?_
      refine wl_m M (q_off 19 rfl rfl rfl rfl) rfl rfl ?_
      refine wl_m M (q_off 19 rfl rfl rfl rfl) rfl rfl ?_
      refine wl_m M (q_off 19 rfl rfl rfl rfl) rfl rfl ?_
      refine wl_m M (q_off 19 rfl rfl rfl rfl) rfl rfl ?_
      refine wl_m M (q_off 19 rfl rfl rfl rfl) rfl rfl ?_
      refine wl_m M (q_off 19 rfl rfl rfl rfl) rfl rfl ?_
      refine wl_m M (q_off 19 rfl rfl rfl rfl) rfl rfl ?_
      refine wl_m M (q_off 19 rfl rfl rfl rfl) rfl rfl ?_
      refine wl_m M (q_off 19 rfl rfl rfl rfl) rfl rfl ?_
      refine wl_m M (q_off 19 rfl rfl rfl rfl) rfl rfl ?_
      refine wl_m M (q_off 19 rfl rfl rfl rfl) rfl rfl ?_
      refine wl_m M (q_off 19 rfl rfl rfl rfl) rfl rfl ?_
      refine wl_m M (q_off 19 rfl rfl rfl rfl) rfl rfl ?_
      refine wl_m M (q_off 19 rfl rfl rfl rfl) rfl rfl ?_
      refine wl_m M (q_pickF rfl rfl rfl) rfl rfl ?_
      refine wl_nil ?_
      exact ⟨(), M, ⟨(show some (Value.bool false) = some (Value.bool ((((l_57_6.getD ((x2.src.toNat * ((runesL x).length + 1) + k4) * ((runesL z).length + 1) + k6) false) && (fitB (runesL x) (k4 : Int) x2.inp)) && (fitB (runesL z) (k6 : Int) x2.out)) && (!(l_57_6.getD ((x2.dst.toNat * ((runesL x).length + 1) + (eatK k4 x2.inp).toNat) * ((runesL z).length + 1) + (eatK k6 x2.out).toNat) false)))) from by first | (simp only [hg118, Bool.true_or, Bool.false_or, Bool.true_and, Bool.false_and, Bool.or_true, Bool.or_false, Bool.and_true, Bool.and_false]; done) | (simp_all; done) | (simp_all; omega)), trivial⟩, unw_take 35 rfl rfl⟩
     rintro _ jr23 w16 M
     refine wc_cond rfl (fun ht139 => ?_) (fun ht139 => ?_)
     ·simp only [Bool.and_eq_true, Bool.not_eq_true'] at ht139
      obtain ⟨⟨⟨hon0, hf1⟩, hf2⟩, hof0⟩ := ht139
      have hg74 : tgtB (runesL x) (runesL z) x2 k4 k6 = true := by rw [tgtB, hf1, hf2]; rfl
      obtain ⟨qi, qj, e1, e2, hq1, hq2, _⟩ := tgt_nat hg74 (show k4 ≤ (runesL x).length by omega) (show k6 ≤ (runesL z).length by omega)
      have hQI : (eatK k4 x2.inp).toNat ≤ (runesL x).length := by rw [e1, Int.toNat_natCast]; exact hq1
      have hQJ : (eatK k6 x2.out).toNat ≤ (runesL z).length := by rw [e2, Int.toNat_natCast]; exact hq2
      have hE1 : (((eatK k4 x2.inp).toNat : Nat) : Int) = eatK k4 x2.inp := Int.toNat_of_nonneg (by rw [e1]; omega)
      have hE2 : (((eatK k6 x2.out).toNat : Nat) : Int) = eatK k6 x2.out := Int.toNat_of_nonneg (by rw [e2]; omega)
      have hj2 := plI_lt (w := (runesL x).length + 1) (h := (runesL z).length + 1) (i := (eatK k4 x2.inp).toNat) (j := (eatK k6 x2.out).toNat) hd1 (by omega) (by omega)
      obtain ⟨hc1, hc2, hc3, _, _⟩ := pl_bound (w := (runesL x).length + 1) (h := (runesL z).length + 1) (i := (eatK k4 x2.inp).toNat) (j := (eatK k6 x2.out).toNat) hd1 hN (by omega) (by omega) (by omega) (by omega)
      have hon : on l_57_6 ((x2.src.toNat * ((runesL x).length + 1) + k4) * ((runesL z).length + 1) + k6) := by unfold on; rw [getD_at (d := false) (by rw [hp6.len]; exact hj1)]; exact congrArg some hon0
      have hoff : l_57_6[(x2.dst.toNat * ((runesL x).length + 1) + (eatK k4 x2.inp).toNat) * ((runesL z).length + 1) + (eatK k6 x2.out).toNat]? = some false := by rw [getD_at (d := false) (by rw [hp6.len]; exact hj2)]; exact congrArg some hof0
      have hstep : plR t (runesL x) (runesL z) ((runesL x).length + 1) ((runesL z).length + 1) ((x2.src.toNat * ((runesL x).length + 1) + k4) * ((runesL z).length + 1) + k6) → plR t (runesL x) (runesL z) ((runesL x).length + 1) ((runesL z).length + 1) ((x2.dst.toNat * ((runesL x).length + 1) + (eatK k4 x2.inp).toNat) * ((runesL z).length + 1) + (eatK k6 x2.out).toNat) := fun h => plR_step hr (List.mem_of_getElem? hx2) (i := k4) (j := k6) (by omega) (by omega) hg74 h
      refine wc_seq ?_
      refine wc_region ?_
      refine wl_mv M rfl rfl ?_
      refine wl_m M (q_fa fo_51_1 rfl) rfl rfl ?_
      refine wl_m M (q_ldb 0 Tryz.underlying3 rfl rfl rfl rfl) rfl rfl ?_
      refine wl_mv M rfl rfl ?_
      refine wl_m M (q_mul (z := ((x2.dst.toNat * ((runesL x).length + 1) : Nat) : Int)) rfl rfl (by rw [show x2.dst * ((((runesL x).length + 1) : Nat) : Int) = ((x2.dst.toNat * ((runesL x).length + 1) : Nat) : Int) by rw [Int.natCast_mul, hdr]]; exact IntWalk.i64_in _ (by omega))) rfl rfl ?_
      refine wl_mv M rfl rfl ?_
      refine wl_m M (q_add (z := ((x2.dst.toNat * ((runesL x).length + 1) + (eatK k4 x2.inp).toNat : Nat) : Int)) rfl rfl (by rw [show ((x2.dst.toNat * ((runesL x).length + 1) : Nat) : Int) + eatK k4 x2.inp = ((x2.dst.toNat * ((runesL x).length + 1) + (eatK k4 x2.inp).toNat : Nat) : Int) by rw [Int.natCast_add, hE1]]; exact IntWalk.i64_in _ (by omega))) rfl rfl ?_
      refine wl_mv M rfl rfl ?_
      refine wl_m M (q_mul (z := (((x2.dst.toNat * ((runesL x).length + 1) + (eatK k4 x2.inp).toNat) * ((runesL z).length + 1) : Nat) : Int)) rfl rfl (by rw [show ((x2.dst.toNat * ((runesL x).length + 1) + (eatK k4 x2.inp).toNat : Nat) : Int) * ((((runesL z).length + 1) : Nat) : Int) = (((x2.dst.toNat * ((runesL x).length + 1) + (eatK k4 x2.inp).toNat) * ((runesL z).length + 1) : Nat) : Int) by rw [← Int.natCast_mul]]; exact IntWalk.i64_in _ (by omega))) rfl rfl ?_
      refine wl_mv M rfl rfl ?_
      refine wl_m M (q_add (z := (((x2.dst.toNat * ((runesL x).length + 1) + (eatK k4 x2.inp).toNat) * ((runesL z).length + 1) + (eatK k6 x2.out).toNat : Nat) : Int)) rfl rfl (by rw [show (((x2.dst.toNat * ((runesL x).length + 1) + (eatK k4 x2.inp).toNat) * ((runesL z).length + 1) : Nat) : Int) + eatK k6 x2.out = (((x2.dst.toNat * ((runesL x).length + 1) + (eatK k4 x2.inp).toNat) * ((runesL z).length + 1) + (eatK k6 x2.out).toNat : Nat) : Int) by rw [Int.natCast_add, hE2]]; exact IntWalk.i64_in _ (by omega))) rfl rfl ?_
      refine wl_ixw (j := ((x2.dst.toNat * ((runesL x).length + 1) + (eatK k4 x2.inp).toNat) * ((runesL z).length + 1) + (eatK k6 x2.out).toNat)) 1 M rfl Tryz.underlying142 rfl rfl (by rw [hp6.len]; exact hj2) rfl (fun b151 o151 p151 => ?_)
      refine wl_e0 (e_str (u := true) 1 M rfl rfl rfl p151 (by rw [hp6.len]; exact hj2) rfl) rfl ?_
      intro _ w17 M
      try simp only [sC0, sCS] at M
      refine wl_nil ?_
      refine wc_region ?_
      refine wl_as M rfl rfl ?_
      refine wl_nil ?_
      refine wc_region ?_
      refine wl_mv M rfl rfl ?_
      refine wl_m M (q_add rfl rfl (IntWalk.i64_in _ (by omega))) rfl rfl ?_
      refine wl_as M rfl rfl ?_
      refine wl_nil ?_
      refine ⟨(k6 + 1, true, l_57_6.set ((x2.dst.toNat * ((runesL x).length + 1) + (eatK k4 x2.inp).toNat) * ((runesL z).length + 1) + (eatK k6 x2.out).toNat) true), ?_, ⟨(by omega), (hp6.hit _ hon hoff hstep), M⟩, ⟨rfl, rfl, trivial⟩, unw_look rfl (unw_hav rfl (unw_look rfl unw_base))⟩
      show ((runesL z).length + 1) - (k6 + 1) < ((runesL z).length + 1) - k6
      omega
     have hsk : ∀ e ∈ prE (runesL x) (runesL z) ((runesL x).length + 1) ((runesL z).length + 1) x2 k4 k6, on l_57_6 e.1 → on l_57_6 e.2 := by
       intro e he hon
       unfold prE at he
       split at he
       · rename_i hg74
         have hfb := Bool.and_eq_true_iff.1 hg74
         obtain ⟨qi, qj, e1, e2, hq1, hq2, _⟩ := tgt_nat hg74 (show k4 ≤ (runesL x).length by omega) (show k6 ≤ (runesL z).length by omega)
         have hQI : (eatK k4 x2.inp).toNat ≤ (runesL x).length := by rw [e1, Int.toNat_natCast]; exact hq1
         have hQJ : (eatK k6 x2.out).toNat ≤ (runesL z).length := by rw [e2, Int.toNat_natCast]; exact hq2
         have hE1 : (((eatK k4 x2.inp).toNat : Nat) : Int) = eatK k4 x2.inp := Int.toNat_of_nonneg (by rw [e1]; omega)
         have hE2 : (((eatK k6 x2.out).toNat : Nat) : Int) = eatK k6 x2.out := Int.toNat_of_nonneg (by rw [e2]; omega)
         have hj2 := plI_lt (w := (runesL x).length + 1) (h := (runesL z).length + 1) (i := (eatK k4 x2.inp).toNat) (j := (eatK k6 x2.out).toNat) hd1 (by omega) (by omega)
         obtain ⟨hc1, hc2, hc3, _, _⟩ := pl_bound (w := (runesL x).length + 1) (h := (runesL z).length + 1) (i := (eatK k4 x2.inp).toNat) (j := (eatK k6 x2.out).toNat) hd1 hN (by omega) (by omega) (by omega) (by omega)
         rw [List.mem_singleton.1 he] at hon ⊢
         simp only [] at hon ⊢
         have h1 : l_57_6.getD ((x2.src.toNat * ((runesL x).length + 1) + k4) * ((runesL z).length + 1) + k6) false = true := by unfold on at hon; rw [List.getD_eq_getElem?_getD, hon]; rfl
         simp only [hfb.1, hfb.2, h1, Bool.true_and, Bool.not_eq_false'] at ht139
         unfold on
         rw [getD_at (d := false) (by rw [hp6.len]; exact hj2)]
         exact congrArg some ht139
       · simp at he
     refine wc_skip ?_
     refine wc_region ?_
     refine wl_mv M rfl rfl ?_
     refine wl_m M (q_add rfl rfl (IntWalk.i64_in _ (by omega))) rfl rfl ?_
     refine wl_as M rfl rfl ?_
     refine wl_nil ?_
     refine ⟨(k6 + 1, ag6, l_57_6), ?_, ⟨(by omega), (by rw [range_flat, ← List.append_assoc]; exact hp6.skip _ hsk), M⟩, ⟨rfl, rfl, trivial⟩, unw_look rfl (unw_hav rfl (unw_look rfl unw_base))⟩
     show ((runesL z).length + 1) - (k6 + 1) < ((runesL z).length + 1) - k6
     omega
    have hke6 : k6 = ((runesL z).length + 1) := by omega
    refine wc_exit rfl ?_
    refine wc_region ?_
    refine wl_mv M rfl rfl ?_
    refine wl_m M (q_add rfl rfl (IntWalk.i64_in _ (by omega))) rfl rfl ?_
    refine wl_as M rfl rfl ?_
    refine wl_nil ?_
    refine ⟨(k4 + 1, ag6, l_57_6), ?_, ⟨(by omega), (by rw [range_flat, ← List.append_assoc]; rw [hke6] at hp6; exact hp6), M⟩, ⟨rfl, rfl, trivial⟩, unw_look rfl (unw_hav rfl (unw_look rfl unw_base))⟩
    show ((runesL x).length + 1) - (k4 + 1) < ((runesL x).length + 1) - k4
    omega
   have hke4 : k4 = ((runesL x).length + 1) := by omega
   refine wc_exit rfl ?_
   refine wc_region ?_
   refine wl_mv M rfl rfl ?_
   refine wl_m M (q_add rfl rfl (IntWalk.i64_in _ (by omega))) rfl rfl ?_
   refine wl_as M rfl rfl ?_
   refine wl_nil ?_
   replace M := M.drop 0
   refine ⟨(k2 + 1, ag4, l_57_4), ?_, ⟨(by omega), (by rw [take_flat hx2]; rw [hke4] at hp4; exact hp4), M⟩, ⟨rfl, rfl, trivial⟩, unw_look rfl (unw_hav rfl (unw_look rfl unw_base))⟩
   show t.arcs.length - (k2 + 1) < t.arcs.length - k2
   omega
  have hke2 : k2 = t.arcs.length := by omega
  refine wc_exit rfl ?_
  refine ⟨(ag2, l_57_2), ?_, ⟨⟨hp.len, hp.sub, hp.frm⟩, (fun e => by have := (hp.cl e).2; rw [hke2, List.take_length] at this; exact this), M⟩, ⟨rfl, trivial⟩, unw_look rfl (unw_hav rfl (unw_look rfl unw_base))⟩
  show 2 * (l_57_2.count false) + ag2.toNat < 2 * (l_57_0.count false) + ag0.toNat
  subst ht66
  cases hag : ag2 with
  | true => have := hp.up hag; simp; omega
  | false => have := (hp.cl hag).1; subst this; simp
 refine wc_exit rfl ?_
 refine wc_seq ?_
 refine wc_seq ?_
 refine wc_region ?_
 refine wl_as M rfl rfl ?_
 refine wl_nil ?_
 refine wc_block ?_
 refine wc_loop (α := Nat) [6, 23, 152, 153, 154, 155, 156, 157, 158, 159, 160, 161, 162, 163, 164, 165, 166, 167, 168, 169, 170, 171, 172, 173, 174, 175, 176] (fun (k8 : Nat) => [(23, .int .i64 (k8 : Int))])
   (fun (k8 : Nat) w' => (k8 ≤ t.finals.length) ∧ (∀ f ∈ t.finals.take k8, ¬ on l_57_0 ((f.toNat * ((runesL x).length + 1) + (runesL x).length) * ((runesL z).length + 1) + (runesL z).length)) ∧ Mem w I J31 (row EBool (sv u57) l_57_0 :: box b3 25 [.int .i64 t.states, .int .i64 t.start, sv fu1, sv au1] :: []) w')
   (fun (k8 : Nat) => t.finals.length - k8) (0) ⟨rfl, trivial⟩ ?_ ?_
 ·refine ⟨Nat.zero_le _, by simp, ?_⟩
  exact M
 rintro k8 jj8 w18 ⟨hk8, h8, M⟩
 have hoJ31 := M.old
 refine wc_seq ?_
 refine wc_seq ?_
 refine wc_region ?_
 refine wl_mv M rfl rfl ?_
 refine wl_m M (q_fa fo_25_2 rfl) rfl rfl ?_
 refine wl_m M (q_ldb 1 Tryz.underlying22 rfl rfl rfl rfl) rfl rfl ?_
 refine wl_m M (q_lenR ((Rf1.mono hJ26).mono hJ31) Tryz.underlying22 rfl) rfl rfl ?_
 refine wl_m M (q_lss rfl rfl) rfl rfl ?_
 refine wl_nil ?_
 refine wc_dec rfl (fun ht156 => ?_) (fun ht156 => ?_)
 ·obtain ⟨x8, hx8⟩ : ∃ x_, t.finals[k8]? = some x_ := ⟨_, List.getElem?_eq_getElem (by omega)⟩
  have hx8r := hr.fin x8 (List.mem_of_getElem? hx8)
  have hf8 : ((x8.toNat : Nat) : Int) = x8 := Int.toNat_of_nonneg hx8r.1
  have hf9 : x8.toNat < N := by omega
  have hj8 := plI_lt (w := (runesL x).length + 1) (h := (runesL z).length + 1) (i := (runesL x).length) (j := (runesL z).length) hf9 (by omega) (by omega)
  obtain ⟨hc1, hc2, hc3, _, _⟩ := pl_bound (w := (runesL x).length + 1) (h := (runesL z).length + 1) (i := (runesL x).length) (j := (runesL z).length) hf9 hN (by omega) (by omega) (by omega) (by omega)
  have hg8 := getD_at (d := false) (xs := l_57_0) (k := (x8.toNat * ((runesL x).length + 1) + (runesL x).length) * ((runesL z).length + 1) + (runesL z).length) (by rw [h2.1]; exact hj8)
  refine wc_skip ?_
  refine wc_seq ?_
  refine wc_block ?_
  refine wc_seq ?_
  refine wc_region ?_
  refine wl_mv M rfl rfl ?_
  refine wl_m M (q_fa fo_25_2 rfl) rfl rfl ?_
  refine wl_m M (q_ldb 1 Tryz.underlying22 rfl rfl rfl rfl) rfl rfl ?_
  refine wl_mv M rfl rfl ?_
  refine wl_ix (j := k8) M ((Rf1.mono hJ26).mono hJ31) Tryz.underlying22 rfl rfl hx8 rfl (fun b163 o163 p163 => ?_)
  refine wl_m M (q_ldp p163 rfl rfl) rfl rfl ?_
  refine wl_mv M rfl rfl ?_
  refine wl_m M (q_mul (z := ((x8.toNat * ((runesL x).length + 1) : Nat) : Int)) rfl rfl (by rw [show x8 * ((((runesL x).length + 1) : Nat) : Int) = ((x8.toNat * ((runesL x).length + 1) : Nat) : Int) by rw [Int.natCast_mul, hf8]]; exact IntWalk.i64_in _ (by omega))) rfl rfl ?_
  refine wl_mv M rfl rfl ?_
  refine wl_m M (q_add (z := ((x8.toNat * ((runesL x).length + 1) + ((runesL x).length + 1) : Nat) : Int)) rfl rfl (by rw [show ((x8.toNat * ((runesL x).length + 1) : Nat) : Int) + ((((runesL x).length + 1) : Nat) : Int) = ((x8.toNat * ((runesL x).length + 1) + ((runesL x).length + 1) : Nat) : Int) by rw [← Int.natCast_add]]; exact IntWalk.i64_in _ (by omega))) rfl rfl ?_
  refine wl_m M (q_sub (z := ((x8.toNat * ((runesL x).length + 1) + (runesL x).length : Nat) : Int)) rfl rfl (by rw [show ((x8.toNat * ((runesL x).length + 1) + ((runesL x).length + 1) : Nat) : Int) - 1 = ((x8.toNat * ((runesL x).length + 1) + (runesL x).length : Nat) : Int) by omega]; exact IntWalk.i64_in _ (by omega))) rfl rfl ?_
  refine wl_mv M rfl rfl ?_
  refine wl_m M (q_mul (z := (((x8.toNat * ((runesL x).length + 1) + (runesL x).length) * ((runesL z).length + 1) : Nat) : Int)) rfl rfl (by rw [show ((x8.toNat * ((runesL x).length + 1) + (runesL x).length : Nat) : Int) * ((((runesL z).length + 1) : Nat) : Int) = (((x8.toNat * ((runesL x).length + 1) + (runesL x).length) * ((runesL z).length + 1) : Nat) : Int) by rw [← Int.natCast_mul]]; exact IntWalk.i64_in _ (by omega))) rfl rfl ?_
  refine wl_mv M rfl rfl ?_
  refine wl_m M (q_add (z := (((x8.toNat * ((runesL x).length + 1) + (runesL x).length) * ((runesL z).length + 1) + ((runesL z).length + 1) : Nat) : Int)) rfl rfl (by rw [show (((x8.toNat * ((runesL x).length + 1) + (runesL x).length) * ((runesL z).length + 1) : Nat) : Int) + ((((runesL z).length + 1) : Nat) : Int) = (((x8.toNat * ((runesL x).length + 1) + (runesL x).length) * ((runesL z).length + 1) + ((runesL z).length + 1) : Nat) : Int) by rw [← Int.natCast_add]]; exact IntWalk.i64_in _ (by omega))) rfl rfl ?_
  refine wl_m M (q_sub (z := (((x8.toNat * ((runesL x).length + 1) + (runesL x).length) * ((runesL z).length + 1) + (runesL z).length : Nat) : Int)) rfl rfl (by rw [show (((x8.toNat * ((runesL x).length + 1) + (runesL x).length) * ((runesL z).length + 1) + ((runesL z).length + 1) : Nat) : Int) - 1 = (((x8.toNat * ((runesL x).length + 1) + (runesL x).length) * ((runesL z).length + 1) + (runesL z).length : Nat) : Int) by omega]; exact IntWalk.i64_in _ (by omega))) rfl rfl ?_
  refine wl_ixr (j := ((x8.toNat * ((runesL x).length + 1) + (runesL x).length) * ((runesL z).length + 1) + (runesL z).length)) 0 M rfl Tryz.underlying142 rfl rfl (getD_at (d := false) (by rw [h2.1]; exact hj8)) rfl (fun b175 o175 p175 => ?_)
  refine wl_m M (q_ldp p175 rfl rfl) rfl rfl ?_
  refine wl_nil ?_
  refine wc_cond rfl (fun ht176 => ?_) (fun ht176 => ?_)
  ·refine wc_seq ?_
   refine wc_region ?_
   refine wl_as M rfl rfl ?_
   refine wl_nil ?_
   refine wc_ret ?_
   exact out1 rfl rfl ⟨_, _, rfl, M.grow, by rw [relS_ok3 hkx hkz hv, relB_iff.2 (rel_iff.2 ⟨x8, List.mem_of_getElem? hx8, by have := (plR_fin hr h2.2.1 (h2.2.2 _ rfl) (h3 ht66) (s := x8.toNat) (i := (runesL x).length) (j := (runesL z).length) (by omega) (by omega)).1 (by unfold on; rw [hg8, ht176]); rwa [hf8] at this⟩)]⟩
  refine wc_skip ?_
  refine wc_region ?_
  refine wl_mv M rfl rfl ?_
  refine wl_m M (q_add rfl rfl (IntWalk.i64_in _ (by omega))) rfl rfl ?_
  refine wl_as M rfl rfl ?_
  refine wl_nil ?_
  refine ⟨(k8 + 1), ?_, ⟨(by omega), (by rw [take_snoc hx8]; intro f hf; rcases List.mem_append.1 hf with hf | hf; exact h8 f hf; rw [List.mem_singleton.1 hf]; unfold on; rw [hg8, ht176]; simp), M⟩, ⟨rfl, trivial⟩, unw_look rfl unw_base⟩
  show t.finals.length - (k8 + 1) < t.finals.length - k8
  omega
 have hke8 : k8 = t.finals.length := by omega
 rw [hke8, List.take_length] at h8
 refine wc_exit rfl ?_
 refine wc_seq ?_
 refine wc_region ?_
 refine wl_as M rfl rfl ?_
 refine wl_nil ?_
 refine wc_ret ?_
 exact out1 rfl rfl ⟨_, _, rfl, M.grow, by rw [relS_ok3 hkx hkz hv, relB_false.2 (fun h => by obtain ⟨f, hf, hre⟩ := rel_iff.1 h; have h0 : ((f.toNat : Nat) : Int) = f := Int.toNat_of_nonneg (hr.fin f hf).1; exact h8 f hf ((plR_fin hr h2.2.1 (h2.2.2 _ rfl) (h3 ht66) (s := f.toNat) (i := (runesL x).length) (j := (runesL z).length) (by omega) (by omega)).2 (by rw [h0]; exact hre)))]⟩
set_option maxRecDepth 4000 in
set_option maxHeartbeats 1000000 in
theorem alphabet_c (t : Tra) (hal : t.arcs.length ≤ 4096) (wr : Bool) {v1 : Value} {I : Heap} {w : World} (hI : hle I (hp w)) (R1 : t.rd I v1) : Calls A 11 #[v1, .bool wr] w (Ret w I fun r I' => rdSl ERune I' r (alphL t wr)) := by
 obtain ⟨fu1, au1, rfl, Rf1, Ra1⟩ := R1
 have hla := Ra1.len_le
 have M := Mem.start hI
 refine enter Tryz.func11 rfl 73 Tryz.ntmps11 [_, _] rfl ?_
 refine wc_seq ?_
 refine wc_region ?_
 refine wl_e (e_box M rfl) rfl rfl ?_
 rintro _ w1 ⟨b2, rfl, M⟩
 refine wl_as M rfl rfl ?_
 refine wl_nil ?_
 refine wc_seq ?_
 refine wc_region ?_
 refine wl_e (e_bsR (E := ERune) (xs := []) M (bs_29_0) trivial rfl rfl (by decide)) rfl rfl ?_
 rintro _ w2 ⟨u9, rfl, M⟩
 refine wl_as M rfl rfl ?_
 refine wl_nil ?_
 refine wc_seq ?_
 refine wc_seq ?_
 refine wc_region ?_
 refine wl_as M rfl rfl ?_
 refine wl_nil ?_
 refine wc_block ?_
 refine wc_loop (α := Nat × SV × (List Int)) [5, 6, 7, 8, 10, 11, 12, 13, 14, 15, 16, 17, 18, 19, 20, 21, 22, 23, 24, 25, 26, 27, 28, 29, 30, 31, 32, 33, 34, 35, 36, 37, 38, 39, 40, 41, 42, 43, 44, 45, 46, 47, 48, 49, 50, 51, 52, 53, 54, 55, 56, 57, 58, 59, 60, 61, 62, 63, 64, 65, 66, 67, 68, 69, 70, 71] (fun ((k0, u_9_0, l_9_0) : Nat × SV × (List Int)) => [(6, .int .i64 (k0 : Int)), (5, sv u_9_0)])
   (fun ((k0, u_9_0, l_9_0) : Nat × SV × (List Int)) w' => (k0 ≤ t.arcs.length) ∧ (AlphI t wr k0 l_9_0) ∧ (l_9_0.length ≤ k0) ∧ Mem w I I (row ERune (sv u_9_0) l_9_0 :: box b2 25 [.int .i64 t.states, .int .i64 t.start, sv fu1, sv au1] :: []) w')
   (fun ((k0, u_9_0, l_9_0) : Nat × SV × (List Int)) => t.arcs.length - k0) (0, u9, []) ⟨rfl, rfl, trivial⟩ ?_ ?_
 ·refine ⟨Nat.zero_le _, ⟨by simp, by simp⟩, (by simp), ?_⟩
  exact M
 rintro ⟨k0, u_9_0, l_9_0⟩ jj0 w3 ⟨hk0, ha, hln, M⟩
 refine wc_seq ?_
 refine wc_seq ?_
 refine wc_region ?_
 refine wl_mv M rfl rfl ?_
 refine wl_m M (q_fa fo_25_3 rfl) rfl rfl ?_
 refine wl_m M (q_ldb 1 Tryz.underlying23 rfl rfl rfl rfl) rfl rfl ?_
 refine wl_m M (q_lenR Ra1 Tryz.underlying23 rfl) rfl rfl ?_
 refine wl_m M (q_lss rfl rfl) rfl rfl ?_
 refine wl_nil ?_
 refine wc_dec rfl (fun ht14 => ?_) (fun ht14 => ?_)
 ·obtain ⟨x0, hx0⟩ : ∃ x_, t.arcs[k0]? = some x_ := ⟨_, List.getElem?_eq_getElem (by omega)⟩
  refine wc_skip ?_
  refine wc_seq ?_
  refine wc_block ?_
  refine wc_seq ?_
  refine wc_region ?_
  refine wl_m M (q_fa fo_25_3 rfl) rfl rfl ?_
  refine wl_m M (q_ldb 1 Tryz.underlying23 rfl rfl rfl rfl) rfl rfl ?_
  refine wl_mv M rfl rfl ?_
  refine wl_ix (j := k0) M Ra1 Tryz.underlying23 rfl rfl hx0 rfl (fun b20 o20 p20 => ?_)
  refine wl_m M (q_fa fo_51_2 rfl) rfl rfl ?_
  refine wl_m M (q_ldf p20 Tryz.underlying21 rfl rfl rfl) rfl rfl ?_
  refine wl_as M rfl rfl ?_
  refine wl_nil ?_
  refine wc_seq ?_
  refine wc_seq ?_
  refine wc_region ?_
  refine wl_mv M rfl rfl ?_
  refine wl_nil ?_
  refine wc_cond rfl (fun ht23 => ?_) (fun ht23 => ?_)
  ·have hlab : labA wr x0 = x0.out := by rw [show wr = true from ht23]; rfl
   refine wc_region ?_
   refine wl_m M (q_fa fo_25_3 rfl) rfl rfl ?_
   refine wl_m M (q_ldb 1 Tryz.underlying23 rfl rfl rfl rfl) rfl rfl ?_
   refine wl_mv M rfl rfl ?_
   refine wl_ix (j := k0) M Ra1 Tryz.underlying23 rfl rfl hx0 rfl (fun b27 o27 p27 => ?_)
   refine wl_m M (q_fa fo_51_3 rfl) rfl rfl ?_
   refine wl_m M (q_ldf p27 Tryz.underlying21 rfl rfl rfl) rfl rfl ?_
   refine wl_as M rfl rfl ?_
   refine wl_nil ?_
   refine wc_seq ?_
   refine wc_region ?_
   refine wl_as M rfl rfl ?_
   refine wl_nil ?_
   refine wc_seq ?_
   refine wc_block ?_
   refine wc_loop (α := Nat) [8, 30, 31, 32, 33, 34, 35, 36, 37, 38, 39, 40, 41, 42, 43] (fun (kk : Nat) => [(8, .int .i64 (kk : Int))])
     (fun (kk : Nat) w' => (kk ≤ l_9_0.length ∧ ∀ y ∈ l_9_0.take kk, y < x0.out) ∧ Mem w I I (row ERune (sv u_9_0) l_9_0 :: box b2 25 [.int .i64 t.states, .int .i64 t.start, sv fu1, sv au1] :: []) w')
     (fun (kk : Nat) => l_9_0.length - kk) (0) ⟨rfl, trivial⟩ ?_ ?_
   ·refine ⟨⟨Nat.zero_le _, by simp⟩, ?_⟩
    exact M
   rintro kk jj2 w4 ⟨hkk, M⟩
   refine wc_seq ?_
   refine wc_seq ?_
   refine wc_join (α := Unit) [30, 31, 32, 33, 34, 35, 36, 37, 38, 39, 40, 41] (fun _ => [(41, .bool ((decide ((kk : Int) < (l_9_0.length : Int))) && (decide ((l_9_0.getD kk 0) < x0.out))))]) (fun _ w' => Mem w I I (row ERune (sv u_9_0) l_9_0 :: box b2 25 [.int .i64 t.states, .int .i64 t.start, sv fu1, sv au1] :: []) w') ?_ ?_
   ·refine wc_region ?_
    refine wl_mv M rfl rfl ?_
    refine wl_mv M rfl rfl ?_
    refine wl_m M (q_lenr 0 M rfl Tryz.underlying29 rfl) rfl rfl ?_
    refine wl_m M (q_lss rfl rfl) rfl rfl ?_
    refine wl_mv M rfl rfl ?_
    rcases Bool.eq_false_or_eq_true (decide ((kk : Int) < (l_9_0.length : Int))) with hg34 | hg34
    ·refine wl_m M (q_guard 4 rfl rfl rfl hg34 (q_move rfl)) rfl rfl ?_
     refine wl_m M (q_guard 4 rfl rfl rfl hg34 (q_move rfl)) rfl rfl ?_
     have hkl4 : kk < l_9_0.length := by have := of_decide_eq_true hg34; omega
     refine wl_ixrG (j := kk) 4 rfl rfl rfl hg34 0 M rfl Tryz.underlying29 rfl (ixe (by omega)) (getD_at (d := 0) hkl4) rfl (fun b37 o37 p37 => ?_)
     refine wl_m M (q_guard 4 rfl rfl rfl hg34 (q_ldp p37 rfl rfl)) rfl rfl ?_
     refine wl_m M (q_guard 4 rfl rfl rfl hg34 (q_move rfl)) rfl rfl ?_
     refine wl_m M (q_guard 4 rfl rfl rfl hg34 (q_lss rfl rfl)) rfl rfl ?_
     refine wl_m M (q_pickT rfl hg34 rfl) rfl rfl ?_
     refine wl_nil ?_
     exact ⟨(), M, ⟨(show some (Value.bool (decide ((l_9_0.getD kk 0) < x0.out))) = some (Value.bool ((decide ((kk : Int) < (l_9_0.length : Int))) && (decide ((l_9_0.getD kk 0) < x0.out)))) from by first | (simp only [hg34, Bool.true_or, Bool.false_or, Bool.true_and, Bool.false_and, Bool.or_true, Bool.or_false, Bool.and_true, Bool.and_false]; done) | (simp_all; done) | (simp_all; omega)), trivial⟩, unw_take 12 rfl rfl⟩
    refine wl_m M (q_off 4 rfl rfl rfl hg34) rfl rfl ?_
    refine wl_m M (q_off 4 rfl rfl rfl hg34) rfl rfl ?_
    refine wl_m M (q_off 4 rfl rfl rfl hg34) rfl rfl ?_
    refine wl_m M (q_off 4 rfl rfl rfl hg34) rfl rfl ?_
    refine wl_m M (q_off 4 rfl rfl rfl hg34) rfl rfl ?_
    refine wl_m M (q_off 4 rfl rfl rfl hg34) rfl rfl ?_
    refine wl_m M (q_pickF rfl hg34 rfl) rfl rfl ?_
    refine wl_nil ?_
    exact ⟨(), M, ⟨(show some (Value.bool false) = some (Value.bool ((decide ((kk : Int) < (l_9_0.length : Int))) && (decide ((l_9_0.getD kk 0) < x0.out)))) from by first | (simp only [hg34, Bool.true_or, Bool.false_or, Bool.true_and, Bool.false_and, Bool.or_true, Bool.or_false, Bool.and_true, Bool.and_false]; done) | (simp_all; done) | (simp_all; omega)), trivial⟩, unw_take 12 rfl rfl⟩
   rintro _ jr9 w5 M
   refine wc_cond rfl (fun ht41 => ?_) (fun ht41 => ?_)
   ·have hb41 := Bool.and_eq_true_iff.1 ht41
    have hk41 : kk < l_9_0.length := by have := of_decide_eq_true hb41.1; omega
    refine wc_skip ?_
    refine wc_block ?_
    refine wc_region ?_
    refine wl_mv M rfl rfl ?_
    refine wl_m M (q_add rfl rfl (IntWalk.i64_in _ (by omega))) rfl rfl ?_
    refine wl_as M rfl rfl ?_
    refine wl_nil ?_
    refine ⟨(kk + 1), ?_, ⟨⟨by omega, alph_stp (getD_at (d := 0) (by omega)) hkk.2 (of_decide_eq_true hb41.2)⟩, M⟩, ⟨rfl, trivial⟩, unw_look rfl (unw_hav rfl (unw_look rfl unw_base))⟩
    show l_9_0.length - (kk + 1) < l_9_0.length - kk
    omega
   refine wc_exit rfl ?_
   refine wc_seq ?_
   refine wc_join (α := Unit) [44, 45, 46, 47, 48, 49, 50, 51, 52, 53, 54, 55, 56, 57, 58, 59] (fun _ => [(59, .bool ((!decide (x0.out = 0)) && ((decide ((kk : Int) = (l_9_0.length : Int))) || (!decide ((l_9_0.getD kk 0) = x0.out)))))]) (fun _ w' => Mem w I I (row ERune (sv u_9_0) l_9_0 :: box b2 25 [.int .i64 t.states, .int .i64 t.start, sv fu1, sv au1] :: []) w') ?_ ?_
   ·refine wc_region ?_
    refine wl_mv M rfl rfl ?_
    refine wl_m M (q_neq rfl rfl) rfl rfl ?_
    refine wl_mv M rfl rfl ?_
    rcases Bool.eq_false_or_eq_true (!decide (x0.out = 0)) with hg46 | hg46
    ·refine wl_m M (q_guard 2 rfl rfl rfl hg46 (q_move rfl)) rfl rfl ?_
     refine wl_m M (q_guard 2 rfl rfl rfl hg46 (q_move rfl)) rfl rfl ?_
     refine wl_m M (q_guard 2 rfl rfl rfl hg46 (q_lenr 0 M rfl Tryz.underlying29 rfl)) rfl rfl ?_
     refine wl_m M (q_guard 2 rfl rfl rfl hg46 (q_eql rfl rfl)) rfl rfl ?_
     refine wl_m M (q_guard 2 rfl rfl rfl hg46 (q_move rfl)) rfl rfl ?_
     rcases Bool.eq_false_or_eq_true (decide ((kk : Int) = (l_9_0.length : Int))) with hg51 | hg51
     ·refine wl_m M (q_off 7 rfl rfl rfl hg51) rfl rfl ?_
      refine wl_m M (q_off 7 rfl rfl rfl hg51) rfl rfl ?_
      refine wl_m M (q_off 7 rfl rfl rfl hg51) rfl rfl ?_
      refine wl_m M (q_off 7 rfl rfl rfl hg51) rfl rfl ?_
      refine wl_m M (q_off 7 rfl rfl rfl hg51) rfl rfl ?_
      refine wl_m M (q_off 7 rfl rfl rfl hg51) rfl rfl ?_
      refine wl_m M (q_guard 2 rfl rfl rfl hg46 (q_pickT rfl hg51 rfl)) rfl rfl ?_
      refine wl_m M (q_pickT rfl hg46 rfl) rfl rfl ?_
      refine wl_nil ?_
      exact ⟨(), M, ⟨(show some (Value.bool true) = some (Value.bool ((!decide (x0.out = 0)) && ((decide ((kk : Int) = (l_9_0.length : Int))) || (!decide ((l_9_0.getD kk 0) = x0.out))))) from by first | (simp only [hg46, hg51, Bool.true_or, Bool.false_or, Bool.true_and, Bool.false_and, Bool.or_true, Bool.or_false, Bool.and_true, Bool.and_false]; done) | (simp_all; done) | (simp_all; omega)), trivial⟩, unw_take 16 rfl rfl⟩
     refine wl_m M (q_guard 7 rfl rfl rfl hg51 (q_move rfl)) rfl rfl ?_
     refine wl_m M (q_guard 7 rfl rfl rfl hg51 (q_move rfl)) rfl rfl ?_
     have hkl6 : kk < l_9_0.length := by have := of_decide_eq_false hg51; omega
     refine wl_ixrG (j := kk) 7 rfl rfl rfl hg51 0 M rfl Tryz.underlying29 rfl (ixe (by omega)) (getD_at (d := 0) hkl6) rfl (fun b54 o54 p54 => ?_)
     refine wl_m M (q_guard 7 rfl rfl rfl hg51 (q_ldp p54 rfl rfl)) rfl rfl ?_
     refine wl_m M (q_guard 7 rfl rfl rfl hg51 (q_move rfl)) rfl rfl ?_
     refine wl_m M (q_guard 7 rfl rfl rfl hg51 (q_neq rfl rfl)) rfl rfl ?_
     refine wl_m M (q_guard 2 rfl rfl rfl hg46 (q_pickF rfl hg51 rfl)) rfl rfl ?_
     refine wl_m M (q_pickT rfl hg46 rfl) rfl rfl ?_
     refine wl_nil ?_
     exact ⟨(), M, ⟨(show some (Value.bool (!decide ((l_9_0.getD kk 0) = x0.out))) = some (Value.bool ((!decide (x0.out = 0)) && ((decide ((kk : Int) = (l_9_0.length : Int))) || (!decide ((l_9_0.getD kk 0) = x0.out))))) from by first | (simp only [hg46, hg51, Bool.true_or, Bool.false_or, Bool.true_and, Bool.false_and, Bool.or_true, Bool.or_false, Bool.and_true, Bool.and_false]; done) | (simp_all; done) | (simp_all; omega)), trivial⟩, unw_take 16 rfl rfl⟩
    refine wl_m M (q_off 2 rfl rfl rfl hg46) rfl rfl ?_
    refine wl_m M (q_off 2 rfl rfl rfl hg46) rfl rfl ?_
    refine wl_m M (q_off 2 rfl rfl rfl hg46) rfl rfl ?_
    refine wl_m M (q_off 2 rfl rfl rfl hg46) rfl rfl ?_
    refine wl_m M (q_off 2 rfl rfl rfl hg46) rfl rfl ?_
    refine wl_m M (q_offu 7 rfl rfl rfl) rfl rfl ?_
    refine wl_m M (q_offu 7 rfl rfl rfl) rfl rfl ?_
    refine wl_m M (q_offu 7 rfl rfl rfl) rfl rfl ?_
    refine wl_m M (q_offu 7 rfl rfl rfl) rfl rfl ?_
    refine wl_m M (q_offu 7 rfl rfl rfl) rfl rfl ?_
    refine wl_m M (q_offu 7 rfl rfl rfl) rfl rfl ?_
    refine wl_m M (q_off 2 rfl rfl rfl hg46) rfl rfl ?_
    refine wl_m M (q_pickF rfl hg46 rfl) rfl rfl ?_
    refine wl_nil ?_
    exact ⟨(), M, ⟨(show some (Value.bool false) = some (Value.bool ((!decide (x0.out = 0)) && ((decide ((kk : Int) = (l_9_0.length : Int))) || (!decide ((l_9_0.getD kk 0) = x0.out))))) from by first | (simp only [hg46, Bool.true_or, Bool.false_or, Bool.true_and, Bool.false_and, Bool.or_true, Bool.or_false, Bool.and_true, Bool.and_false]; done) | (simp_all; done) | (simp_all; omega)), trivial⟩, unw_take 16 rfl rfl⟩
   rintro _ jr11 w6 M
   refine wc_cond rfl (fun ht59 => ?_) (fun ht59 => ?_)
   ·obtain ⟨I9, M, hI9, Rz⟩ := M.frzRow 0 rfl
    have hoI9 := M.old
    refine wc_join (α := Heap × SV) [5, 60, 61, 62, 63, 64, 65, 66, 67, 68, 69, 70, 71] (fun ((I8, u71) : Heap × SV) => [(5, sv u71)]) (fun ((I8, u71) : Heap × SV) w' => hle I9 I8 ∧ Mem w I I8 (row ERune (sv u71) ([] ++ l_9_0.take kk ++ [x0.out] ++ l_9_0.drop kk) :: box b2 25 [.int .i64 t.states, .int .i64 t.start, sv fu1, sv au1] :: []) w') ?_ ?_
    ·refine wc_draws (fun w' => Mem w I I9 (box b2 25 [.int .i64 t.states, .int .i64 t.start, sv fu1, sv au1] :: []) w' ∧ True) [] fol ?_
     replace M := M.drew
     have hS := (⟨M, trivial⟩ : _ ∧ _)
     refine wa_q 1 rfl (by kernel_rfl) (q_move rfl) hS rfl rfl ?_
     refine wa_q 2 rfl (by kernel_rfl) (q_move rfl) hS rfl rfl ?_
     have R63 := rdTake (k := kk) Rz hkk.1
     refine wa_q 3 rfl (by kernel_rfl) (q_takeV (E := ERune) (k := kk) Tryz.underlying29 rfl rfl (Nat.le_trans hkk.1 (rd_cap3 Rz))) hS rfl rfl ?_
     refine wa_q 5 rfl (by kernel_rfl) (q_move rfl) hS rfl rfl ?_
     refine wa_q 8 rfl (by kernel_rfl) (q_move rfl) hS rfl rfl ?_
     refine wa_q 9 rfl (by kernel_rfl) (q_move rfl) hS rfl rfl ?_
     have R70 := rdCut (k := kk) Rz hkk.1
     refine wa_q 10 rfl (by kernel_rfl) (q_cutV (E := ERune) (k := kk) Tryz.underlying29 rfl rfl (by rw [rd_len Rz]; exact hkk.1)) hS rfl rfl ?_
     refine wa_es [0, 6] (by kernel_rfl) (by decide) ⟨?_, ?_, trivial⟩
     ·refine one_e 0 rfl (e_bsR (E := ERune) (xs := []) M (bs_29_0) trivial rfl rfl (by decide)) rfl rfl ?_
      rintro _ w7 ⟨u60, rfl, M⟩
      have hS := (⟨(M.drop 0), trivial⟩ : _ ∧ _)
      refine ⟨fun _ => hS, ?_⟩
      refine wa_es [4, 6] (by kernel_rfl) (by decide) ⟨?_, ?_, trivial⟩
      ·refine one_e 4 rfl (e_app 0 M rfl R63 Tryz.underlying29 rfl rfl (by show (_ + _) * 4 ≤ _; rw [List.length_take, List.length_nil]; omega)) rfl rfl ?_
       rintro _ w8 ⟨u64, rfl, M⟩
       try simp only [sC0, sCS] at M
       have hS := (⟨(M.drop 0), trivial⟩ : _ ∧ _)
       refine ⟨fun _ => hS, ?_⟩
       refine wa_e 6 rfl (by kernel_rfl) (e_bsI (E := ERune) (xs := [x0.out]) M (bs_29_1 _) ⟨⟨rfl, rfl⟩, trivial⟩ rfl rfl (by decide)) rfl rfl ?_
       rintro _ w9 ⟨u66, J66, rfl, hJ66, R66, M⟩
       have hoJ66 := M.old
       have hS := (⟨((M.less hJ66 hoI9).drop 0), trivial⟩ : _ ∧ _)
       refine ⟨fun _ => hS, ?_⟩
       refine wa_e 7 rfl (by kernel_rfl) (e_app 0 M rfl R66 Tryz.underlying29 rfl rfl (by show (_ + 1) * 4 ≤ _; rw [List.length_append, List.length_take, List.length_nil]; omega)) rfl rfl ?_
       rintro _ w10 ⟨u67, rfl, M⟩
       try simp only [sC0, sCS] at M
       have hS := (⟨((M.less hJ66 hoI9).drop 0), trivial⟩ : _ ∧ _)
       refine ⟨fun _ => hS, ?_⟩
       replace M := M.less hJ66 hoI9
       refine wa_e 11 rfl (by kernel_rfl) (e_app 0 M rfl R70 Tryz.underlying29 rfl rfl (by show (_ + _) * 4 ≤ _; simp only [List.length_append, List.length_take, List.length_nil, List.length_drop, List.length_cons]; omega)) rfl rfl ?_
       rintro _ w11 ⟨u71, rfl, M⟩
       try simp only [sC0, sCS] at M
       have hS := (⟨(M.drop 0), trivial⟩ : _ ∧ _)
       refine ⟨fun _ => hS, ?_⟩
       refine wa_q 12 rfl (by kernel_rfl) (q_assign rfl) hS rfl rfl ?_
       refine wa_done (by kernel_rfl) ?_
       exact ⟨(I9, u71), ⟨hle.refl _, M⟩, ⟨rfl, trivial⟩, unw_take 13 rfl rfl⟩
      ·refine one_e 6 rfl (e_bsI (E := ERune) (xs := [x0.out]) M (bs_29_1 _) ⟨⟨rfl, rfl⟩, trivial⟩ rfl rfl (by decide)) rfl rfl ?_
       rintro _ w12 ⟨u66, J66, rfl, hJ66, R66, M⟩
       have hoJ66 := M.old
       have hS := (⟨((M.less hJ66 hoI9).drop 0), trivial⟩ : _ ∧ _)
       refine ⟨fun _ => hS, ?_⟩
       refine wa_e 4 rfl (by kernel_rfl) (e_app 0 M rfl (R63.mono hJ66) Tryz.underlying29 rfl rfl (by show (_ + _) * 4 ≤ _; rw [List.length_take, List.length_nil]; omega)) rfl rfl ?_
       rintro _ w13 ⟨u64, rfl, M⟩
       try simp only [sC0, sCS] at M
       have hS := (⟨((M.less hJ66 hoI9).drop 0), trivial⟩ : _ ∧ _)
       refine ⟨fun _ => hS, ?_⟩
       refine wa_e 7 rfl (by kernel_rfl) (e_app 0 M rfl R66 Tryz.underlying29 rfl rfl (by show (_ + 1) * 4 ≤ _; rw [List.length_append, List.length_take, List.length_nil]; omega)) rfl rfl ?_
       rintro _ w14 ⟨u67, rfl, M⟩
       try simp only [sC0, sCS] at M
       have hS := (⟨((M.less hJ66 hoI9).drop 0), trivial⟩ : _ ∧ _)
       refine ⟨fun _ => hS, ?_⟩
       replace M := M.less hJ66 hoI9
       refine wa_e 11 rfl (by kernel_rfl) (e_app 0 M rfl R70 Tryz.underlying29 rfl rfl (by show (_ + _) * 4 ≤ _; simp only [List.length_append, List.length_take, List.length_nil, List.length_drop, List.length_cons]; omega)) rfl rfl ?_
       rintro _ w15 ⟨u71, rfl, M⟩
       try simp only [sC0, sCS] at M
       have hS := (⟨(M.drop 0), trivial⟩ : _ ∧ _)
       refine ⟨fun _ => hS, ?_⟩
       refine wa_q 12 rfl (by kernel_rfl) (q_assign rfl) hS rfl rfl ?_
       refine wa_done (by kernel_rfl) ?_
       exact ⟨(I9, u71), ⟨hle.refl _, M⟩, ⟨rfl, trivial⟩, unw_take 13 rfl rfl⟩
     ·refine one_e 6 rfl (e_bsI (E := ERune) (xs := [x0.out]) M (bs_29_1 _) ⟨⟨rfl, rfl⟩, trivial⟩ rfl rfl (by decide)) rfl rfl ?_
      rintro _ w16 ⟨u66, J66, rfl, hJ66, R66, M⟩
      have hoJ66 := M.old
      have hS := (⟨(M.less hJ66 hoI9), trivial⟩ : _ ∧ _)
      refine ⟨fun _ => hS, ?_⟩
      refine wa_e 0 rfl (by kernel_rfl) (e_bsR (E := ERune) (xs := []) M (bs_29_0) trivial rfl rfl (by decide)) rfl rfl ?_
      rintro _ w17 ⟨u60, rfl, M⟩
      have hS := (⟨((M.less hJ66 hoI9).drop 0), trivial⟩ : _ ∧ _)
      refine ⟨fun _ => hS, ?_⟩
      refine wa_e 4 rfl (by kernel_rfl) (e_app 0 M rfl (R63.mono hJ66) Tryz.underlying29 rfl rfl (by show (_ + _) * 4 ≤ _; rw [List.length_take, List.length_nil]; omega)) rfl rfl ?_
      rintro _ w18 ⟨u64, rfl, M⟩
      try simp only [sC0, sCS] at M
      have hS := (⟨((M.less hJ66 hoI9).drop 0), trivial⟩ : _ ∧ _)
      refine ⟨fun _ => hS, ?_⟩
      refine wa_e 7 rfl (by kernel_rfl) (e_app 0 M rfl R66 Tryz.underlying29 rfl rfl (by show (_ + 1) * 4 ≤ _; rw [List.length_append, List.length_take, List.length_nil]; omega)) rfl rfl ?_
      rintro _ w19 ⟨u67, rfl, M⟩
      try simp only [sC0, sCS] at M
      have hS := (⟨((M.less hJ66 hoI9).drop 0), trivial⟩ : _ ∧ _)
      refine ⟨fun _ => hS, ?_⟩
      replace M := M.less hJ66 hoI9
      refine wa_e 11 rfl (by kernel_rfl) (e_app 0 M rfl R70 Tryz.underlying29 rfl rfl (by show (_ + _) * 4 ≤ _; simp only [List.length_append, List.length_take, List.length_nil, List.length_drop, List.length_cons]; omega)) rfl rfl ?_
      rintro _ w20 ⟨u71, rfl, M⟩
      try simp only [sC0, sCS] at M
      have hS := (⟨(M.drop 0), trivial⟩ : _ ∧ _)
      refine ⟨fun _ => hS, ?_⟩
      refine wa_q 12 rfl (by kernel_rfl) (q_assign rfl) hS rfl rfl ?_
      refine wa_done (by kernel_rfl) ?_
      exact ⟨(I9, u71), ⟨hle.refl _, M⟩, ⟨rfl, trivial⟩, unw_take 13 rfl rfl⟩
    rintro ⟨I8, u71⟩ jr12 w21 ⟨hI8, M⟩
    have hoI8 := M.old
    refine wc_region ?_
    refine wl_mv M rfl rfl ?_
    refine wl_m M (q_add rfl rfl (IntWalk.i64_in _ (by omega))) rfl rfl ?_
    refine wl_as M rfl rfl ?_
    refine wl_nil ?_
    replace M := M.less (hle.trans hI9 hI8) (fun _ _ => rfl)
    refine ⟨(k0 + 1, u71, ([] ++ l_9_0.take kk ++ [x0.out] ++ l_9_0.drop kk)), ?_, ⟨(by omega), (alph_ins ha hx0 hlab hkk.1 hkk.2 ht41 ht59), (by simp only [List.length_append, List.length_take, List.length_nil, List.length_drop, List.length_cons]; omega), M⟩, ⟨rfl, rfl, trivial⟩, unw_look rfl (unw_hav rfl (unw_look rfl (unw_hav rfl (unw_look rfl (unw_hav rfl (unw_look rfl (unw_hav rfl (unw_look rfl unw_base))))))))⟩
    show t.arcs.length - (k0 + 1) < t.arcs.length - k0
    omega
   refine wc_skip ?_
   refine wc_region ?_
   refine wl_mv M rfl rfl ?_
   refine wl_m M (q_add rfl rfl (IntWalk.i64_in _ (by omega))) rfl rfl ?_
   refine wl_as M rfl rfl ?_
   refine wl_nil ?_
   refine ⟨(k0 + 1, u_9_0, l_9_0), ?_, ⟨(by omega), (alph_skip ha hx0 hlab hkk.1 ht59), (by omega), M⟩, ⟨rfl, rfl, trivial⟩, unw_look rfl (unw_hav rfl (unw_look rfl (unw_hav rfl (unw_look rfl (unw_hav rfl (unw_look rfl unw_base))))))⟩
   show t.arcs.length - (k0 + 1) < t.arcs.length - k0
   omega
  have hlab : labA wr x0 = x0.inp := by rw [show wr = false from ht23]; rfl
  refine wc_skip ?_
  refine wc_seq ?_
  refine wc_region ?_
  refine wl_as M rfl rfl ?_
  refine wl_nil ?_
  refine wc_seq ?_
  refine wc_block ?_
  refine wc_loop (α := Nat) [8, 30, 31, 32, 33, 34, 35, 36, 37, 38, 39, 40, 41, 42, 43] (fun (kk : Nat) => [(8, .int .i64 (kk : Int))])
    (fun (kk : Nat) w' => (kk ≤ l_9_0.length ∧ ∀ y ∈ l_9_0.take kk, y < x0.inp) ∧ Mem w I I (row ERune (sv u_9_0) l_9_0 :: box b2 25 [.int .i64 t.states, .int .i64 t.start, sv fu1, sv au1] :: []) w')
    (fun (kk : Nat) => l_9_0.length - kk) (0) ⟨rfl, trivial⟩ ?_ ?_
  ·refine ⟨⟨Nat.zero_le _, by simp⟩, ?_⟩
   exact M
  rintro kk jj2 w22 ⟨hkk, M⟩
  refine wc_seq ?_
  refine wc_seq ?_
  refine wc_join (α := Unit) [30, 31, 32, 33, 34, 35, 36, 37, 38, 39, 40, 41] (fun _ => [(41, .bool ((decide ((kk : Int) < (l_9_0.length : Int))) && (decide ((l_9_0.getD kk 0) < x0.inp))))]) (fun _ w' => Mem w I I (row ERune (sv u_9_0) l_9_0 :: box b2 25 [.int .i64 t.states, .int .i64 t.start, sv fu1, sv au1] :: []) w') ?_ ?_
  ·refine wc_region ?_
   refine wl_mv M rfl rfl ?_
   refine wl_mv M rfl rfl ?_
   refine wl_m M (q_lenr 0 M rfl Tryz.underlying29 rfl) rfl rfl ?_
   refine wl_m M (q_lss rfl rfl) rfl rfl ?_
   refine wl_mv M rfl rfl ?_
   rcases Bool.eq_false_or_eq_true (decide ((kk : Int) < (l_9_0.length : Int))) with hg34 | hg34
   ·refine wl_m M (q_guard 4 rfl rfl rfl hg34 (q_move rfl)) rfl rfl ?_
    refine wl_m M (q_guard 4 rfl rfl rfl hg34 (q_move rfl)) rfl rfl ?_
    have hkl4 : kk < l_9_0.length := by have := of_decide_eq_true hg34; omega
    refine wl_ixrG (j := kk) 4 rfl rfl rfl hg34 0 M rfl Tryz.underlying29 rfl (ixe (by omega)) (getD_at (d := 0) hkl4) rfl (fun b37 o37 p37 => ?_)
    refine wl_m M (q_guard 4 rfl rfl rfl hg34 (q_ldp p37 rfl rfl)) rfl rfl ?_
    refine wl_m M (q_guard 4 rfl rfl rfl hg34 (q_move rfl)) rfl rfl ?_
    refine wl_m M (q_guard 4 rfl rfl rfl hg34 (q_lss rfl rfl)) rfl rfl ?_
    refine wl_m M (q_pickT rfl hg34 rfl) rfl rfl ?_
    refine wl_nil ?_
    exact ⟨(), M, ⟨(show some (Value.bool (decide ((l_9_0.getD kk 0) < x0.inp))) = some (Value.bool ((decide ((kk : Int) < (l_9_0.length : Int))) && (decide ((l_9_0.getD kk 0) < x0.inp)))) from by first | (simp only [hg34, Bool.true_or, Bool.false_or, Bool.true_and, Bool.false_and, Bool.or_true, Bool.or_false, Bool.and_true, Bool.and_false]; done) | (simp_all; done) | (simp_all; omega)), trivial⟩, unw_take 12 rfl rfl⟩
   refine wl_m M (q_off 4 rfl rfl rfl hg34) rfl rfl ?_
   refine wl_m M (q_off 4 rfl rfl rfl hg34) rfl rfl ?_
   refine wl_m M (q_off 4 rfl rfl rfl hg34) rfl rfl ?_
   refine wl_m M (q_off 4 rfl rfl rfl hg34) rfl rfl ?_
   refine wl_m M (q_off 4 rfl rfl rfl hg34) rfl rfl ?_
   refine wl_m M (q_off 4 rfl rfl rfl hg34) rfl rfl ?_
   refine wl_m M (q_pickF rfl hg34 rfl) rfl rfl ?_
   refine wl_nil ?_
   exact ⟨(), M, ⟨(show some (Value.bool false) = some (Value.bool ((decide ((kk : Int) < (l_9_0.length : Int))) && (decide ((l_9_0.getD kk 0) < x0.inp)))) from by first | (simp only [hg34, Bool.true_or, Bool.false_or, Bool.true_and, Bool.false_and, Bool.or_true, Bool.or_false, Bool.and_true, Bool.and_false]; done) | (simp_all; done) | (simp_all; omega)), trivial⟩, unw_take 12 rfl rfl⟩
  rintro _ jr9 w23 M
  refine wc_cond rfl (fun ht41 => ?_) (fun ht41 => ?_)
  ·have hb41 := Bool.and_eq_true_iff.1 ht41
   have hk41 : kk < l_9_0.length := by have := of_decide_eq_true hb41.1; omega
   refine wc_skip ?_
   refine wc_block ?_
   refine wc_region ?_
   refine wl_mv M rfl rfl ?_
   refine wl_m M (q_add rfl rfl (IntWalk.i64_in _ (by omega))) rfl rfl ?_
   refine wl_as M rfl rfl ?_
   refine wl_nil ?_
   refine ⟨(kk + 1), ?_, ⟨⟨by omega, alph_stp (getD_at (d := 0) (by omega)) hkk.2 (of_decide_eq_true hb41.2)⟩, M⟩, ⟨rfl, trivial⟩, unw_look rfl (unw_hav rfl (unw_look rfl unw_base))⟩
   show l_9_0.length - (kk + 1) < l_9_0.length - kk
   omega
  refine wc_exit rfl ?_
  refine wc_seq ?_
  refine wc_join (α := Unit) [44, 45, 46, 47, 48, 49, 50, 51, 52, 53, 54, 55, 56, 57, 58, 59] (fun _ => [(59, .bool ((!decide (x0.inp = 0)) && ((decide ((kk : Int) = (l_9_0.length : Int))) || (!decide ((l_9_0.getD kk 0) = x0.inp)))))]) (fun _ w' => Mem w I I (row ERune (sv u_9_0) l_9_0 :: box b2 25 [.int .i64 t.states, .int .i64 t.start, sv fu1, sv au1] :: []) w') ?_ ?_
  ·refine wc_region ?_
   refine wl_mv M rfl rfl ?_
   refine wl_m M (q_neq rfl rfl) rfl rfl ?_
   refine wl_mv M rfl rfl ?_
   rcases Bool.eq_false_or_eq_true (!decide (x0.inp = 0)) with hg46 | hg46
   ·refine wl_m M (q_guard 2 rfl rfl rfl hg46 (q_move rfl)) rfl rfl ?_
    refine wl_m M (q_guard 2 rfl rfl rfl hg46 (q_move rfl)) rfl rfl ?_
    refine wl_m M (q_guard 2 rfl rfl rfl hg46 (q_lenr 0 M rfl Tryz.underlying29 rfl)) rfl rfl ?_
    refine wl_m M (q_guard 2 rfl rfl rfl hg46 (q_eql rfl rfl)) rfl rfl ?_
    refine wl_m M (q_guard 2 rfl rfl rfl hg46 (q_move rfl)) rfl rfl ?_
    rcases Bool.eq_false_or_eq_true (decide ((kk : Int) = (l_9_0.length : Int))) with hg51 | hg51
    ·refine wl_m M (q_off 7 rfl rfl rfl hg51) rfl rfl ?_
     refine wl_m M (q_off 7 rfl rfl rfl hg51) rfl rfl ?_
     refine wl_m M (q_off 7 rfl rfl rfl hg51) rfl rfl ?_
     refine wl_m M (q_off 7 rfl rfl rfl hg51) rfl rfl ?_
     refine wl_m M (q_off 7 rfl rfl rfl hg51) rfl rfl ?_
     refine wl_m M (q_off 7 rfl rfl rfl hg51) rfl rfl ?_
     refine wl_m M (q_guard 2 rfl rfl rfl hg46 (q_pickT rfl hg51 rfl)) rfl rfl ?_
     refine wl_m M (q_pickT rfl hg46 rfl) rfl rfl ?_
     refine wl_nil ?_
     exact ⟨(), M, ⟨(show some (Value.bool true) = some (Value.bool ((!decide (x0.inp = 0)) && ((decide ((kk : Int) = (l_9_0.length : Int))) || (!decide ((l_9_0.getD kk 0) = x0.inp))))) from by first | (simp only [hg46, hg51, Bool.true_or, Bool.false_or, Bool.true_and, Bool.false_and, Bool.or_true, Bool.or_false, Bool.and_true, Bool.and_false]; done) | (simp_all; done) | (simp_all; omega)), trivial⟩, unw_take 16 rfl rfl⟩
    refine wl_m M (q_guard 7 rfl rfl rfl hg51 (q_move rfl)) rfl rfl ?_
    refine wl_m M (q_guard 7 rfl rfl rfl hg51 (q_move rfl)) rfl rfl ?_
    have hkl6 : kk < l_9_0.length := by have := of_decide_eq_false hg51; omega
    refine wl_ixrG (j := kk) 7 rfl rfl rfl hg51 0 M rfl Tryz.underlying29 rfl (ixe (by omega)) (getD_at (d := 0) hkl6) rfl (fun b54 o54 p54 => ?_)
    refine wl_m M (q_guard 7 rfl rfl rfl hg51 (q_ldp p54 rfl rfl)) rfl rfl ?_
    refine wl_m M (q_guard 7 rfl rfl rfl hg51 (q_move rfl)) rfl rfl ?_
    refine wl_m M (q_guard 7 rfl rfl rfl hg51 (q_neq rfl rfl)) rfl rfl ?_
    refine wl_m M (q_guard 2 rfl rfl rfl hg46 (q_pickF rfl hg51 rfl)) rfl rfl ?_
    refine wl_m M (q_pickT rfl hg46 rfl) rfl rfl ?_
    refine wl_nil ?_
    exact ⟨(), M, ⟨(show some (Value.bool (!decide ((l_9_0.getD kk 0) = x0.inp))) = some (Value.bool ((!decide (x0.inp = 0)) && ((decide ((kk : Int) = (l_9_0.length : Int))) || (!decide ((l_9_0.getD kk 0) = x0.inp))))) from by first | (simp only [hg46, hg51, Bool.true_or, Bool.false_or, Bool.true_and, Bool.false_and, Bool.or_true, Bool.or_false, Bool.and_true, Bool.and_false]; done) | (simp_all; done) | (simp_all; omega)), trivial⟩, unw_take 16 rfl rfl⟩
   refine wl_m M (q_off 2 rfl rfl rfl hg46) rfl rfl ?_
   refine wl_m M (q_off 2 rfl rfl rfl hg46) rfl rfl ?_
   refine wl_m M (q_off 2 rfl rfl rfl hg46) rfl rfl ?_
   refine wl_m M (q_off 2 rfl rfl rfl hg46) rfl rfl ?_
   refine wl_m M (q_off 2 rfl rfl rfl hg46) rfl rfl ?_
   refine wl_m M (q_offu 7 rfl rfl rfl) rfl rfl ?_
   refine wl_m M (q_offu 7 rfl rfl rfl) rfl rfl ?_
   refine wl_m M (q_offu 7 rfl rfl rfl) rfl rfl ?_
   refine wl_m M (q_offu 7 rfl rfl rfl) rfl rfl ?_
   refine wl_m M (q_offu 7 rfl rfl rfl) rfl rfl ?_
   refine wl_m M (q_offu 7 rfl rfl rfl) rfl rfl ?_
   refine wl_m M (q_off 2 rfl rfl rfl hg46) rfl rfl ?_
   refine wl_m M (q_pickF rfl hg46 rfl) rfl rfl ?_
   refine wl_nil ?_
   exact ⟨(), M, ⟨(show some (Value.bool false) = some (Value.bool ((!decide (x0.inp = 0)) && ((decide ((kk : Int) = (l_9_0.length : Int))) || (!decide ((l_9_0.getD kk 0) = x0.inp))))) from by first | (simp only [hg46, Bool.true_or, Bool.false_or, Bool.true_and, Bool.false_and, Bool.or_true, Bool.or_false, Bool.and_true, Bool.and_false]; done) | (simp_all; done) | (simp_all; omega)), trivial⟩, unw_take 16 rfl rfl⟩
  rintro _ jr11 w24 M
  refine wc_cond rfl (fun ht59 => ?_) (fun ht59 => ?_)
  ·obtain ⟨I9, M, hI9, Rz⟩ := M.frzRow 0 rfl
   have hoI9 := M.old
   refine wc_join (α := Heap × SV) [5, 60, 61, 62, 63, 64, 65, 66, 67, 68, 69, 70, 71] (fun ((I8, u71) : Heap × SV) => [(5, sv u71)]) (fun ((I8, u71) : Heap × SV) w' => hle I9 I8 ∧ Mem w I I8 (row ERune (sv u71) ([] ++ l_9_0.take kk ++ [x0.inp] ++ l_9_0.drop kk) :: box b2 25 [.int .i64 t.states, .int .i64 t.start, sv fu1, sv au1] :: []) w') ?_ ?_
   ·refine wc_draws (fun w' => Mem w I I9 (box b2 25 [.int .i64 t.states, .int .i64 t.start, sv fu1, sv au1] :: []) w' ∧ True) [] fol ?_
    replace M := M.drew
    have hS := (⟨M, trivial⟩ : _ ∧ _)
    refine wa_q 1 rfl (by kernel_rfl) (q_move rfl) hS rfl rfl ?_
    refine wa_q 2 rfl (by kernel_rfl) (q_move rfl) hS rfl rfl ?_
    have R63 := rdTake (k := kk) Rz hkk.1
    refine wa_q 3 rfl (by kernel_rfl) (q_takeV (E := ERune) (k := kk) Tryz.underlying29 rfl rfl (Nat.le_trans hkk.1 (rd_cap3 Rz))) hS rfl rfl ?_
    refine wa_q 5 rfl (by kernel_rfl) (q_move rfl) hS rfl rfl ?_
    refine wa_q 8 rfl (by kernel_rfl) (q_move rfl) hS rfl rfl ?_
    refine wa_q 9 rfl (by kernel_rfl) (q_move rfl) hS rfl rfl ?_
    have R70 := rdCut (k := kk) Rz hkk.1
    refine wa_q 10 rfl (by kernel_rfl) (q_cutV (E := ERune) (k := kk) Tryz.underlying29 rfl rfl (by rw [rd_len Rz]; exact hkk.1)) hS rfl rfl ?_
    refine wa_es [0, 6] (by kernel_rfl) (by decide) ⟨?_, ?_, trivial⟩
    ·refine one_e 0 rfl (e_bsR (E := ERune) (xs := []) M (bs_29_0) trivial rfl rfl (by decide)) rfl rfl ?_
     rintro _ w25 ⟨u60, rfl, M⟩
     have hS := (⟨(M.drop 0), trivial⟩ : _ ∧ _)
     refine ⟨fun _ => hS, ?_⟩
     refine wa_es [4, 6] (by kernel_rfl) (by decide) ⟨?_, ?_, trivial⟩
     ·refine one_e 4 rfl (e_app 0 M rfl R63 Tryz.underlying29 rfl rfl (by show (_ + _) * 4 ≤ _; rw [List.length_take, List.length_nil]; omega)) rfl rfl ?_
      rintro _ w26 ⟨u64, rfl, M⟩
      try simp only [sC0, sCS] at M
      have hS := (⟨(M.drop 0), trivial⟩ : _ ∧ _)
      refine ⟨fun _ => hS, ?_⟩
      refine wa_e 6 rfl (by kernel_rfl) (e_bsI (E := ERune) (xs := [x0.inp]) M (bs_29_1 _) ⟨⟨rfl, rfl⟩, trivial⟩ rfl rfl (by decide)) rfl rfl ?_
      rintro _ w27 ⟨u66, J66, rfl, hJ66, R66, M⟩
      have hoJ66 := M.old
      have hS := (⟨((M.less hJ66 hoI9).drop 0), trivial⟩ : _ ∧ _)
      refine ⟨fun _ => hS, ?_⟩
      refine wa_e 7 rfl (by kernel_rfl) (e_app 0 M rfl R66 Tryz.underlying29 rfl rfl (by show (_ + 1) * 4 ≤ _; rw [List.length_append, List.length_take, List.length_nil]; omega)) rfl rfl ?_
      rintro _ w28 ⟨u67, rfl, M⟩
      try simp only [sC0, sCS] at M
      have hS := (⟨((M.less hJ66 hoI9).drop 0), trivial⟩ : _ ∧ _)
      refine ⟨fun _ => hS, ?_⟩
      replace M := M.less hJ66 hoI9
      refine wa_e 11 rfl (by kernel_rfl) (e_app 0 M rfl R70 Tryz.underlying29 rfl rfl (by show (_ + _) * 4 ≤ _; simp only [List.length_append, List.length_take, List.length_nil, List.length_drop, List.length_cons]; omega)) rfl rfl ?_
      rintro _ w29 ⟨u71, rfl, M⟩
      try simp only [sC0, sCS] at M
      have hS := (⟨(M.drop 0), trivial⟩ : _ ∧ _)
      refine ⟨fun _ => hS, ?_⟩
      refine wa_q 12 rfl (by kernel_rfl) (q_assign rfl) hS rfl rfl ?_
      refine wa_done (by kernel_rfl) ?_
      exact ⟨(I9, u71), ⟨hle.refl _, M⟩, ⟨rfl, trivial⟩, unw_take 13 rfl rfl⟩
     ·refine one_e 6 rfl (e_bsI (E := ERune) (xs := [x0.inp]) M (bs_29_1 _) ⟨⟨rfl, rfl⟩, trivial⟩ rfl rfl (by decide)) rfl rfl ?_
      rintro _ w30 ⟨u66, J66, rfl, hJ66, R66, M⟩
      have hoJ66 := M.old
      have hS := (⟨((M.less hJ66 hoI9).drop 0), trivial⟩ : _ ∧ _)
      refine ⟨fun _ => hS, ?_⟩
      refine wa_e 4 rfl (by kernel_rfl) (e_app 0 M rfl (R63.mono hJ66) Tryz.underlying29 rfl rfl (by show (_ + _) * 4 ≤ _; rw [List.length_take, List.length_nil]; omega)) rfl rfl ?_
      rintro _ w31 ⟨u64, rfl, M⟩
      try simp only [sC0, sCS] at M
      have hS := (⟨((M.less hJ66 hoI9).drop 0), trivial⟩ : _ ∧ _)
      refine ⟨fun _ => hS, ?_⟩
      refine wa_e 7 rfl (by kernel_rfl) (e_app 0 M rfl R66 Tryz.underlying29 rfl rfl (by show (_ + 1) * 4 ≤ _; rw [List.length_append, List.length_take, List.length_nil]; omega)) rfl rfl ?_
      rintro _ w32 ⟨u67, rfl, M⟩
      try simp only [sC0, sCS] at M
      have hS := (⟨((M.less hJ66 hoI9).drop 0), trivial⟩ : _ ∧ _)
      refine ⟨fun _ => hS, ?_⟩
      replace M := M.less hJ66 hoI9
      refine wa_e 11 rfl (by kernel_rfl) (e_app 0 M rfl R70 Tryz.underlying29 rfl rfl (by show (_ + _) * 4 ≤ _; simp only [List.length_append, List.length_take, List.length_nil, List.length_drop, List.length_cons]; omega)) rfl rfl ?_
      rintro _ w33 ⟨u71, rfl, M⟩
      try simp only [sC0, sCS] at M
      have hS := (⟨(M.drop 0), trivial⟩ : _ ∧ _)
      refine ⟨fun _ => hS, ?_⟩
      refine wa_q 12 rfl (by kernel_rfl) (q_assign rfl) hS rfl rfl ?_
      refine wa_done (by kernel_rfl) ?_
      exact ⟨(I9, u71), ⟨hle.refl _, M⟩, ⟨rfl, trivial⟩, unw_take 13 rfl rfl⟩
    ·refine one_e 6 rfl (e_bsI (E := ERune) (xs := [x0.inp]) M (bs_29_1 _) ⟨⟨rfl, rfl⟩, trivial⟩ rfl rfl (by decide)) rfl rfl ?_
     rintro _ w34 ⟨u66, J66, rfl, hJ66, R66, M⟩
     have hoJ66 := M.old
     have hS := (⟨(M.less hJ66 hoI9), trivial⟩ : _ ∧ _)
     refine ⟨fun _ => hS, ?_⟩
     refine wa_e 0 rfl (by kernel_rfl) (e_bsR (E := ERune) (xs := []) M (bs_29_0) trivial rfl rfl (by decide)) rfl rfl ?_
     rintro _ w35 ⟨u60, rfl, M⟩
     have hS := (⟨((M.less hJ66 hoI9).drop 0), trivial⟩ : _ ∧ _)
     refine ⟨fun _ => hS, ?_⟩
     refine wa_e 4 rfl (by kernel_rfl) (e_app 0 M rfl (R63.mono hJ66) Tryz.underlying29 rfl rfl (by show (_ + _) * 4 ≤ _; rw [List.length_take, List.length_nil]; omega)) rfl rfl ?_
     rintro _ w36 ⟨u64, rfl, M⟩
     try simp only [sC0, sCS] at M
     have hS := (⟨((M.less hJ66 hoI9).drop 0), trivial⟩ : _ ∧ _)
     refine ⟨fun _ => hS, ?_⟩
     refine wa_e 7 rfl (by kernel_rfl) (e_app 0 M rfl R66 Tryz.underlying29 rfl rfl (by show (_ + 1) * 4 ≤ _; rw [List.length_append, List.length_take, List.length_nil]; omega)) rfl rfl ?_
     rintro _ w37 ⟨u67, rfl, M⟩
     try simp only [sC0, sCS] at M
     have hS := (⟨((M.less hJ66 hoI9).drop 0), trivial⟩ : _ ∧ _)
     refine ⟨fun _ => hS, ?_⟩
     replace M := M.less hJ66 hoI9
     refine wa_e 11 rfl (by kernel_rfl) (e_app 0 M rfl R70 Tryz.underlying29 rfl rfl (by show (_ + _) * 4 ≤ _; simp only [List.length_append, List.length_take, List.length_nil, List.length_drop, List.length_cons]; omega)) rfl rfl ?_
     rintro _ w38 ⟨u71, rfl, M⟩
     try simp only [sC0, sCS] at M
     have hS := (⟨(M.drop 0), trivial⟩ : _ ∧ _)
     refine ⟨fun _ => hS, ?_⟩
     refine wa_q 12 rfl (by kernel_rfl) (q_assign rfl) hS rfl rfl ?_
     refine wa_done (by kernel_rfl) ?_
     exact ⟨(I9, u71), ⟨hle.refl _, M⟩, ⟨rfl, trivial⟩, unw_take 13 rfl rfl⟩
   rintro ⟨I8, u71⟩ jr12 w39 ⟨hI8, M⟩
   have hoI8 := M.old
   refine wc_region ?_
   refine wl_mv M rfl rfl ?_
   refine wl_m M (q_add rfl rfl (IntWalk.i64_in _ (by omega))) rfl rfl ?_
   refine wl_as M rfl rfl ?_
   refine wl_nil ?_
   replace M := M.less (hle.trans hI9 hI8) (fun _ _ => rfl)
   refine ⟨(k0 + 1, u71, ([] ++ l_9_0.take kk ++ [x0.inp] ++ l_9_0.drop kk)), ?_, ⟨(by omega), (alph_ins ha hx0 hlab hkk.1 hkk.2 ht41 ht59), (by simp only [List.length_append, List.length_take, List.length_nil, List.length_drop, List.length_cons]; omega), M⟩, ⟨rfl, rfl, trivial⟩, unw_look rfl (unw_hav rfl (unw_look rfl (unw_hav rfl (unw_look rfl (unw_hav rfl (unw_look rfl (unw_hav rfl (unw_look rfl unw_base))))))))⟩
   show t.arcs.length - (k0 + 1) < t.arcs.length - k0
   omega
  refine wc_skip ?_
  refine wc_region ?_
  refine wl_mv M rfl rfl ?_
  refine wl_m M (q_add rfl rfl (IntWalk.i64_in _ (by omega))) rfl rfl ?_
  refine wl_as M rfl rfl ?_
  refine wl_nil ?_
  refine ⟨(k0 + 1, u_9_0, l_9_0), ?_, ⟨(by omega), (alph_skip ha hx0 hlab hkk.1 ht59), (by omega), M⟩, ⟨rfl, rfl, trivial⟩, unw_look rfl (unw_hav rfl (unw_look rfl (unw_hav rfl (unw_look rfl (unw_hav rfl (unw_look rfl unw_base))))))⟩
  show t.arcs.length - (k0 + 1) < t.arcs.length - k0
  omega
 have hke0 : k0 = t.arcs.length := by omega
 rw [hke0] at ha
 refine wc_exit rfl ?_
 refine wc_seq ?_
 refine wc_region ?_
 refine wl_mv M rfl rfl ?_
 refine wl_as M rfl rfl ?_
 refine wl_nil ?_
 refine wc_ret ?_
 obtain ⟨K1, M, hK1, Rk1⟩ := M.frzRow 0 rfl
 rw [alphI_fin ha] at Rk1
 exact out1 rfl rfl ⟨_, K1, rfl, (M.grow : Grow w I _ K1), Rk1⟩
set_option maxRecDepth 4000 in
set_option maxHeartbeats 1000000 in
theorem strings_c {l : List Int} (hl : l.length ≤ 3) (n : Nat) (hn : n ≤ 6) {u : SV} {I : Heap} {w : World} (hI : hle I (hp w)) (R1 : rdSl ERune I (sv u) l) : Calls A 31 #[sv u, .int .i64 (n : Int)] w (Ret w I fun r I' => rdSl EStr I' r ((strs l n).map strL)) := by
 have M := Mem.start hI
 refine enter Tryz.func31 rfl 44 Tryz.ntmps31 [_, _] rfl ?_
 refine wc_seq ?_
 refine wc_region ?_
 refine wl_as M rfl rfl ?_
 refine wl_nil ?_
 refine wc_seq ?_
 refine wc_region ?_
 refine wl_e (e_bsR (E := EStr) (xs := [⟨#[]⟩]) M (bs_31_1 _) ⟨⟨rfl, rfl⟩, trivial⟩ rfl rfl (by decide)) rfl rfl ?_
 rintro _ w1 ⟨u10, rfl, M⟩
 refine wl_as M rfl rfl ?_
 refine wl_nil ?_
 refine wc_seq ?_
 refine wc_seq ?_
 refine wc_region ?_
 refine wl_as M rfl rfl ?_
 refine wl_nil ?_
 refine wc_block ?_
 refine wc_loop (α := Nat × SV × (List ByteArray)) [5, 6, 7, 8, 9, 11, 12, 13, 14, 15, 16, 17, 18, 19, 20, 21, 22, 23, 24, 25, 26, 27, 28, 29, 30, 31, 32, 33, 34, 35, 36, 37, 38, 39, 40, 41, 42] (fun ((k0, u_10_0, l_10_0) : Nat × SV × (List ByteArray)) => [(6, .int .i64 (k0 : Int)), (5, sv u_10_0)])
   (fun ((k0, u_10_0, l_10_0) : Nat × SV × (List ByteArray)) w' => (k0 ≤ n) ∧ (l_10_0 = (strs l k0).map strL) ∧ Mem w I I (row EStr (sv u_10_0) l_10_0 :: []) w')
   (fun ((k0, u_10_0, l_10_0) : Nat × SV × (List ByteArray)) => n - k0) (0, u10, [⟨#[]⟩]) ⟨rfl, rfl, trivial⟩ ?_ ?_
 ·refine ⟨Nat.zero_le _, rfl, ?_⟩
  exact M
 rintro ⟨k0, u_10_0, l_10_0⟩ jj0 w2 ⟨hk0, hs, M⟩
 refine wc_seq ?_
 refine wc_seq ?_
 refine wc_region ?_
 refine wl_mv M rfl rfl ?_
 refine wl_mv M rfl rfl ?_
 refine wl_m M (q_lss rfl rfl) rfl rfl ?_
 refine wl_nil ?_
 refine wc_dec rfl (fun ht13 => ?_) (fun ht13 => ?_)
 ·have hsl : l_10_0.length = (strs l k0).length := by rw [hs, List.length_map]
  have h64 := strs_64 hl (n := k0) (by omega)
  refine wc_skip ?_
  refine wc_seq ?_
  refine wc_block ?_
  refine wc_seq ?_
  refine wc_region ?_
  refine wl_e (e_bsR (E := EStr) (xs := []) M (bs_31_0) trivial rfl rfl (by decide)) rfl rfl ?_
  rintro _ w3 ⟨u16, rfl, M⟩
  refine wl_as M rfl rfl ?_
  refine wl_nil ?_
  refine wc_seq ?_
  refine wc_seq ?_
  refine wc_region ?_
  refine wl_as M rfl rfl ?_
  refine wl_nil ?_
  refine wc_block ?_
  refine wc_loop (α := Nat × SV × (List ByteArray)) [7, 8, 9, 17, 18, 19, 20, 21, 22, 23, 24, 25, 26, 27, 28, 29, 30, 31, 32, 33, 34, 35, 36, 37, 38, 39, 40, 41] (fun ((k2, u_16_2, l_16_2) : Nat × SV × (List ByteArray)) => [(8, .int .i64 (k2 : Int)), (7, sv u_16_2)])
    (fun ((k2, u_16_2, l_16_2) : Nat × SV × (List ByteArray)) w' => (k2 ≤ (strs l k0).length) ∧ (l_16_2 = ((strs l k0).take k2).flatMap (nxB l)) ∧ Mem w I I (row EStr (sv u_16_2) l_16_2 :: row EStr (sv u_10_0) l_10_0 :: []) w')
    (fun ((k2, u_16_2, l_16_2) : Nat × SV × (List ByteArray)) => (strs l k0).length - k2) (0, u16, []) ⟨rfl, rfl, trivial⟩ ?_ ?_
  ·refine ⟨Nat.zero_le _, rfl, ?_⟩
   exact M
  rintro ⟨k2, u_16_2, l_16_2⟩ jj2 w4 ⟨hk2, hnx, M⟩
  refine wc_seq ?_
  refine wc_seq ?_
  refine wc_region ?_
  refine wl_mv M rfl rfl ?_
  refine wl_mv M rfl rfl ?_
  refine wl_m M (q_lenr 1 M rfl Tryz.underlying31 rfl) rfl rfl ?_
  refine wl_m M (q_lss rfl rfl) rfl rfl ?_
  refine wl_nil ?_
  refine wc_dec rfl (fun ht20 => ?_) (fun ht20 => ?_)
  ·obtain ⟨x2, hx2⟩ : ∃ x_, (strs l k0)[k2]? = some x_ := ⟨_, List.getElem?_eq_getElem (by omega)⟩
   have hx2l := (mem_strs.1 (List.mem_of_getElem? hx2)).1
   refine wc_skip ?_
   refine wc_seq ?_
   refine wc_block ?_
   refine wc_seq ?_
   refine wc_region ?_
   refine wl_as M rfl rfl ?_
   refine wl_nil ?_
   refine wc_block ?_
   refine wc_loop (α := Nat × SV × (List ByteArray)) [7, 9, 23, 24, 25, 26, 27, 28, 29, 30, 31, 32, 33, 34, 35, 36, 37, 38, 39, 40, 41] (fun ((k4, u_16_4, l_16_4) : Nat × SV × (List ByteArray)) => [(9, .int .i64 (k4 : Int)), (7, sv u_16_4)])
     (fun ((k4, u_16_4, l_16_4) : Nat × SV × (List ByteArray)) w' => (k4 ≤ l.length) ∧ (l_16_4 = ((strs l k0).take k2).flatMap (nxB l) ++ (l.take k4).map fun r => strL x2 ++ Utf8.encode r) ∧ Mem w I I (row EStr (sv u_16_4) l_16_4 :: row EStr (sv u_10_0) l_10_0 :: []) w')
     (fun ((k4, u_16_4, l_16_4) : Nat × SV × (List ByteArray)) => l.length - k4) (0, u_16_2, l_16_2) ⟨rfl, rfl, trivial⟩ ?_ ?_
   ·refine ⟨Nat.zero_le _, (by rw [hnx]; simp), ?_⟩
    exact M
   rintro ⟨k4, u_16_4, l_16_4⟩ jj4 w5 ⟨hk4, hnx4, M⟩
   refine wc_seq ?_
   refine wc_seq ?_
   refine wc_region ?_
   refine wl_mv M rfl rfl ?_
   refine wl_mv M rfl rfl ?_
   refine wl_m M (q_lenR R1 Tryz.underlying29 rfl) rfl rfl ?_
   refine wl_m M (q_lss rfl rfl) rfl rfl ?_
   refine wl_nil ?_
   refine wc_dec rfl (fun ht26 => ?_) (fun ht26 => ?_)
   ·obtain ⟨x4, hx4⟩ : ∃ x_, l[k4]? = some x_ := ⟨_, List.getElem?_eq_getElem (by omega)⟩
    have hll4 := (R1).len_le
    refine wc_skip ?_
    refine wc_seq ?_
    refine wc_block ?_
    refine wc_draws (fun w' => Mem w I I (row EStr (sv u_10_0) l_10_0 :: []) w' ∧ True) [] fol ?_
    replace M := M.drew
    have hS := (⟨(M.drop 0), trivial⟩ : _ ∧ _)
    refine wa_q 0 rfl (by kernel_rfl) (q_move rfl) hS rfl rfl ?_
    refine wa_q 1 rfl (by kernel_rfl) (q_move rfl) hS rfl rfl ?_
    refine wa_q 2 rfl (by kernel_rfl) (q_move rfl) hS rfl rfl ?_
    refine wa_ixS (j := k2) 3 hS (fun _ h => h.1.rd (i := 0) rfl) rfl (by kernel_rfl) Tryz.underlying31 rfl (ixe (by omega)) (by rw [hs, List.getElem?_map, hx2]; rfl) rfl (fun b32 o32 p32 => ?_)
    refine wa_q 4 rfl (by kernel_rfl) (q_ldp p32 rfl rfl) hS rfl rfl ?_
    refine wa_q 5 rfl (by kernel_rfl) (q_move rfl) hS rfl rfl ?_
    refine wa_q 6 rfl (by kernel_rfl) (q_move rfl) hS rfl rfl ?_
    refine wa_ixS (j := k4) 7 hS (fun _ h => R1.mono h.1.imm) rfl (by kernel_rfl) Tryz.underlying29 rfl rfl hx4 rfl (fun b36 o36 p36 => ?_)
    refine wa_q 8 rfl (by kernel_rfl) (q_ldp p36 rfl rfl) hS rfl rfl ?_
    refine wa_q 9 rfl (by kernel_rfl) (q_cvI (by rw [Tryz.underlying21]; rfl) Tryz.underlying9 rfl) hS rfl rfl ?_
    refine wa_q 10 rfl (by kernel_rfl) (q_addS rfl rfl (by have h1 := strL_size x2; have h2 := enc_sz x4; omega)) hS rfl rfl ?_
    refine wa_e 11 rfl (by kernel_rfl) (e_bsI (E := EStr) (xs := [(strL x2) ++ (Utf8.encode x4)]) M (bs_31_1 _) ⟨⟨rfl, rfl⟩, trivial⟩ rfl rfl (by decide)) rfl rfl ?_
    rintro _ w6 ⟨u40, J40, rfl, hJ40, R40, M⟩
    have hoJ40 := M.old
    have hS := (⟨((M.less hJ40 (fun _ _ => rfl)).drop 0), trivial⟩ : _ ∧ _)
    refine ⟨fun _ => hS, ?_⟩
    refine wa_e 12 rfl (by kernel_rfl) (e_app 0 M rfl R40 Tryz.underlying31 rfl rfl (by have h1 := take_flat_len (nxB_len l) (strs l k0) k2; have h2 := Nat.mul_le_mul h64 hl; rw [hnx4, List.length_append, List.length_map, List.length_take]; show (_ + 1) * 16 ≤ _; omega)) rfl rfl ?_
    rintro _ w7 ⟨u41, rfl, M⟩
    try simp only [sC0, sCS] at M
    have hS := (⟨((M.less hJ40 (fun _ _ => rfl)).drop 0), trivial⟩ : _ ∧ _)
    refine ⟨fun _ => hS, ?_⟩
    replace M := M.less hJ40 (fun _ _ => rfl)
    refine wa_q 13 rfl (by kernel_rfl) (q_assign rfl) hS rfl rfl ?_
    refine wa_done (by kernel_rfl) ?_
    refine wc_region ?_
    refine wl_mv M rfl rfl ?_
    refine wl_m M (q_add rfl rfl (IntWalk.i64_in _ (by omega))) rfl rfl ?_
    refine wl_as M rfl rfl ?_
    refine wl_nil ?_
    refine ⟨(k4 + 1, u41, l_16_4 ++ [(strL x2) ++ (Utf8.encode x4)]), ?_, ⟨(by omega), (by rw [take_snoc hx4, List.map_append, ← List.append_assoc, ← hnx4]; rfl), M⟩, ⟨rfl, rfl, trivial⟩, unw_look rfl unw_base⟩
    show l.length - (k4 + 1) < l.length - k4
    omega
   have hke4 : k4 = l.length := by omega
   rw [hke4, List.take_length] at hnx4
   refine wc_exit rfl ?_
   refine wc_region ?_
   refine wl_mv M rfl rfl ?_
   refine wl_m M (q_add rfl rfl (IntWalk.i64_in _ (by omega))) rfl rfl ?_
   refine wl_as M rfl rfl ?_
   refine wl_nil ?_
   refine ⟨(k2 + 1, u_16_4, l_16_4), ?_, ⟨(by omega), (by rw [take_flat hx2]; exact hnx4), M⟩, ⟨rfl, rfl, trivial⟩, unw_look rfl (unw_hav rfl (unw_look rfl unw_base))⟩
   show (strs l k0).length - (k2 + 1) < (strs l k0).length - k2
   omega
  have hke2 : k2 = (strs l k0).length := by omega
  rw [hke2, List.take_length] at hnx
  refine wc_exit rfl ?_
  refine wc_region ?_
  refine wl_mv M rfl rfl ?_
  refine wl_as M rfl rfl ?_
  refine wl_nil ?_
  refine wc_region ?_
  refine wl_mv M rfl rfl ?_
  refine wl_m M (q_add rfl rfl (IntWalk.i64_in _ (by omega))) rfl rfl ?_
  refine wl_as M rfl rfl ?_
  refine wl_nil ?_
  replace M := M.drop 1
  refine ⟨(k0 + 1, u_16_2, l_16_2), ?_, ⟨(by omega), (by rw [strs_map, hnx]), M⟩, ⟨rfl, rfl, trivial⟩, unw_look rfl (unw_hav rfl (unw_look rfl unw_base))⟩
  show n - (k0 + 1) < n - k0
  omega
 have hke0 : k0 = n := by omega
 rw [hke0] at hs
 refine wc_exit rfl ?_
 refine wc_seq ?_
 refine wc_region ?_
 refine wl_mv M rfl rfl ?_
 refine wl_as M rfl rfl ?_
 refine wl_nil ?_
 refine wc_ret ?_
 obtain ⟨K1, M, hK1, Rk1⟩ := M.frzRow 0 rfl
 rw [hs] at Rk1
 exact out1 rfl rfl ⟨_, K1, rfl, (M.grow : Grow w I _ K1), Rk1⟩
theorem texts3_c {xs ys : List ByteArray} {u1 u2 : SV} {I : Heap} {w : World} (hI : hle I (hp w)) (R1 : rdSl EStr I (sv u1) xs) (R2 : rdSl EStr I (sv u2) ys) : Calls A 14 #[sv u1, sv u2] w (Ret w I fun r _ => r = .bool (decide (xs = ys))) := by
 have hll1 := R1.len_le
 have M := Mem.start hI
 refine enter Tryz.func14 rfl 26 Tryz.ntmps14 [_, _] rfl ?_
 refine wc_seq ?_
 refine wc_region ?_
 refine wl_as M rfl rfl ?_
 refine wl_nil ?_
 refine wc_seq ?_
 refine wc_seq ?_
 refine wc_region ?_
 refine wl_mv M rfl rfl ?_
 refine wl_m M (q_lenR R1 Tryz.underlying31 rfl) rfl rfl ?_
 refine wl_mv M rfl rfl ?_
 refine wl_m M (q_lenR R2 Tryz.underlying31 rfl) rfl rfl ?_
 refine wl_m M (q_neq rfl rfl) rfl rfl ?_
 refine wl_nil ?_
 refine wc_cond rfl (fun ht10 => ?_) (fun ht10 => ?_)
 ·refine wc_seq ?_
  refine wc_region ?_
  refine wl_as M rfl rfl ?_
  refine wl_nil ?_
  refine wc_ret ?_
  exact out1 rfl rfl ⟨_, _, rfl, M.grow, by rw [decide_eq_false (fun e => nd_t ht10 (by rw [e]))]⟩
 have hlen : (xs.length : Int) = ys.length := nd_f ht10
 refine wc_skip ?_
 refine wc_seq ?_
 refine wc_seq ?_
 refine wc_region ?_
 refine wl_as M rfl rfl ?_
 refine wl_nil ?_
 refine wc_block ?_
 refine wc_loop (α := Nat) [4, 5, 11, 12, 13, 14, 15, 16, 17, 18, 19, 20, 21, 22, 23, 24, 25] (fun (k0 : Nat) => [(5, .int .i64 (k0 : Int))])
   (fun (k0 : Nat) w' => (k0 ≤ xs.length) ∧ (xs.take k0 = ys.take k0) ∧ Mem w I I ([]) w')
   (fun (k0 : Nat) => xs.length - k0) (0) ⟨rfl, trivial⟩ ?_ ?_
 ·refine ⟨Nat.zero_le _, rfl, ?_⟩
  exact M
 rintro k0 jj0 w1 ⟨hk0, he, M⟩
 refine wc_seq ?_
 refine wc_seq ?_
 refine wc_region ?_
 refine wl_mv M rfl rfl ?_
 refine wl_mv M rfl rfl ?_
 refine wl_m M (q_lenR R1 Tryz.underlying31 rfl) rfl rfl ?_
 refine wl_m M (q_lss rfl rfl) rfl rfl ?_
 refine wl_nil ?_
 refine wc_dec rfl (fun ht14 => ?_) (fun ht14 => ?_)
 ·obtain ⟨x0, hx0⟩ : ∃ x_, xs[k0]? = some x_ := ⟨_, List.getElem?_eq_getElem (by omega)⟩
  have hll0 := (R1).len_le
  obtain ⟨y0, hy0⟩ : ∃ y, ys[k0]? = some y := ⟨_, List.getElem?_eq_getElem (by omega)⟩
  refine wc_skip ?_
  refine wc_seq ?_
  refine wc_block ?_
  refine wc_seq ?_
  refine wc_draws (fun w' => Mem w I I ([]) w' ∧ True) [] fol ?_
  replace M := M.drew
  have hS := (⟨M, trivial⟩ : _ ∧ _)
  refine wa_q 0 rfl (by kernel_rfl) (q_move rfl) hS rfl rfl ?_
  refine wa_q 1 rfl (by kernel_rfl) (q_move rfl) hS rfl rfl ?_
  refine wa_ixS (j := k0) 2 hS (fun _ h => R1.mono h.1.imm) rfl (by kernel_rfl) Tryz.underlying31 rfl (ixe (by omega)) hx0 rfl (fun b19 o19 p19 => ?_)
  refine wa_q 3 rfl (by kernel_rfl) (q_ldp p19 rfl rfl) hS rfl rfl ?_
  refine wa_q 4 rfl (by kernel_rfl) (q_move rfl) hS rfl rfl ?_
  refine wa_q 5 rfl (by kernel_rfl) (q_move rfl) hS rfl rfl ?_
  refine wa_ixS (j := k0) 6 hS (fun _ h => R2.mono h.1.imm) rfl (by kernel_rfl) Tryz.underlying31 rfl (ixe (by omega)) hy0 rfl (fun b23 o23 p23 => ?_)
  refine wa_q 7 rfl (by kernel_rfl) (q_ldp p23 rfl rfl) hS rfl rfl ?_
  refine wa_q 8 rfl (by kernel_rfl) (q_neqS rfl rfl) hS rfl rfl ?_
  refine wa_done (by kernel_rfl) ?_
  refine wc_cond rfl (fun ht25 => ?_) (fun ht25 => ?_)
  ·refine wc_seq ?_
   refine wc_region ?_
   refine wl_as M rfl rfl ?_
   refine wl_nil ?_
   refine wc_ret ?_
   exact out1 rfl rfl ⟨_, _, rfl, M.grow, by rw [decide_eq_false (fun e => nd_t ht25 (by subst e; rw [hx0] at hy0; exact Option.some.inj hy0))]⟩
  refine wc_skip ?_
  refine wc_region ?_
  refine wl_mv M rfl rfl ?_
  refine wl_m M (q_add rfl rfl (IntWalk.i64_in _ (by omega))) rfl rfl ?_
  refine wl_as M rfl rfl ?_
  refine wl_nil ?_
  refine ⟨(k0 + 1), ?_, ⟨(by omega), (by rw [take_snoc hx0, take_snoc hy0, he, nd_f ht25]), M⟩, ⟨rfl, trivial⟩, unw_look rfl unw_base⟩
  show xs.length - (k0 + 1) < xs.length - k0
  omega
 have hke0 : k0 = xs.length := by omega
 rw [hke0, List.take_length, show xs.length = ys.length by omega, List.take_length] at he
 refine wc_exit rfl ?_
 refine wc_seq ?_
 refine wc_region ?_
 refine wl_as M rfl rfl ?_
 refine wl_nil ?_
 refine wc_ret ?_
 exact out1 rfl rfl ⟨_, _, rfl, M.grow, by rw [decide_eq_true he]⟩
end Go.Proofs.YtmjieefhjmiagaaGreatDoor.G
