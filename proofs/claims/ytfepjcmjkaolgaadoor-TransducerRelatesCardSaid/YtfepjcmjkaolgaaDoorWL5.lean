/- Walks of the program's functions. -/
import Derived.Test.YtfepjcmjkaolgaaDoorWSj
import Derived.Test.YtfepjcmjkaolgaaDoorWR
import Derived.Test.YtfepjcmjkaolgaaDoorGRl3
import Derived.Test.YtfepjcmjkaolgaaDoorGThr
import Derived.Test.YtfepjcmjkaolgaaDoorGOpn
set_option linter.all false
namespace Go.Proofs.YtfepjcmjkaolgaaDoor.G
open Go Go.RowKit
theorem after3_c {l : List Int} {i : Nat} (r : Int) (hi : i ≤ l.length) (hl : l.length ≤ 4096) {u : SV} {I : Heap} {w : World} (hI : hle I (hp w)) (R1 : rdSl ERune I (sv u) l) :
    Calls A 23 #[sv u, .int .i64 (i : Int), .int .i32 r] w (Ret w I fun v _ => v = .tuple #[.int .i64 (eatK i r), .bool (fitB l (i : Int) r)]) := by
 have M := Mem.start hI
 refine enter Tryd.func23 rfl 25 Tryd.ntmps23 [_, _, _] rfl ?_
 refine wc_seq ?_
 refine wc_region ?_
 refine wl_as M rfl rfl ?_
 refine wl_as M rfl rfl ?_
 refine wl_nil ?_
 refine wc_seq ?_
 refine wc_seq ?_
 refine wc_region ?_
 refine wl_mv M rfl rfl ?_
 refine wl_m M (q_eql rfl rfl) rfl rfl ?_
 refine wl_nil ?_
 refine wc_dec rfl (fun ht9 => ?_) (fun ht9 => ?_)
 ·refine wc_seq ?_
  refine wc_region ?_
  refine wl_mv M rfl rfl ?_
  refine wl_as M rfl rfl ?_
  refine wl_as M rfl rfl ?_
  refine wl_nil ?_
  refine wc_ret ?_
  exact out2 rfl rfl rfl ⟨_, _, rfl, M.grow, by rw [eatK_eq ht9, fit_eps0 ht9]⟩
 refine wc_skip ?_
 refine wc_seq ?_
 refine wc_join (α := Unit) [6, 7, 11, 12, 13, 14, 15, 16, 17, 18, 19, 20, 21, 22, 23, 24] (fun _ => [(6, .int .i64 ((i : Int) + 1)), (7, .bool ((decide ((i : Int) < (l.length : Int))) && (decide ((l.getD i 0) = r))))]) (fun _ w' => Mem w I I ([]) w') ?_ ?_
 ·refine wc_draws (fun w' => Mem w I I ([]) w' ∧ True) [] fol ?_
  replace M := M.drew
  have hS := (⟨M, trivial⟩ : _ ∧ _)
  refine wa_q 0 rfl (by kernel_rfl) (q_move rfl) hS rfl rfl ?_
  refine wa_q 1 rfl (by kernel_rfl) (q_add rfl rfl (IntWalk.i64_in _ (by omega))) hS rfl rfl ?_
  refine wa_q 2 rfl (by kernel_rfl) (q_move rfl) hS rfl rfl ?_
  refine wa_q 3 rfl (by kernel_rfl) (q_move rfl) hS rfl rfl ?_
  refine wa_q 4 rfl (by kernel_rfl) (q_lenR R1 Tryd.underlying43 rfl) hS rfl rfl ?_
  refine wa_q 5 rfl (by kernel_rfl) (q_lss rfl rfl) hS rfl rfl ?_
  refine wa_q 6 rfl (by kernel_rfl) (q_move rfl) hS rfl rfl ?_
  rcases Bool.eq_false_or_eq_true (decide ((i : Int) < (l.length : Int))) with hg17 | hg17
  ·refine wa_q 7 rfl (by kernel_rfl) (q_guard 6 rfl rfl rfl hg17 (q_move rfl)) hS rfl rfl ?_
   refine wa_q 8 rfl (by kernel_rfl) (q_guard 6 rfl rfl rfl hg17 (q_move rfl)) hS rfl rfl ?_
   have hb17 := of_decide_eq_true hg17
   refine wa_ixSG (j := i) 6 rfl rfl rfl hg17 9 hS (fun _ h => R1.mono h.1.imm) rfl (by kernel_rfl) Tryd.underlying43 rfl rfl (getD_at (d := 0) (by omega)) rfl (fun b20 o20 p20 => ?_)
   refine wa_q 10 rfl (by kernel_rfl) (q_guard 6 rfl rfl rfl hg17 (q_ldp p20 rfl rfl)) hS rfl rfl ?_
   refine wa_q 11 rfl (by kernel_rfl) (q_guard 6 rfl rfl rfl hg17 (q_move rfl)) hS rfl rfl ?_
   refine wa_q 12 rfl (by kernel_rfl) (q_guard 6 rfl rfl rfl hg17 (q_eql rfl rfl)) hS rfl rfl ?_
   refine wa_q 13 rfl (by kernel_rfl) (q_pickT rfl hg17 rfl) hS rfl rfl ?_
   refine wa_q 14 rfl (by kernel_rfl) (q_assign rfl) hS rfl rfl ?_
   refine wa_q 15 rfl (by kernel_rfl) (q_assign rfl) hS rfl rfl ?_
   refine wa_done (by kernel_rfl) ?_
   exact ⟨(), M, ⟨rfl, (show some (Value.bool (decide ((l.getD i 0) = r))) = some (Value.bool ((decide ((i : Int) < (l.length : Int))) && (decide ((l.getD i 0) = r)))) from by first | (simp only [hg17, Bool.true_or, Bool.false_or, Bool.true_and, Bool.false_and, Bool.or_true, Bool.or_false, Bool.and_true, Bool.and_false]; done) | simp_all), trivial⟩, unw_take 16 rfl rfl⟩
  refine wa_q 7 rfl (by kernel_rfl) (q_off 6 rfl rfl rfl hg17) hS rfl rfl ?_
  refine wa_q 8 rfl (by kernel_rfl) (q_off 6 rfl rfl rfl hg17) hS rfl rfl ?_
  refine wa_q 9 rfl (by kernel_rfl) (q_off 6 rfl rfl rfl hg17) hS rfl rfl ?_
  refine wa_q 10 rfl (by kernel_rfl) (q_off 6 rfl rfl rfl hg17) hS rfl rfl ?_
  refine wa_q 11 rfl (by kernel_rfl) (q_off 6 rfl rfl rfl hg17) hS rfl rfl ?_
  refine wa_q 12 rfl (by kernel_rfl) (q_off 6 rfl rfl rfl hg17) hS rfl rfl ?_
  refine wa_q 13 rfl (by kernel_rfl) (q_pickF rfl hg17 rfl) hS rfl rfl ?_
  refine wa_q 14 rfl (by kernel_rfl) (q_assign rfl) hS rfl rfl ?_
  refine wa_q 15 rfl (by kernel_rfl) (q_assign rfl) hS rfl rfl ?_
  refine wa_done (by kernel_rfl) ?_
  exact ⟨(), M, ⟨rfl, (show some (Value.bool false) = some (Value.bool ((decide ((i : Int) < (l.length : Int))) && (decide ((l.getD i 0) = r)))) from by first | (simp only [hg17, Bool.true_or, Bool.false_or, Bool.true_and, Bool.false_and, Bool.or_true, Bool.or_false, Bool.and_true, Bool.and_false]; done) | simp_all), trivial⟩, unw_take 16 rfl rfl⟩
 rintro _ jr3 w1 M
 refine wc_ret ?_
 exact out2 rfl rfl rfl ⟨_, _, rfl, M.grow, by rw [eatK_ne ht9, ← fit_get, decide_eq_false ht9, Bool.false_or]⟩
set_option maxRecDepth 4000 in
set_option maxHeartbeats 2000000 in
theorem relates3_c (t : Tra) (x z : ByteArray) (hx : x.size ≤ 12) (hz : z.size ≤ 12) {v1 : Value} {I : Heap} {w : World} (hI : hle I (hp w)) (hT : Tabs I) (R1 : t.rd I v1) :
    Calls A 7 #[v1, .string x, .string z] w (Ret w I fun r _ => r = .bool (relS t x z)) := by
 obtain ⟨fu1, au1, rfl, Rf1, Ra1⟩ := R1
 have M := Mem.start hI
 refine enter Tryd.func7 rfl 177 Tryd.ntmps7 [_, _, _] rfl ?_
 refine wc_seq ?_
 refine wc_region ?_
 refine wl_e (e_box M rfl) rfl rfl ?_
 rintro _ w1 ⟨b3, rfl, M⟩
 refine wl_as M rfl rfl ?_
 refine wl_nil ?_
 refine wc_seq ?_
 refine wc_region ?_
 refine wl_mv M rfl rfl ?_
 refine wl_e (e_callC M (runes3_c x (by omega) M.imm hT) Tryd.func21 rfl rfl) rfl rfl ?_
 rintro _ w2 ⟨J26, hJ26, ⟨u26, rfl, R26⟩, M⟩
 have hoJ26 := M.old
 refine wl_mv M rfl rfl ?_
 refine wl_m M (q_ext rfl rfl) rfl rfl ?_
 refine wl_m M (q_ext rfl rfl) rfl rfl ?_
 refine wl_as M rfl rfl ?_
 refine wl_as M rfl rfl ?_
 refine wl_nil ?_
 refine wc_seq ?_
 refine wc_region ?_
 refine wl_mv M rfl rfl ?_
 refine wl_e (e_callC M (runes3_c z (by omega) M.imm (hT.mono hJ26)) Tryd.func21 rfl rfl) rfl rfl ?_
 rintro _ w3 ⟨J31, hJ31, ⟨u31, rfl, R31⟩, M⟩
 have hoJ31 := M.old
 refine wl_mv M rfl rfl ?_
 refine wl_m M (q_ext rfl rfl) rfl rfl ?_
 refine wl_m M (q_ext rfl rfl) rfl rfl ?_
 refine wl_as M rfl rfl ?_
 refine wl_as M rfl rfl ?_
 refine wl_nil ?_
 refine wc_seq ?_
 refine wc_seq ?_
 refine wc_join (α := Unit) [34, 35, 36, 37, 38, 39, 40, 41, 42, 43, 44] (fun _ => [(44, .bool (((!(okR x)) || (!(okR z))) || (!(validT t))))]) (fun _ w' => Mem w I J31 (box b3 25 [.int .i64 t.states, .int .i64 t.start, sv fu1, sv au1] :: []) w') ?_ ?_
 ·refine wc_region ?_
  refine wl_mv M rfl rfl ?_
  refine wl_m M (q_not rfl) rfl rfl ?_
  refine wl_mv M rfl rfl ?_
  rcases Bool.eq_false_or_eq_true (!(okR x)) with hg36 | hg36
  ·refine wl_m M (q_off 2 rfl rfl rfl hg36) rfl rfl ?_
   refine wl_m M (q_off 2 rfl rfl rfl hg36) rfl rfl ?_
   refine wl_m M (q_pickT rfl hg36 rfl) rfl rfl ?_
   refine wl_mv M rfl rfl ?_
   refine wl_m M (q_off 6 rfl rfl rfl rfl) rfl rfl ?_
   refine wl_m M (q_off 6 rfl rfl rfl rfl) rfl rfl ?_
   refine wl_m M (q_off 6 rfl rfl rfl rfl) rfl rfl ?_
   refine wl_m M (q_pickT rfl rfl rfl) rfl rfl ?_
   refine wl_nil ?_
   exact ⟨(), M, ⟨(show some (Value.bool true) = some (Value.bool (((!(okR x)) || (!(okR z))) || (!(validT t)))) from by first | (simp only [hg36, Bool.true_or, Bool.false_or, Bool.true_and, Bool.false_and, Bool.or_true, Bool.or_false, Bool.and_true, Bool.and_false]; done) | simp_all), trivial⟩, unw_take 11 rfl rfl⟩
  refine wl_m M (q_guard 2 rfl rfl rfl hg36 (q_move rfl)) rfl rfl ?_
  refine wl_m M (q_guard 2 rfl rfl rfl hg36 (q_not rfl)) rfl rfl ?_
  refine wl_m M (q_pickF rfl hg36 rfl) rfl rfl ?_
  refine wl_mv M rfl rfl ?_
  rcases Bool.eq_false_or_eq_true (!(okR z)) with hg40 | hg40
  ·refine wl_m M (q_off 6 rfl rfl rfl hg40) rfl rfl ?_
   refine wl_m M (q_off 6 rfl rfl rfl hg40) rfl rfl ?_
   refine wl_m M (q_off 6 rfl rfl rfl hg40) rfl rfl ?_
   refine wl_m M (q_pickT rfl hg40 rfl) rfl rfl ?_
   refine wl_nil ?_
   exact ⟨(), M, ⟨(show some (Value.bool true) = some (Value.bool (((!(okR x)) || (!(okR z))) || (!(validT t)))) from by first | (simp only [hg36, hg40, Bool.true_or, Bool.false_or, Bool.true_and, Bool.false_and, Bool.or_true, Bool.or_false, Bool.and_true, Bool.and_false]; done) | simp_all), trivial⟩, unw_take 11 rfl rfl⟩
  refine wl_m M (q_guard 6 rfl rfl rfl hg40 (q_ldbA 0 Tryd.underlying25 rfl sz25 rfl rfl rfl rfl)) rfl rfl ?_
  refine wl_e (e_guard 6 rfl rfl rfl hg40 (e_callC M (valid3_c t M.imm ⟨_, _, rfl, ((Rf1.mono hJ26).mono hJ31), ((Ra1.mono hJ26).mono hJ31)⟩) Tryd.func22 rfl rfl)) rfl rfl ?_
  rintro _ w4 ⟨J42, hJ42, rfl, M⟩
  replace M := M.less hJ42 hoJ31
  refine wl_m M (q_guard 6 rfl rfl rfl hg40 (q_not rfl)) rfl rfl ?_
  refine wl_m M (q_pickF rfl hg40 rfl) rfl rfl ?_
  refine wl_nil ?_
  exact ⟨(), M, ⟨(show some (Value.bool (!(validT t))) = some (Value.bool (((!(okR x)) || (!(okR z))) || (!(validT t)))) from by first | (simp only [hg36, hg40, Bool.true_or, Bool.false_or, Bool.true_and, Bool.false_and, Bool.or_true, Bool.or_false, Bool.and_true, Bool.and_false]; done) | simp_all), trivial⟩, unw_take 11 rfl rfl⟩
 rintro _ jr3 w5 M
 refine wc_cond rfl (fun ht44 => ?_) (fun ht44 => ?_)
 ·refine wc_seq ?_
  refine wc_region ?_
  refine wl_as M rfl rfl ?_
  refine wl_nil ?_
  refine wc_ret ?_
  exact out1 rfl rfl ⟨_, _, rfl, M.grow, by rw [relS_bad3 ht44]⟩
 rw [Bool.or_eq_false_iff, Bool.or_eq_false_iff, Bool.not_eq_false', Bool.not_eq_false', Bool.not_eq_false'] at ht44
 obtain ⟨⟨hkx, hkz⟩, hv⟩ := ht44
 rw [runesR, if_pos hkx] at R26
 rw [runesR, if_pos hkz] at R31
 obtain ⟨N, ha, hrf⟩ := valid_rng hv
 have hr := ha.rng hrf
 have hst := ha.st
 have hN : N ≤ 262144 := by have := ha.le; omega
 have hal := ha.alen
 have hfl := valid_fl hv
 have hlx := runesL_le x
 have hlz := runesL_le z
 have hs0 : ((t.start.toNat : Nat) : Int) = t.start := Int.toNat_of_nonneg hr.start.1
 have hs1 : t.start.toNat < N := by have := hr.start; omega
 obtain ⟨hb1, hb2, hb3, hb4, hb5⟩ := pl_bound (w := (runesL x).length + 1) (h := (runesL z).length + 1) (i := 0) (j := 0) hs1 hN (by omega) (by omega) (by omega) (by omega)
 have hsl : t.start.toNat * ((runesL x).length + 1) * ((runesL z).length + 1) < N * ((runesL x).length + 1) * ((runesL z).length + 1) := by have := plI_lt (w := (runesL x).length + 1) (h := (runesL z).length + 1) (i := 0) (j := 0) hs1 (by omega) (by omega); simpa using this
 refine wc_skip ?_
 refine wc_seq ?_
 refine wc_region ?_
 refine wl_mv M rfl rfl ?_
 refine wl_m M (q_lenR (R26.mono hJ31) Tryd.underlying43 rfl) rfl rfl ?_
 refine wl_m M (q_add (z := (((runesL x).length + 1 : Nat) : Int)) rfl rfl (by rw [show ((runesL x).length : Int) + 1 = (((runesL x).length + 1 : Nat) : Int) by simp]; exact IntWalk.i64_in _ (by omega))) rfl rfl ?_
 refine wl_mv M rfl rfl ?_
 refine wl_m M (q_lenR R31 Tryd.underlying43 rfl) rfl rfl ?_
 refine wl_m M (q_add (z := (((runesL z).length + 1 : Nat) : Int)) rfl rfl (by rw [show ((runesL z).length : Int) + 1 = (((runesL z).length + 1 : Nat) : Int) by simp]; exact IntWalk.i64_in _ (by omega))) rfl rfl ?_
 refine wl_as M rfl rfl ?_
 refine wl_as M rfl rfl ?_
 refine wl_nil ?_
 refine wc_seq ?_
 refine wc_region ?_
 refine wl_m M (q_fa fo_25_0 rfl) rfl rfl ?_
 refine wl_m M (q_ldb 0 Tryd.underlying3 rfl rfl rfl rfl) rfl rfl ?_
 refine wl_mv M rfl rfl ?_
 refine wl_m M (q_mul (z := ((N * ((runesL x).length + 1) : Nat) : Int)) rfl rfl (by rw [show t.states * ((((runesL x).length + 1) : Nat) : Int) = ((N * ((runesL x).length + 1) : Nat) : Int) by rw [hst, ← Int.natCast_mul]]; exact IntWalk.i64_in _ (by omega))) rfl rfl ?_
 refine wl_mv M rfl rfl ?_
 refine wl_m M (q_mul (z := ((N * ((runesL x).length + 1) * ((runesL z).length + 1) : Nat) : Int)) rfl rfl (by rw [show ((N * ((runesL x).length + 1) : Nat) : Int) * ((((runesL z).length + 1) : Nat) : Int) = ((N * ((runesL x).length + 1) * ((runesL z).length + 1) : Nat) : Int) by rw [← Int.natCast_mul]]; exact IntWalk.i64_in _ (by omega))) rfl rfl ?_
 refine wl_e (e_make (E := EBool) (zv := false) (m := (N * ((runesL x).length + 1) * ((runesL z).length + 1))) M Tryd.underlying53 z4 rfl rfl (by show _ * 1 ≤ _; omega)) rfl rfl ?_
 rintro _ w6 ⟨u57, rfl, M⟩
 refine wl_as M rfl rfl ?_
 refine wl_nil ?_
 refine wc_seq ?_
 refine wc_region ?_
 refine wl_mv M rfl rfl ?_
 refine wl_m M (q_fa fo_25_1 rfl) rfl rfl ?_
 refine wl_m M (q_ldb 1 Tryd.underlying3 rfl rfl rfl rfl) rfl rfl ?_
 refine wl_mv M rfl rfl ?_
 refine wl_m M (q_mul (z := ((t.start.toNat * ((runesL x).length + 1) : Nat) : Int)) rfl rfl (by rw [show t.start * ((((runesL x).length + 1) : Nat) : Int) = ((t.start.toNat * ((runesL x).length + 1) : Nat) : Int) by rw [Int.natCast_mul, hs0]]; exact IntWalk.i64_in _ (by omega))) rfl rfl ?_
 refine wl_mv M rfl rfl ?_
 refine wl_m M (q_mul (z := ((t.start.toNat * ((runesL x).length + 1) * ((runesL z).length + 1) : Nat) : Int)) rfl rfl (by rw [show ((t.start.toNat * ((runesL x).length + 1) : Nat) : Int) * ((((runesL z).length + 1) : Nat) : Int) = ((t.start.toNat * ((runesL x).length + 1) * ((runesL z).length + 1) : Nat) : Int) by rw [← Int.natCast_mul]]; exact IntWalk.i64_in _ (by omega))) rfl rfl ?_
 refine wl_ixw (j := (t.start.toNat * ((runesL x).length + 1) * ((runesL z).length + 1))) 0 M rfl Tryd.underlying53 rfl rfl (by rw [List.length_replicate]; exact hsl) rfl (fun b65 o65 p65 => ?_)
 refine wl_e0 (e_str (u := true) 0 M rfl rfl rfl p65 (by rw [List.length_replicate]; exact hsl) rfl) rfl ?_
 intro _ w7 M
 try simp only [sC0, sCS] at M
 refine wl_nil ?_
 refine wc_seq ?_
 refine wc_seq ?_
 refine wc_region ?_
 refine wl_as M rfl rfl ?_
 refine wl_nil ?_
 refine wc_block ?_
 refine wc_loop (α := Bool × (List Bool)) [14, 15, 16, 17, 18, 19, 20, 21, 22, 66, 67, 68, 69, 70, 71, 72, 73, 74, 75, 76, 77, 78, 79, 80, 81, 82, 83, 84, 85, 86, 87, 88, 89, 90, 91, 92, 93, 94, 95, 96, 97, 98, 99, 100, 101, 102, 103, 104, 105, 106, 107, 108, 109, 110, 111, 112, 113, 114, 115, 116, 117, 118, 119, 120, 121, 122, 123, 124, 125, 126, 127, 128, 129, 130, 131, 132, 133, 134, 135, 136, 137, 138, 139, 140, 141, 142, 143, 144, 145, 146, 147, 148, 149, 150, 151] (fun ((ag0, l_57_0) : Bool × (List Bool)) => [(14, .bool ag0)])
   (fun ((ag0, l_57_0) : Bool × (List Bool)) w' => (l_57_0.length = N * ((runesL x).length + 1) * ((runesL z).length + 1) ∧ (∀ s, on l_57_0 s → plR t (runesL x) (runesL z) ((runesL x).length + 1) ((runesL z).length + 1) s) ∧ (∀ s, (· = t.start.toNat * ((runesL x).length + 1) * ((runesL z).length + 1)) s → on l_57_0 s)) ∧ (ag0 = false → ∀ e ∈ t.arcs.flatMap (prI (runesL x) (runesL z) ((runesL x).length + 1) ((runesL z).length + 1)), on l_57_0 e.1 → on l_57_0 e.2) ∧ Mem w I J31 (row EBool (sv u57) l_57_0 :: box b3 25 [.int .i64 t.states, .int .i64 t.start, sv fu1, sv au1] :: []) w')
   (fun ((ag0, l_57_0) : Bool × (List Bool)) => 2 * (l_57_0.count false) + ag0.toNat) (true, (List.replicate (N * ((runesL x).length + 1) * ((runesL z).length + 1)) false).set (t.start.toNat * ((runesL x).length + 1) * ((runesL z).length + 1)) true) ⟨rfl, trivial⟩ ?_ ?_
 ·refine ⟨⟨by simp, fun s hs => by rcases (on_set (by rw [List.length_replicate]; exact hsl)).1 hs with rfl | h; exact ⟨t.start.toNat, 0, 0, .base (by rw [hs0]; rfl), by simp⟩; exact absurd h on_rep, fun s hs => (on_set (by rw [List.length_replicate]; exact hsl)).2 (.inl hs)⟩, nofun, ?_⟩
  exact M
 rintro ⟨ag0, l_57_0⟩ jj0 w8 ⟨h2, h3, M⟩
 have hoJ31 := M.old
 refine wc_seq ?_
 refine wc_seq ?_
 refine wc_region ?_
 refine wl_mv M rfl rfl ?_
 refine wl_nil ?_
 refine wc_cond rfl (fun ht66 => ?_) (fun ht66 => ?_)
 ·refine wc_skip ?_
  refine wc_block ?_
  refine wc_seq ?_
  refine wc_region ?_
  refine wl_as M rfl rfl ?_
  refine wl_nil ?_
  refine wc_seq ?_
  refine wc_region ?_
  refine wl_as M rfl rfl ?_
  refine wl_nil ?_
  refine wc_block ?_
  refine wc_loop (α := Nat × Bool × (List Bool)) [14, 15, 16, 17, 18, 19, 20, 21, 22, 67, 68, 69, 70, 71, 72, 73, 74, 75, 76, 77, 78, 79, 80, 81, 82, 83, 84, 85, 86, 87, 88, 89, 90, 91, 92, 93, 94, 95, 96, 97, 98, 99, 100, 101, 102, 103, 104, 105, 106, 107, 108, 109, 110, 111, 112, 113, 114, 115, 116, 117, 118, 119, 120, 121, 122, 123, 124, 125, 126, 127, 128, 129, 130, 131, 132, 133, 134, 135, 136, 137, 138, 139, 140, 141, 142, 143, 144, 145, 146, 147, 148, 149, 150, 151] (fun ((k2, ag2, l_57_2) : Nat × Bool × (List Bool)) => [(14, .bool ag2), (15, .int .i64 (k2 : Int))])
    (fun ((k2, ag2, l_57_2) : Nat × Bool × (List Bool)) w' => (k2 ≤ t.arcs.length) ∧ (PassN (plR t (runesL x) (runesL z) ((runesL x).length + 1) ((runesL z).length + 1)) (· = t.start.toNat * ((runesL x).length + 1) * ((runesL z).length + 1)) (N * ((runesL x).length + 1) * ((runesL z).length + 1)) l_57_0 ((t.arcs.take k2).flatMap (prI (runesL x) (runesL z) ((runesL x).length + 1) ((runesL z).length + 1))) l_57_2 ag2) ∧ Mem w I J31 (row EBool (sv u57) l_57_2 :: box b3 25 [.int .i64 t.states, .int .i64 t.start, sv fu1, sv au1] :: []) w')
    (fun ((k2, ag2, l_57_2) : Nat × Bool × (List Bool)) => t.arcs.length - k2) (0, false, l_57_0) ⟨rfl, rfl, trivial⟩ ?_ ?_
  ·refine ⟨Nat.zero_le _, PassN.start h2.1 h2.2.1 h2.2.2, ?_⟩
   exact M
  rintro ⟨k2, ag2, l_57_2⟩ jj2 w9 ⟨hk2, hp, M⟩
  have hoJ31 := M.old
  refine wc_seq ?_
  refine wc_seq ?_
  refine wc_region ?_
  refine wl_mv M rfl rfl ?_
  refine wl_m M (q_fa fo_25_3 rfl) rfl rfl ?_
  refine wl_m M (q_ldb 1 Tryd.underlying23 rfl rfl rfl rfl) rfl rfl ?_
  refine wl_m M (q_lenR ((Ra1.mono hJ26).mono hJ31) Tryd.underlying23 rfl) rfl rfl ?_
  refine wl_m M (q_lss rfl rfl) rfl rfl ?_
  refine wl_nil ?_
  refine wc_dec rfl (fun ht71 => ?_) (fun ht71 => ?_)
  ·obtain ⟨x2, hx2⟩ : ∃ x_, t.arcs[k2]? = some x_ := ⟨_, List.getElem?_eq_getElem (by omega)⟩
   have hx2r := hr.arcs x2 (List.mem_of_getElem? hx2)
   have hsr : ((x2.src.toNat : Nat) : Int) = x2.src := Int.toNat_of_nonneg hx2r.1.1
   have hdr : ((x2.dst.toNat : Nat) : Int) = x2.dst := Int.toNat_of_nonneg hx2r.2.1
   have hs2 : x2.src.toNat < N := by omega
   have hd1 : x2.dst.toNat < N := by omega
   refine wc_skip ?_
   refine wc_seq ?_
   refine wc_block ?_
   refine wc_seq ?_
   refine wc_region ?_
   refine wl_m M (q_fa fo_25_3 rfl) rfl rfl ?_
   refine wl_m M (q_ldb 1 Tryd.underlying23 rfl rfl rfl rfl) rfl rfl ?_
   refine wl_mv M rfl rfl ?_
   refine wl_ix (j := k2) M ((Ra1.mono hJ26).mono hJ31) Tryd.underlying23 rfl rfl hx2 rfl (fun b77 o77 p77 => ?_)
   refine wl_m M (q_ldp p77 rfl rfl) rfl rfl ?_
   refine wl_e (e_alloc M z30) rfl rfl ?_
   rintro _ w10 ⟨b16, rfl, M⟩
   refine wl_e0 (e_stW 0 M rfl rfl rfl sz30 rfl rfl) rfl ?_
   intro _ w11 M
   try simp only [sC0, sCS] at M
   refine wl_nil ?_
   refine wc_seq ?_
   refine wc_region ?_
   refine wl_as M rfl rfl ?_
   refine wl_nil ?_
   refine wc_block ?_
   refine wc_loop (α := Nat × Bool × (List Bool)) [14, 17, 18, 19, 20, 21, 22, 79, 80, 81, 82, 83, 84, 85, 86, 87, 88, 89, 90, 91, 92, 93, 94, 95, 96, 97, 98, 99, 100, 101, 102, 103, 104, 105, 106, 107, 108, 109, 110, 111, 112, 113, 114, 115, 116, 117, 118, 119, 120, 121, 122, 123, 124, 125, 126, 127, 128, 129, 130, 131, 132, 133, 134, 135, 136, 137, 138, 139, 140, 141, 142, 143, 144, 145, 146, 147, 148, 149, 150, 151] (fun ((k4, ag4, l_57_4) : Nat × Bool × (List Bool)) => [(14, .bool ag4), (17, .int .i64 (k4 : Int))])
     (fun ((k4, ag4, l_57_4) : Nat × Bool × (List Bool)) w' => (k4 ≤ ((runesL x).length + 1)) ∧ (PassN (plR t (runesL x) (runesL z) ((runesL x).length + 1) ((runesL z).length + 1)) (· = t.start.toNat * ((runesL x).length + 1) * ((runesL z).length + 1)) (N * ((runesL x).length + 1) * ((runesL z).length + 1)) l_57_0 ((t.arcs.take k2).flatMap (prI (runesL x) (runesL z) ((runesL x).length + 1) ((runesL z).length + 1)) ++ (List.range k4).flatMap (prJ (runesL x) (runesL z) ((runesL x).length + 1) ((runesL z).length + 1) x2)) l_57_4 ag4) ∧ Mem w I J31 (box b16 30 [.int .i64 x2.src, .int .i64 x2.dst, .int .i32 x2.inp, .int .i32 x2.out] :: row EBool (sv u57) l_57_4 :: box b3 25 [.int .i64 t.states, .int .i64 t.start, sv fu1, sv au1] :: []) w')
     (fun ((k4, ag4, l_57_4) : Nat × Bool × (List Bool)) => ((runesL x).length + 1) - k4) (0, ag2, l_57_2) ⟨rfl, rfl, trivial⟩ ?_ ?_
   ·refine ⟨Nat.zero_le _, (by simpa using hp), ?_⟩
    exact M
   rintro ⟨k4, ag4, l_57_4⟩ jj4 w12 ⟨hk4, hp4, M⟩
   have hoJ31 := M.old
   refine wc_seq ?_
   refine wc_seq ?_
   refine wc_region ?_
   refine wl_mv M rfl rfl ?_
   refine wl_mv M rfl rfl ?_
   refine wl_m M (q_lss rfl rfl) rfl rfl ?_
   refine wl_nil ?_
   refine wc_dec rfl (fun ht81 => ?_) (fun ht81 => ?_)
   ·refine wc_skip ?_
    refine wc_seq ?_
    refine wc_block ?_
    refine wc_seq ?_
    refine wc_region ?_
    refine wl_as M rfl rfl ?_
    refine wl_nil ?_
    refine wc_block ?_
    refine wc_loop (α := Nat × Bool × (List Bool)) [14, 18, 19, 20, 21, 22, 84, 85, 86, 87, 88, 89, 90, 91, 92, 93, 94, 95, 96, 97, 98, 99, 100, 101, 102, 103, 104, 105, 106, 107, 108, 109, 110, 111, 112, 113, 114, 115, 116, 117, 118, 119, 120, 121, 122, 123, 124, 125, 126, 127, 128, 129, 130, 131, 132, 133, 134, 135, 136, 137, 138, 139, 140, 141, 142, 143, 144, 145, 146, 147, 148, 149, 150, 151] (fun ((k6, ag6, l_57_6) : Nat × Bool × (List Bool)) => [(14, .bool ag6), (18, .int .i64 (k6 : Int))])
      (fun ((k6, ag6, l_57_6) : Nat × Bool × (List Bool)) w' => (k6 ≤ ((runesL z).length + 1)) ∧ (PassN (plR t (runesL x) (runesL z) ((runesL x).length + 1) ((runesL z).length + 1)) (· = t.start.toNat * ((runesL x).length + 1) * ((runesL z).length + 1)) (N * ((runesL x).length + 1) * ((runesL z).length + 1)) l_57_0 ((t.arcs.take k2).flatMap (prI (runesL x) (runesL z) ((runesL x).length + 1) ((runesL z).length + 1)) ++ (List.range k4).flatMap (prJ (runesL x) (runesL z) ((runesL x).length + 1) ((runesL z).length + 1) x2) ++ (List.range k6).flatMap (prE (runesL x) (runesL z) ((runesL x).length + 1) ((runesL z).length + 1) x2 k4)) l_57_6 ag6) ∧ Mem w I J31 (box b16 30 [.int .i64 x2.src, .int .i64 x2.dst, .int .i32 x2.inp, .int .i32 x2.out] :: row EBool (sv u57) l_57_6 :: box b3 25 [.int .i64 t.states, .int .i64 t.start, sv fu1, sv au1] :: []) w')
      (fun ((k6, ag6, l_57_6) : Nat × Bool × (List Bool)) => ((runesL z).length + 1) - k6) (0, ag4, l_57_4) ⟨rfl, rfl, trivial⟩ ?_ ?_
    ·refine ⟨Nat.zero_le _, (by simpa using hp4), ?_⟩
     exact M
    rintro ⟨k6, ag6, l_57_6⟩ jj6 w13 ⟨hk6, hp6, M⟩
    have hoJ31 := M.old
    refine wc_seq ?_
    refine wc_seq ?_
    refine wc_region ?_
    refine wl_mv M rfl rfl ?_
    refine wl_mv M rfl rfl ?_
    refine wl_m M (q_lss rfl rfl) rfl rfl ?_
    refine wl_nil ?_
    refine wc_dec rfl (fun ht86 => ?_) (fun ht86 => ?_)
    ·have hj1 := plI_lt (w := (runesL x).length + 1) (h := (runesL z).length + 1) (i := k4) (j := k6) hs2 (by omega) (by omega)
     obtain ⟨hs3, hs4, _, _, _⟩ := pl_bound (w := (runesL x).length + 1) (h := (runesL z).length + 1) (i := k4) (j := k6) hs2 hN (by omega) (by omega) (by omega) (by omega)
     refine wc_skip ?_
     refine wc_seq ?_
     refine wc_block ?_
     refine wc_seq ?_
     refine wc_region ?_
     refine wl_mv M rfl rfl ?_
     refine wl_mv M rfl rfl ?_
     refine wl_m M (q_fa fo_30_2 rfl) rfl rfl ?_
     refine wl_m M (q_ldb 0 Tryd.underlying21 rfl rfl rfl rfl) rfl rfl ?_
     refine wl_e (e_callC M (after3_c x2.inp (i := k4) (by omega) (by omega) M.imm (R26.mono hJ31)) Tryd.func23 rfl rfl) rfl rfl ?_
     rintro _ w14 ⟨J94, hJ94, rfl, M⟩
     replace M := M.less hJ94 hoJ31
     refine wl_mv M rfl rfl ?_
     refine wl_m M (q_ext rfl rfl) rfl rfl ?_
     refine wl_m M (q_ext rfl rfl) rfl rfl ?_
     refine wl_as M rfl rfl ?_
     refine wl_as M rfl rfl ?_
     refine wl_nil ?_
     refine wc_seq ?_
     refine wc_region ?_
     refine wl_mv M rfl rfl ?_
     refine wl_mv M rfl rfl ?_
     refine wl_m M (q_fa fo_30_3 rfl) rfl rfl ?_
     refine wl_m M (q_ldb 0 Tryd.underlying21 rfl rfl rfl rfl) rfl rfl ?_
     refine wl_e (e_callC M (after3_c x2.out (i := k6) (by omega) (by omega) M.imm R31) Tryd.func23 rfl rfl) rfl rfl ?_
     rintro _ w15 ⟨J102, hJ102, rfl, M⟩
     replace M := M.less hJ102 hoJ31
     refine wl_mv M rfl rfl ?_
     refine wl_m M (q_ext rfl rfl) rfl rfl ?_
     refine wl_m M (q_ext rfl rfl) rfl rfl ?_
     refine wl_as M rfl rfl ?_
     refine wl_as M rfl rfl ?_
     refine wl_nil ?_
     refine wc_seq ?_
     refine wc_join (α := Unit) [105, 106, 107, 108, 109, 110, 111, 112, 113, 114, 115, 116, 117, 118, 119, 120, 121, 122, 123, 124, 125, 126, 127, 128, 129, 130, 131, 132, 133, 134, 135, 136, 137, 138, 139] (fun _ => [(139, .bool ((((l_57_6.getD ((x2.src.toNat * ((runesL x).length + 1) + k4) * ((runesL z).length + 1) + k6) false) && (fitB (runesL x) (k4 : Int) x2.inp)) && (fitB (runesL z) (k6 : Int) x2.out)) && (!(l_57_6.getD ((x2.dst.toNat * ((runesL x).length + 1) + (eatK k4 x2.inp).toNat) * ((runesL z).length + 1) + (eatK k6 x2.out).toNat) false))))]) (fun _ w' => Mem w I J31 (box b16 30 [.int .i64 x2.src, .int .i64 x2.dst, .int .i32 x2.inp, .int .i32 x2.out] :: row EBool (sv u57) l_57_6 :: box b3 25 [.int .i64 t.states, .int .i64 t.start, sv fu1, sv au1] :: []) w') ?_ ?_
     ·refine wc_region ?_
      refine wl_mv M rfl rfl ?_
      refine wl_m M (q_fa fo_30_0 rfl) rfl rfl ?_
      refine wl_m M (q_ldb 0 Tryd.underlying3 rfl rfl rfl rfl) rfl rfl ?_
      refine wl_mv M rfl rfl ?_
      refine wl_m M (q_mul (z := ((x2.src.toNat * ((runesL x).length + 1) : Nat) : Int)) rfl rfl (by rw [show x2.src * ((((runesL x).length + 1) : Nat) : Int) = ((x2.src.toNat * ((runesL x).length + 1) : Nat) : Int) by rw [Int.natCast_mul, hsr]]; exact IntWalk.i64_in _ (by omega))) rfl rfl ?_
      refine wl_mv M rfl rfl ?_
      refine wl_m M (q_add (z := ((x2.src.toNat * ((runesL x).length + 1) + k4 : Nat) : Int)) rfl rfl (by rw [show ((x2.src.toNat * ((runesL x).length + 1) : Nat) : Int) + (k4 : Int) = ((x2.src.toNat * ((runesL x).length + 1) + k4 : Nat) : Int) by rw [← Int.natCast_add]]; exact IntWalk.i64_in _ (by omega))) rfl rfl ?_
      refine wl_mv M rfl rfl ?_
      refine wl_m M (q_mul (z := (((x2.src.toNat * ((runesL x).length + 1) + k4) * ((runesL z).length + 1) : Nat) : Int)) rfl rfl (by rw [show ((x2.src.toNat * ((runesL x).length + 1) + k4 : Nat) : Int) * ((((runesL z).length + 1) : Nat) : Int) = (((x2.src.toNat * ((runesL x).length + 1) + k4) * ((runesL z).length + 1) : Nat) : Int) by rw [← Int.natCast_mul]]; exact IntWalk.i64_in _ (by omega))) rfl rfl ?_
      refine wl_mv M rfl rfl ?_
      refine wl_m M (q_add (z := (((x2.src.toNat * ((runesL x).length + 1) + k4) * ((runesL z).length + 1) + k6 : Nat) : Int)) rfl rfl (by rw [show (((x2.src.toNat * ((runesL x).length + 1) + k4) * ((runesL z).length + 1) : Nat) : Int) + (k6 : Int) = (((x2.src.toNat * ((runesL x).length + 1) + k4) * ((runesL z).length + 1) + k6 : Nat) : Int) by rw [← Int.natCast_add]]; exact IntWalk.i64_in _ (by omega))) rfl rfl ?_
      refine wl_ixr (j := ((x2.src.toNat * ((runesL x).length + 1) + k4) * ((runesL z).length + 1) + k6)) 1 M rfl Tryd.underlying53 rfl rfl (getD_at (d := false) (by rw [hp6.len]; exact hj1)) rfl (fun b116 o116 p116 => ?_)
      refine wl_m M (q_ldp p116 rfl rfl) rfl rfl ?_
      refine wl_mv M rfl rfl ?_
      rcases Bool.eq_false_or_eq_true ((l_57_6.getD ((x2.src.toNat * ((runesL x).length + 1) + k4) * ((runesL z).length + 1) + k6) false)) with hg118 | hg118
      ·refine wl_m M (q_guard 13 rfl rfl rfl hg118 (q_move rfl)) rfl rfl ?_
       refine wl_m M (q_pickT rfl hg118 rfl) rfl rfl ?_
       refine wl_mv M rfl rfl ?_
       rcases Bool.eq_false_or_eq_true (fitB (runesL x) (k4 : Int) x2.inp) with hg121 | hg121
       ·refine wl_m M (q_guard 16 rfl rfl rfl hg121 (q_move rfl)) rfl rfl ?_
        refine wl_m M (q_pickT rfl hg121 rfl) rfl rfl ?_
        refine wl_mv M rfl rfl ?_
        rcases Bool.eq_false_or_eq_true (fitB (runesL z) (k6 : Int) x2.out) with hg124 | hg124
        ·have hg74 : tgtB (runesL x) (runesL z) x2 k4 k6 = true := by rw [tgtB, hg121, hg124]; rfl
         obtain ⟨qi, qj, e1, e2, hq1, hq2, _⟩ := tgt_nat hg74 (show k4 ≤ (runesL x).length by omega) (show k6 ≤ (runesL z).length by omega)
         have hQI : (eatK k4 x2.inp).toNat ≤ (runesL x).length := by rw [e1, Int.toNat_natCast]; exact hq1
         have hQJ : (eatK k6 x2.out).toNat ≤ (runesL z).length := by rw [e2, Int.toNat_natCast]; exact hq2
         have hE1 : (((eatK k4 x2.inp).toNat : Nat) : Int) = eatK k4 x2.inp := Int.toNat_of_nonneg (by rw [e1]; omega)
         have hE2 : (((eatK k6 x2.out).toNat : Nat) : Int) = eatK k6 x2.out := Int.toNat_of_nonneg (by rw [e2]; omega)
         have hj2 := plI_lt (w := (runesL x).length + 1) (h := (runesL z).length + 1) (i := (eatK k4 x2.inp).toNat) (j := (eatK k6 x2.out).toNat) hd1 (by omega) (by omega)
         obtain ⟨hc1, hc2, hc3, _, _⟩ := pl_bound (w := (runesL x).length + 1) (h := (runesL z).length + 1) (i := (eatK k4 x2.inp).toNat) (j := (eatK k6 x2.out).toNat) hd1 hN (by omega) (by omega) (by omega) (by omega)
         refine wl_m M (q_guard 19 rfl rfl rfl hg124 (q_move rfl)) rfl rfl ?_
         refine wl_m M (q_guard 19 rfl rfl rfl hg124 (q_fa fo_30_1 rfl)) rfl rfl ?_
         refine wl_m M (q_guard 19 rfl rfl rfl hg124 (q_ldb 0 Tryd.underlying3 rfl rfl rfl rfl)) rfl rfl ?_
         refine wl_m M (q_guard 19 rfl rfl rfl hg124 (q_move rfl)) rfl rfl ?_
         refine wl_m M (q_guard 19 rfl rfl rfl hg124 (q_mul (z := ((x2.dst.toNat * ((runesL x).length + 1) : Nat) : Int)) rfl rfl (by rw [show x2.dst * ((((runesL x).length + 1) : Nat) : Int) = ((x2.dst.toNat * ((runesL x).length + 1) : Nat) : Int) by rw [Int.natCast_mul, hdr]]; exact IntWalk.i64_in _ (by omega)))) rfl rfl ?_
         refine wl_m M (q_guard 19 rfl rfl rfl hg124 (q_move rfl)) rfl rfl ?_
         refine wl_m M (q_guard 19 rfl rfl rfl hg124 (q_add (z := ((x2.dst.toNat * ((runesL x).length + 1) + (eatK k4 x2.inp).toNat : Nat) : Int)) rfl rfl (by rw [show ((x2.dst.toNat * ((runesL x).length + 1) : Nat) : Int) + eatK k4 x2.inp = ((x2.dst.toNat * ((runesL x).length + 1) + (eatK k4 x2.inp).toNat : Nat) : Int) by rw [Int.natCast_add, hE1]]; exact IntWalk.i64_in _ (by omega)))) rfl rfl ?_
         refine wl_m M (q_guard 19 rfl rfl rfl hg124 (q_move rfl)) rfl rfl ?_
         refine wl_m M (q_guard 19 rfl rfl rfl hg124 (q_mul (z := (((x2.dst.toNat * ((runesL x).length + 1) + (eatK k4 x2.inp).toNat) * ((runesL z).length + 1) : Nat) : Int)) rfl rfl (by rw [show ((x2.dst.toNat * ((runesL x).length + 1) + (eatK k4 x2.inp).toNat : Nat) : Int) * ((((runesL z).length + 1) : Nat) : Int) = (((x2.dst.toNat * ((runesL x).length + 1) + (eatK k4 x2.inp).toNat) * ((runesL z).length + 1) : Nat) : Int) by rw [← Int.natCast_mul]]; exact IntWalk.i64_in _ (by omega)))) rfl rfl ?_
         refine wl_m M (q_guard 19 rfl rfl rfl hg124 (q_move rfl)) rfl rfl ?_
         refine wl_m M (q_guard 19 rfl rfl rfl hg124 (q_add (z := (((x2.dst.toNat * ((runesL x).length + 1) + (eatK k4 x2.inp).toNat) * ((runesL z).length + 1) + (eatK k6 x2.out).toNat : Nat) : Int)) rfl rfl (by rw [show (((x2.dst.toNat * ((runesL x).length + 1) + (eatK k4 x2.inp).toNat) * ((runesL z).length + 1) : Nat) : Int) + eatK k6 x2.out = (((x2.dst.toNat * ((runesL x).length + 1) + (eatK k4 x2.inp).toNat) * ((runesL z).length + 1) + (eatK k6 x2.out).toNat : Nat) : Int) by rw [Int.natCast_add, hE2]]; exact IntWalk.i64_in _ (by omega)))) rfl rfl ?_
         refine wl_ixrG (j := ((x2.dst.toNat * ((runesL x).length + 1) + (eatK k4 x2.inp).toNat) * ((runesL z).length + 1) + (eatK k6 x2.out).toNat)) 19 rfl rfl rfl hg124 1 M rfl Tryd.underlying53 rfl rfl (getD_at (d := false) (by rw [hp6.len]; exact hj2)) rfl (fun b136 o136 p136 => ?_)
         refine wl_m M (q_guard 19 rfl rfl rfl hg124 (q_ldp p136 rfl rfl)) rfl rfl ?_
         refine wl_m M (q_guard 19 rfl rfl rfl hg124 (q_not rfl)) rfl rfl ?_
         refine wl_m M (q_pickT rfl hg124 rfl) rfl rfl ?_
         refine wl_nil ?_
         exact ⟨(), M, ⟨(show some (Value.bool (!(l_57_6.getD ((x2.dst.toNat * ((runesL x).length + 1) + (eatK k4 x2.inp).toNat) * ((runesL z).length + 1) + (eatK k6 x2.out).toNat) false))) = some (Value.bool ((((l_57_6.getD ((x2.src.toNat * ((runesL x).length + 1) + k4) * ((runesL z).length + 1) + k6) false) && (fitB (runesL x) (k4 : Int) x2.inp)) && (fitB (runesL z) (k6 : Int) x2.out)) && (!(l_57_6.getD ((x2.dst.toNat * ((runesL x).length + 1) + (eatK k4 x2.inp).toNat) * ((runesL z).length + 1) + (eatK k6 x2.out).toNat) false)))) from by first | (simp only [hg118, hg121, hg124, Bool.true_or, Bool.false_or, Bool.true_and, Bool.false_and, Bool.or_true, Bool.or_false, Bool.and_true, Bool.and_false]; done) | simp_all), trivial⟩, unw_take 35 rfl rfl⟩
        refine wl_m M (q_off 19 rfl rfl rfl hg124) rfl rfl ?_
        refine wl_m M (q_off 19 rfl rfl rfl hg124) rfl rfl ?_
        refine wl_m M (q_off 19 rfl rfl rfl hg124) rfl rfl ?_
        refine wl_m M (q_off 19 rfl rfl rfl hg124) rfl rfl ?_
        refine wl_m M (q_off 19 rfl rfl rfl hg124) rfl rfl ?_
        refine wl_m M (q_off 19 rfl rfl rfl hg124) rfl rfl ?_
        refine wl_m M (q_off 19 rfl rfl rfl hg124) rfl rfl ?_
        refine wl_m M (q_off 19 rfl rfl rfl hg124) rfl rfl ?_
        refine wl_m M (q_off 19 rfl rfl rfl hg124) rfl rfl ?_
        refine wl_m M (q_off 19 rfl rfl rfl hg124) rfl rfl ?_
        refine wl_m M (q_off 19 rfl rfl rfl hg124) rfl rfl ?_
        refine wl_m M (q_off 19 rfl rfl rfl hg124) rfl rfl ?_
        refine wl_m M (q_off 19 rfl rfl rfl hg124) rfl rfl ?_
        refine wl_m M (q_off 19 rfl rfl rfl hg124) rfl rfl ?_
        refine wl_m M (q_pickF rfl hg124 rfl) rfl rfl ?_
        refine wl_nil ?_
        exact ⟨(), M, ⟨(show some (Value.bool false) = some (Value.bool ((((l_57_6.getD ((x2.src.toNat * ((runesL x).length + 1) + k4) * ((runesL z).length + 1) + k6) false) && (fitB (runesL x) (k4 : Int) x2.inp)) && (fitB (runesL z) (k6 : Int) x2.out)) && (!(l_57_6.getD ((x2.dst.toNat * ((runesL x).length + 1) + (eatK k4 x2.inp).toNat) * ((runesL z).length + 1) + (eatK k6 x2.out).toNat) false)))) from by first | (simp only [hg118, hg121, hg124, Bool.true_or, Bool.false_or, Bool.true_and, Bool.false_and, Bool.or_true, Bool.or_false, Bool.and_true, Bool.and_false]; done) | simp_all), trivial⟩, unw_take 35 rfl rfl⟩
       refine wl_m M (q_off 16 rfl rfl rfl hg121) rfl rfl ?_
       refine wl_m M (q_pickF rfl hg121 rfl) rfl rfl ?_
       refine wl_mv M rfl rfl ?_
       refine wl_m M (q_off 19 rfl rfl rfl rfl) rfl rfl ?_
       refine wl_m M (q_off 19 rfl rfl rfl rfl) rfl rfl ?_
       refine wl_m M (q_off 19 rfl rfl rfl rfl) rfl rfl ?_
       refine wl_m M (q_off 19 rfl rfl rfl rfl) rfl rfl ?_
       refine wl_m M (q_off 19 rfl rfl rfl rfl) rfl rfl ?_
       refine wl_m M (q_off 19 rfl rfl rfl rfl) rfl rfl ?_
       refine wl_m M (q_off 19 rfl rfl rfl rfl) rfl rfl ?_
       refine wl_m M (q_off 19 rfl rfl rfl rfl) rfl rfl ?_
       refine wl_m M (q_off 19 rfl rfl rfl rfl) rfl rfl ?_
       refine wl_m M (q_off 19 rfl rfl rfl rfl) rfl rfl ?_
       refine wl_m M (q_off 19 rfl rfl rfl rfl) rfl rfl ?_
       refine wl_m M (q_off 19 rfl rfl rfl rfl) rfl rfl ?_
       refine wl_m M (q_off 19 rfl rfl rfl rfl) rfl rfl ?_
       refine wl_m M (q_off 19 rfl rfl rfl rfl) rfl rfl ?_
       refine wl_m M (q_pickF rfl rfl rfl) rfl rfl ?_
       refine wl_nil ?_
       exact ⟨(), M, ⟨(show some (Value.bool false) = some (Value.bool ((((l_57_6.getD ((x2.src.toNat * ((runesL x).length + 1) + k4) * ((runesL z).length + 1) + k6) false) && (fitB (runesL x) (k4 : Int) x2.inp)) && (fitB (runesL z) (k6 : Int) x2.out)) && (!(l_57_6.getD ((x2.dst.toNat * ((runesL x).length + 1) + (eatK k4 x2.inp).toNat) * ((runesL z).length + 1) + (eatK k6 x2.out).toNat) false)))) from by first | (simp only [hg118, hg121, Bool.true_or, Bool.false_or, Bool.true_and, Bool.false_and, Bool.or_true, Bool.or_false, Bool.and_true, Bool.and_false]; done) | simp_all), trivial⟩, unw_take 35 rfl rfl⟩
      refine wl_m M (q_off 13 rfl rfl rfl hg118) rfl rfl ?_
      refine wl_m M (q_pickF rfl hg118 rfl) rfl rfl ?_
      refine wl_mv M rfl rfl ?_
      refine wl_m M (q_off 16 rfl rfl rfl rfl) rfl rfl ?_
      refine wl_m M (q_pickF rfl rfl rfl) rfl rfl ?_
      refine wl_mv M rfl rfl ?_
      refine wl_m M (q_off 19 rfl rfl rfl rfl) rfl rfl ?_
      refine wl_m M (q_off 19 rfl rfl rfl rfl) rfl rfl ?_
      refine wl_m M (q_off 19 rfl rfl rfl rfl) rfl rfl ?_
      refine wl_m M (q_off 19 rfl rfl rfl rfl) rfl rfl ?_
      refine wl_m M (q_off 19 rfl rfl rfl rfl) rfl rfl ?_
      refine wl_m M (q_off 19 rfl rfl rfl rfl) rfl rfl ?_
      refine wl_m M (q_off 19 rfl rfl rfl rfl) rfl rfl ?_
      refine wl_m M (q_off 19 rfl rfl rfl rfl) rfl rfl ?_
      refine wl_m M (q_off 19 rfl rfl rfl rfl) rfl rfl ?_
      refine wl_m M (q_off 19 rfl rfl rfl rfl) rfl rfl ?_
      refine wl_m M (q_off 19 rfl rfl rfl rfl) rfl rfl ?_
      refine wl_m M (q_off 19 rfl rfl rfl rfl) rfl rfl ?_
      refine wl_m M (q_off 19 rfl rfl rfl rfl) rfl rfl ?_
      refine wl_m M (q_off 19 rfl rfl rfl rfl) rfl rfl ?_
      refine wl_m M (q_pickF rfl rfl rfl) rfl rfl ?_
      refine wl_nil ?_
      exact ⟨(), M, ⟨(show some (Value.bool false) = some (Value.bool ((((l_57_6.getD ((x2.src.toNat * ((runesL x).length + 1) + k4) * ((runesL z).length + 1) + k6) false) && (fitB (runesL x) (k4 : Int) x2.inp)) && (fitB (runesL z) (k6 : Int) x2.out)) && (!(l_57_6.getD ((x2.dst.toNat * ((runesL x).length + 1) + (eatK k4 x2.inp).toNat) * ((runesL z).length + 1) + (eatK k6 x2.out).toNat) false)))) from by first | (simp only [hg118, Bool.true_or, Bool.false_or, Bool.true_and, Bool.false_and, Bool.or_true, Bool.or_false, Bool.and_true, Bool.and_false]; done) | simp_all), trivial⟩, unw_take 35 rfl rfl⟩
     rintro _ jr23 w16 M
     refine wc_cond rfl (fun ht139 => ?_) (fun ht139 => ?_)
     ·simp only [Bool.and_eq_true, Bool.not_eq_true'] at ht139
      obtain ⟨⟨⟨hon0, hf1⟩, hf2⟩, hof0⟩ := ht139
      have hg74 : tgtB (runesL x) (runesL z) x2 k4 k6 = true := by rw [tgtB, hf1, hf2]; rfl
      obtain ⟨qi, qj, e1, e2, hq1, hq2, _⟩ := tgt_nat hg74 (show k4 ≤ (runesL x).length by omega) (show k6 ≤ (runesL z).length by omega)
      have hQI : (eatK k4 x2.inp).toNat ≤ (runesL x).length := by rw [e1, Int.toNat_natCast]; exact hq1
      have hQJ : (eatK k6 x2.out).toNat ≤ (runesL z).length := by rw [e2, Int.toNat_natCast]; exact hq2
      have hE1 : (((eatK k4 x2.inp).toNat : Nat) : Int) = eatK k4 x2.inp := Int.toNat_of_nonneg (by rw [e1]; omega)
      have hE2 : (((eatK k6 x2.out).toNat : Nat) : Int) = eatK k6 x2.out := Int.toNat_of_nonneg (by rw [e2]; omega)
      have hj2 := plI_lt (w := (runesL x).length + 1) (h := (runesL z).length + 1) (i := (eatK k4 x2.inp).toNat) (j := (eatK k6 x2.out).toNat) hd1 (by omega) (by omega)
      obtain ⟨hc1, hc2, hc3, _, _⟩ := pl_bound (w := (runesL x).length + 1) (h := (runesL z).length + 1) (i := (eatK k4 x2.inp).toNat) (j := (eatK k6 x2.out).toNat) hd1 hN (by omega) (by omega) (by omega) (by omega)
      have hon : on l_57_6 ((x2.src.toNat * ((runesL x).length + 1) + k4) * ((runesL z).length + 1) + k6) := by unfold on; rw [getD_at (d := false) (by rw [hp6.len]; exact hj1)]; exact congrArg some hon0
      have hoff : l_57_6[(x2.dst.toNat * ((runesL x).length + 1) + (eatK k4 x2.inp).toNat) * ((runesL z).length + 1) + (eatK k6 x2.out).toNat]? = some false := by rw [getD_at (d := false) (by rw [hp6.len]; exact hj2)]; exact congrArg some hof0
      have hstep : plR t (runesL x) (runesL z) ((runesL x).length + 1) ((runesL z).length + 1) ((x2.src.toNat * ((runesL x).length + 1) + k4) * ((runesL z).length + 1) + k6) → plR t (runesL x) (runesL z) ((runesL x).length + 1) ((runesL z).length + 1) ((x2.dst.toNat * ((runesL x).length + 1) + (eatK k4 x2.inp).toNat) * ((runesL z).length + 1) + (eatK k6 x2.out).toNat) := fun h => plR_step hr (List.mem_of_getElem? hx2) (i := k4) (j := k6) (by omega) (by omega) hg74 h
      refine wc_seq ?_
      refine wc_region ?_
      refine wl_mv M rfl rfl ?_
      refine wl_m M (q_fa fo_30_1 rfl) rfl rfl ?_
      refine wl_m M (q_ldb 0 Tryd.underlying3 rfl rfl rfl rfl) rfl rfl ?_
      refine wl_mv M rfl rfl ?_
      refine wl_m M (q_mul (z := ((x2.dst.toNat * ((runesL x).length + 1) : Nat) : Int)) rfl rfl (by rw [show x2.dst * ((((runesL x).length + 1) : Nat) : Int) = ((x2.dst.toNat * ((runesL x).length + 1) : Nat) : Int) by rw [Int.natCast_mul, hdr]]; exact IntWalk.i64_in _ (by omega))) rfl rfl ?_
      refine wl_mv M rfl rfl ?_
      refine wl_m M (q_add (z := ((x2.dst.toNat * ((runesL x).length + 1) + (eatK k4 x2.inp).toNat : Nat) : Int)) rfl rfl (by rw [show ((x2.dst.toNat * ((runesL x).length + 1) : Nat) : Int) + eatK k4 x2.inp = ((x2.dst.toNat * ((runesL x).length + 1) + (eatK k4 x2.inp).toNat : Nat) : Int) by rw [Int.natCast_add, hE1]]; exact IntWalk.i64_in _ (by omega))) rfl rfl ?_
      refine wl_mv M rfl rfl ?_
      refine wl_m M (q_mul (z := (((x2.dst.toNat * ((runesL x).length + 1) + (eatK k4 x2.inp).toNat) * ((runesL z).length + 1) : Nat) : Int)) rfl rfl (by rw [show ((x2.dst.toNat * ((runesL x).length + 1) + (eatK k4 x2.inp).toNat : Nat) : Int) * ((((runesL z).length + 1) : Nat) : Int) = (((x2.dst.toNat * ((runesL x).length + 1) + (eatK k4 x2.inp).toNat) * ((runesL z).length + 1) : Nat) : Int) by rw [← Int.natCast_mul]]; exact IntWalk.i64_in _ (by omega))) rfl rfl ?_
      refine wl_mv M rfl rfl ?_
      refine wl_m M (q_add (z := (((x2.dst.toNat * ((runesL x).length + 1) + (eatK k4 x2.inp).toNat) * ((runesL z).length + 1) + (eatK k6 x2.out).toNat : Nat) : Int)) rfl rfl (by rw [show (((x2.dst.toNat * ((runesL x).length + 1) + (eatK k4 x2.inp).toNat) * ((runesL z).length + 1) : Nat) : Int) + eatK k6 x2.out = (((x2.dst.toNat * ((runesL x).length + 1) + (eatK k4 x2.inp).toNat) * ((runesL z).length + 1) + (eatK k6 x2.out).toNat : Nat) : Int) by rw [Int.natCast_add, hE2]]; exact IntWalk.i64_in _ (by omega))) rfl rfl ?_
      refine wl_ixw (j := ((x2.dst.toNat * ((runesL x).length + 1) + (eatK k4 x2.inp).toNat) * ((runesL z).length + 1) + (eatK k6 x2.out).toNat)) 1 M rfl Tryd.underlying53 rfl rfl (by rw [hp6.len]; exact hj2) rfl (fun b151 o151 p151 => ?_)
      refine wl_e0 (e_str (u := true) 1 M rfl rfl rfl p151 (by rw [hp6.len]; exact hj2) rfl) rfl ?_
      intro _ w17 M
      try simp only [sC0, sCS] at M
      refine wl_nil ?_
      refine wc_region ?_
      refine wl_as M rfl rfl ?_
      refine wl_nil ?_
      refine wc_region ?_
      refine wl_mv M rfl rfl ?_
      refine wl_m M (q_add rfl rfl (IntWalk.i64_in _ (by omega))) rfl rfl ?_
      refine wl_as M rfl rfl ?_
      refine wl_nil ?_
      refine ⟨(k6 + 1, true, l_57_6.set ((x2.dst.toNat * ((runesL x).length + 1) + (eatK k4 x2.inp).toNat) * ((runesL z).length + 1) + (eatK k6 x2.out).toNat) true), ?_, ⟨(by omega), (hp6.hit _ hon hoff hstep), M⟩, ⟨rfl, rfl, trivial⟩, unw_look rfl (unw_hav rfl (unw_look rfl unw_base))⟩
      show ((runesL z).length + 1) - (k6 + 1) < ((runesL z).length + 1) - k6
      omega
     have hsk : ∀ e ∈ prE (runesL x) (runesL z) ((runesL x).length + 1) ((runesL z).length + 1) x2 k4 k6, on l_57_6 e.1 → on l_57_6 e.2 := by
       intro e he hon
       unfold prE at he
       split at he
       · rename_i hg74
         have hfb := Bool.and_eq_true_iff.1 hg74
         obtain ⟨qi, qj, e1, e2, hq1, hq2, _⟩ := tgt_nat hg74 (show k4 ≤ (runesL x).length by omega) (show k6 ≤ (runesL z).length by omega)
         have hQI : (eatK k4 x2.inp).toNat ≤ (runesL x).length := by rw [e1, Int.toNat_natCast]; exact hq1
         have hQJ : (eatK k6 x2.out).toNat ≤ (runesL z).length := by rw [e2, Int.toNat_natCast]; exact hq2
         have hE1 : (((eatK k4 x2.inp).toNat : Nat) : Int) = eatK k4 x2.inp := Int.toNat_of_nonneg (by rw [e1]; omega)
         have hE2 : (((eatK k6 x2.out).toNat : Nat) : Int) = eatK k6 x2.out := Int.toNat_of_nonneg (by rw [e2]; omega)
         have hj2 := plI_lt (w := (runesL x).length + 1) (h := (runesL z).length + 1) (i := (eatK k4 x2.inp).toNat) (j := (eatK k6 x2.out).toNat) hd1 (by omega) (by omega)
         obtain ⟨hc1, hc2, hc3, _, _⟩ := pl_bound (w := (runesL x).length + 1) (h := (runesL z).length + 1) (i := (eatK k4 x2.inp).toNat) (j := (eatK k6 x2.out).toNat) hd1 hN (by omega) (by omega) (by omega) (by omega)
         rw [List.mem_singleton.1 he] at hon ⊢
         simp only [] at hon ⊢
         have h1 : l_57_6.getD ((x2.src.toNat * ((runesL x).length + 1) + k4) * ((runesL z).length + 1) + k6) false = true := by unfold on at hon; rw [List.getD_eq_getElem?_getD, hon]; rfl
         simp only [hfb.1, hfb.2, h1, Bool.true_and, Bool.not_eq_false'] at ht139
         unfold on
         rw [getD_at (d := false) (by rw [hp6.len]; exact hj2)]
         exact congrArg some ht139
       · simp at he
     refine wc_skip ?_
     refine wc_region ?_
     refine wl_mv M rfl rfl ?_
     refine wl_m M (q_add rfl rfl (IntWalk.i64_in _ (by omega))) rfl rfl ?_
     refine wl_as M rfl rfl ?_
     refine wl_nil ?_
     refine ⟨(k6 + 1, ag6, l_57_6), ?_, ⟨(by omega), (by rw [range_flat, ← List.append_assoc]; exact hp6.skip _ hsk), M⟩, ⟨rfl, rfl, trivial⟩, unw_look rfl (unw_hav rfl (unw_look rfl unw_base))⟩
     show ((runesL z).length + 1) - (k6 + 1) < ((runesL z).length + 1) - k6
     omega
    have hke6 : k6 = ((runesL z).length + 1) := by omega
    refine wc_exit rfl ?_
    refine wc_region ?_
    refine wl_mv M rfl rfl ?_
    refine wl_m M (q_add rfl rfl (IntWalk.i64_in _ (by omega))) rfl rfl ?_
    refine wl_as M rfl rfl ?_
    refine wl_nil ?_
    refine ⟨(k4 + 1, ag6, l_57_6), ?_, ⟨(by omega), (by rw [range_flat, ← List.append_assoc]; rw [hke6] at hp6; exact hp6), M⟩, ⟨rfl, rfl, trivial⟩, unw_look rfl (unw_hav rfl (unw_look rfl unw_base))⟩
    show ((runesL x).length + 1) - (k4 + 1) < ((runesL x).length + 1) - k4
    omega
   have hke4 : k4 = ((runesL x).length + 1) := by omega
   refine wc_exit rfl ?_
   refine wc_region ?_
   refine wl_mv M rfl rfl ?_
   refine wl_m M (q_add rfl rfl (IntWalk.i64_in _ (by omega))) rfl rfl ?_
   refine wl_as M rfl rfl ?_
   refine wl_nil ?_
   replace M := M.drop 0
   refine ⟨(k2 + 1, ag4, l_57_4), ?_, ⟨(by omega), (by rw [take_flat hx2]; rw [hke4] at hp4; exact hp4), M⟩, ⟨rfl, rfl, trivial⟩, unw_look rfl (unw_hav rfl (unw_look rfl unw_base))⟩
   show t.arcs.length - (k2 + 1) < t.arcs.length - k2
   omega
  have hke2 : k2 = t.arcs.length := by omega
  refine wc_exit rfl ?_
  refine ⟨(ag2, l_57_2), ?_, ⟨⟨hp.len, hp.sub, hp.frm⟩, (fun e => by have := (hp.cl e).2; rw [hke2, List.take_length] at this; exact this), M⟩, ⟨rfl, trivial⟩, unw_look rfl (unw_hav rfl (unw_look rfl unw_base))⟩
  show 2 * (l_57_2.count false) + ag2.toNat < 2 * (l_57_0.count false) + ag0.toNat
  subst ht66
  cases hag : ag2 with
  | true => have := hp.up hag; simp; omega
  | false => have := (hp.cl hag).1; subst this; simp
 refine wc_exit rfl ?_
 refine wc_seq ?_
 refine wc_seq ?_
 refine wc_region ?_
 refine wl_as M rfl rfl ?_
 refine wl_nil ?_
 refine wc_block ?_
 refine wc_loop (α := Nat) [6, 23, 152, 153, 154, 155, 156, 157, 158, 159, 160, 161, 162, 163, 164, 165, 166, 167, 168, 169, 170, 171, 172, 173, 174, 175, 176] (fun (k8 : Nat) => [(23, .int .i64 (k8 : Int))])
   (fun (k8 : Nat) w' => (k8 ≤ t.finals.length) ∧ (∀ f ∈ t.finals.take k8, ¬ on l_57_0 ((f.toNat * ((runesL x).length + 1) + (runesL x).length) * ((runesL z).length + 1) + (runesL z).length)) ∧ Mem w I J31 (row EBool (sv u57) l_57_0 :: box b3 25 [.int .i64 t.states, .int .i64 t.start, sv fu1, sv au1] :: []) w')
   (fun (k8 : Nat) => t.finals.length - k8) (0) ⟨rfl, trivial⟩ ?_ ?_
 ·refine ⟨Nat.zero_le _, by simp, ?_⟩
  exact M
 rintro k8 jj8 w18 ⟨hk8, h8, M⟩
 have hoJ31 := M.old
 refine wc_seq ?_
 refine wc_seq ?_
 refine wc_region ?_
 refine wl_mv M rfl rfl ?_
 refine wl_m M (q_fa fo_25_2 rfl) rfl rfl ?_
 refine wl_m M (q_ldb 1 Tryd.underlying22 rfl rfl rfl rfl) rfl rfl ?_
 refine wl_m M (q_lenR ((Rf1.mono hJ26).mono hJ31) Tryd.underlying22 rfl) rfl rfl ?_
 refine wl_m M (q_lss rfl rfl) rfl rfl ?_
 refine wl_nil ?_
 refine wc_dec rfl (fun ht156 => ?_) (fun ht156 => ?_)
 ·obtain ⟨x8, hx8⟩ : ∃ x_, t.finals[k8]? = some x_ := ⟨_, List.getElem?_eq_getElem (by omega)⟩
  have hx8r := hr.fin x8 (List.mem_of_getElem? hx8)
  have hf8 : ((x8.toNat : Nat) : Int) = x8 := Int.toNat_of_nonneg hx8r.1
  have hf9 : x8.toNat < N := by omega
  have hj8 := plI_lt (w := (runesL x).length + 1) (h := (runesL z).length + 1) (i := (runesL x).length) (j := (runesL z).length) hf9 (by omega) (by omega)
  obtain ⟨hc1, hc2, hc3, _, _⟩ := pl_bound (w := (runesL x).length + 1) (h := (runesL z).length + 1) (i := (runesL x).length) (j := (runesL z).length) hf9 hN (by omega) (by omega) (by omega) (by omega)
  have hg8 := getD_at (d := false) (xs := l_57_0) (k := (x8.toNat * ((runesL x).length + 1) + (runesL x).length) * ((runesL z).length + 1) + (runesL z).length) (by rw [h2.1]; exact hj8)
  refine wc_skip ?_
  refine wc_seq ?_
  refine wc_block ?_
  refine wc_seq ?_
  refine wc_region ?_
  refine wl_mv M rfl rfl ?_
  refine wl_m M (q_fa fo_25_2 rfl) rfl rfl ?_
  refine wl_m M (q_ldb 1 Tryd.underlying22 rfl rfl rfl rfl) rfl rfl ?_
  refine wl_mv M rfl rfl ?_
  refine wl_ix (j := k8) M ((Rf1.mono hJ26).mono hJ31) Tryd.underlying22 rfl rfl hx8 rfl (fun b163 o163 p163 => ?_)
  refine wl_m M (q_ldp p163 rfl rfl) rfl rfl ?_
  refine wl_mv M rfl rfl ?_
  refine wl_m M (q_mul (z := ((x8.toNat * ((runesL x).length + 1) : Nat) : Int)) rfl rfl (by rw [show x8 * ((((runesL x).length + 1) : Nat) : Int) = ((x8.toNat * ((runesL x).length + 1) : Nat) : Int) by rw [Int.natCast_mul, hf8]]; exact IntWalk.i64_in _ (by omega))) rfl rfl ?_
  refine wl_mv M rfl rfl ?_
  refine wl_m M (q_add (z := ((x8.toNat * ((runesL x).length + 1) + ((runesL x).length + 1) : Nat) : Int)) rfl rfl (by rw [show ((x8.toNat * ((runesL x).length + 1) : Nat) : Int) + ((((runesL x).length + 1) : Nat) : Int) = ((x8.toNat * ((runesL x).length + 1) + ((runesL x).length + 1) : Nat) : Int) by rw [← Int.natCast_add]]; exact IntWalk.i64_in _ (by omega))) rfl rfl ?_
  refine wl_m M (q_sub (z := ((x8.toNat * ((runesL x).length + 1) + (runesL x).length : Nat) : Int)) rfl rfl (by rw [show ((x8.toNat * ((runesL x).length + 1) + ((runesL x).length + 1) : Nat) : Int) - 1 = ((x8.toNat * ((runesL x).length + 1) + (runesL x).length : Nat) : Int) by omega]; exact IntWalk.i64_in _ (by omega))) rfl rfl ?_
  refine wl_mv M rfl rfl ?_
  refine wl_m M (q_mul (z := (((x8.toNat * ((runesL x).length + 1) + (runesL x).length) * ((runesL z).length + 1) : Nat) : Int)) rfl rfl (by rw [show ((x8.toNat * ((runesL x).length + 1) + (runesL x).length : Nat) : Int) * ((((runesL z).length + 1) : Nat) : Int) = (((x8.toNat * ((runesL x).length + 1) + (runesL x).length) * ((runesL z).length + 1) : Nat) : Int) by rw [← Int.natCast_mul]]; exact IntWalk.i64_in _ (by omega))) rfl rfl ?_
  refine wl_mv M rfl rfl ?_
  refine wl_m M (q_add (z := (((x8.toNat * ((runesL x).length + 1) + (runesL x).length) * ((runesL z).length + 1) + ((runesL z).length + 1) : Nat) : Int)) rfl rfl (by rw [show (((x8.toNat * ((runesL x).length + 1) + (runesL x).length) * ((runesL z).length + 1) : Nat) : Int) + ((((runesL z).length + 1) : Nat) : Int) = (((x8.toNat * ((runesL x).length + 1) + (runesL x).length) * ((runesL z).length + 1) + ((runesL z).length + 1) : Nat) : Int) by rw [← Int.natCast_add]]; exact IntWalk.i64_in _ (by omega))) rfl rfl ?_
  refine wl_m M (q_sub (z := (((x8.toNat * ((runesL x).length + 1) + (runesL x).length) * ((runesL z).length + 1) + (runesL z).length : Nat) : Int)) rfl rfl (by rw [show (((x8.toNat * ((runesL x).length + 1) + (runesL x).length) * ((runesL z).length + 1) + ((runesL z).length + 1) : Nat) : Int) - 1 = (((x8.toNat * ((runesL x).length + 1) + (runesL x).length) * ((runesL z).length + 1) + (runesL z).length : Nat) : Int) by omega]; exact IntWalk.i64_in _ (by omega))) rfl rfl ?_
  refine wl_ixr (j := ((x8.toNat * ((runesL x).length + 1) + (runesL x).length) * ((runesL z).length + 1) + (runesL z).length)) 0 M rfl Tryd.underlying53 rfl rfl (getD_at (d := false) (by rw [h2.1]; exact hj8)) rfl (fun b175 o175 p175 => ?_)
  refine wl_m M (q_ldp p175 rfl rfl) rfl rfl ?_
  refine wl_nil ?_
  refine wc_cond rfl (fun ht176 => ?_) (fun ht176 => ?_)
  ·refine wc_seq ?_
   refine wc_region ?_
   refine wl_as M rfl rfl ?_
   refine wl_nil ?_
   refine wc_ret ?_
   exact out1 rfl rfl ⟨_, _, rfl, M.grow, by rw [relS_ok3 hkx hkz hv, relB_iff.2 (rel_iff.2 ⟨x8, List.mem_of_getElem? hx8, by have := (plR_fin hr h2.2.1 (h2.2.2 _ rfl) (h3 ht66) (s := x8.toNat) (i := (runesL x).length) (j := (runesL z).length) (by omega) (by omega)).1 (by unfold on; rw [hg8, ht176]); rwa [hf8] at this⟩)]⟩
  refine wc_skip ?_
  refine wc_region ?_
  refine wl_mv M rfl rfl ?_
  refine wl_m M (q_add rfl rfl (IntWalk.i64_in _ (by omega))) rfl rfl ?_
  refine wl_as M rfl rfl ?_
  refine wl_nil ?_
  refine ⟨(k8 + 1), ?_, ⟨(by omega), (by rw [take_snoc hx8]; intro f hf; rcases List.mem_append.1 hf with hf | hf; exact h8 f hf; rw [List.mem_singleton.1 hf]; unfold on; rw [hg8, ht176]; simp), M⟩, ⟨rfl, trivial⟩, unw_look rfl unw_base⟩
  show t.finals.length - (k8 + 1) < t.finals.length - k8
  omega
 have hke8 : k8 = t.finals.length := by omega
 rw [hke8, List.take_length] at h8
 refine wc_exit rfl ?_
 refine wc_seq ?_
 refine wc_region ?_
 refine wl_as M rfl rfl ?_
 refine wl_nil ?_
 refine wc_ret ?_
 exact out1 rfl rfl ⟨_, _, rfl, M.grow, by rw [relS_ok3 hkx hkz hv, relB_false.2 (fun h => by obtain ⟨f, hf, hre⟩ := rel_iff.1 h; have h0 : ((f.toNat : Nat) : Int) = f := Int.toNat_of_nonneg (hr.fin f hf).1; exact h8 f hf ((plR_fin hr h2.2.1 (h2.2.2 _ rfl) (h3 ht66) (s := f.toNat) (i := (runesL x).length) (j := (runesL z).length) (by omega) (by omega)).2 (by rw [h0]; exact hre)))]⟩
theorem short_c (s : ByteArray) (n : Int) {I : Heap} {w : World} (hI : hle I (hp w)) : Calls A 4 #[.string s, .int .i64 n] w (Ret w I fun r _ => r = .bool (decide ((s.size : Int) ≤ n))) := by
 have M := Mem.start hI
 refine enter Tryd.func4 rfl 9 Tryd.ntmps4 [_, _] rfl ?_
 refine wc_seq ?_
 refine wc_region ?_
 refine wl_as M rfl rfl ?_
 refine wl_nil ?_
 refine wc_seq ?_
 refine wc_region ?_
 refine wl_mv M rfl rfl ?_
 refine wl_m M (q_lenStr Tryd.underlying9 rfl) rfl rfl ?_
 refine wl_mv M rfl rfl ?_
 refine wl_m M (q_leq rfl rfl) rfl rfl ?_
 refine wl_as M rfl rfl ?_
 refine wl_nil ?_
 refine wc_ret ?_
 exact out1 rfl rfl ⟨_, _, rfl, M.grow, rfl⟩
set_option maxRecDepth 4000 in
set_option maxHeartbeats 1000000 in
theorem lawRelates3_c (t : Tra) (x y : ByteArray) {v1 : Value} {I : Heap} {w : World} (hI : hle I (hp w)) (hT : Tabs I) (R1 : t.rd I v1) : Calls A 3 #[v1, .string x, .string y] w (Ret w I fun r _ => r = .bool true) := by
 obtain ⟨fu1, au1, rfl, Rf1, Ra1⟩ := R1
 have M := Mem.start hI
 refine enter Tryd.func3 rfl 39 Tryd.ntmps3 [_, _, _] rfl ?_
 refine wc_seq ?_
 refine wc_region ?_
 refine wl_e (e_box M rfl) rfl rfl ?_
 rintro _ w1 ⟨b3, rfl, M⟩
 refine wl_as M rfl rfl ?_
 refine wl_nil ?_
 refine wc_seq ?_
 refine wc_seq ?_
 refine wc_join (α := Unit) [7, 8, 9, 10, 11, 12, 13, 14, 15, 16, 17, 18, 19, 20, 21, 22, 23, 24, 25] (fun _ => [(25, .bool ((((decide (8 < t.states)) || (decide (30 < (t.arcs.length : Int)))) || (!(decide ((x.size : Int) ≤ 12)))) || (!(decide ((y.size : Int) ≤ 12)))))]) (fun _ w' => Mem w I I (box b3 25 [.int .i64 t.states, .int .i64 t.start, sv fu1, sv au1] :: []) w') ?_ ?_
 ·refine wc_region ?_
  refine wl_m M (q_fa fo_25_0 rfl) rfl rfl ?_
  refine wl_m M (q_ldb 0 Tryd.underlying3 rfl rfl rfl rfl) rfl rfl ?_
  refine wl_m M (q_gtr rfl rfl) rfl rfl ?_
  refine wl_mv M rfl rfl ?_
  rcases Bool.eq_false_or_eq_true (decide (8 < t.states)) with hg10 | hg10
  ·refine wl_m M (q_off 3 rfl rfl rfl hg10) rfl rfl ?_
   refine wl_m M (q_off 3 rfl rfl rfl hg10) rfl rfl ?_
   refine wl_m M (q_off 3 rfl rfl rfl hg10) rfl rfl ?_
   refine wl_m M (q_off 3 rfl rfl rfl hg10) rfl rfl ?_
   refine wl_m M (q_pickT rfl hg10 rfl) rfl rfl ?_
   refine wl_mv M rfl rfl ?_
   refine wl_m M (q_off 9 rfl rfl rfl rfl) rfl rfl ?_
   refine wl_m M (q_off 9 rfl rfl rfl rfl) rfl rfl ?_
   refine wl_m M (q_off 9 rfl rfl rfl rfl) rfl rfl ?_
   refine wl_m M (q_pickT rfl rfl rfl) rfl rfl ?_
   refine wl_mv M rfl rfl ?_
   refine wl_m M (q_off 14 rfl rfl rfl rfl) rfl rfl ?_
   refine wl_m M (q_off 14 rfl rfl rfl rfl) rfl rfl ?_
   refine wl_m M (q_off 14 rfl rfl rfl rfl) rfl rfl ?_
   refine wl_m M (q_pickT rfl rfl rfl) rfl rfl ?_
   refine wl_nil ?_
   exact ⟨(), M, ⟨(show some (Value.bool true) = some (Value.bool ((((decide (8 < t.states)) || (decide (30 < (t.arcs.length : Int)))) || (!(decide ((x.size : Int) ≤ 12)))) || (!(decide ((y.size : Int) ≤ 12))))) from by first | (simp only [hg10, Bool.true_or, Bool.false_or, Bool.true_and, Bool.false_and, Bool.or_true, Bool.or_false, Bool.and_true, Bool.and_false]; done) | simp_all), trivial⟩, unw_take 19 rfl rfl⟩
  refine wl_m M (q_guard 3 rfl rfl rfl hg10 (q_fa fo_25_3 rfl)) rfl rfl ?_
  refine wl_m M (q_guard 3 rfl rfl rfl hg10 (q_ldb 0 Tryd.underlying23 rfl rfl rfl rfl)) rfl rfl ?_
  refine wl_m M (q_guard 3 rfl rfl rfl hg10 (q_lenR Ra1 Tryd.underlying23 rfl)) rfl rfl ?_
  refine wl_m M (q_guard 3 rfl rfl rfl hg10 (q_gtr rfl rfl)) rfl rfl ?_
  refine wl_m M (q_pickF rfl hg10 rfl) rfl rfl ?_
  refine wl_mv M rfl rfl ?_
  rcases Bool.eq_false_or_eq_true (decide (30 < (t.arcs.length : Int))) with hg16 | hg16
  ·refine wl_m M (q_off 9 rfl rfl rfl hg16) rfl rfl ?_
   refine wl_m M (q_off 9 rfl rfl rfl hg16) rfl rfl ?_
   refine wl_m M (q_off 9 rfl rfl rfl hg16) rfl rfl ?_
   refine wl_m M (q_pickT rfl hg16 rfl) rfl rfl ?_
   refine wl_mv M rfl rfl ?_
   refine wl_m M (q_off 14 rfl rfl rfl rfl) rfl rfl ?_
   refine wl_m M (q_off 14 rfl rfl rfl rfl) rfl rfl ?_
   refine wl_m M (q_off 14 rfl rfl rfl rfl) rfl rfl ?_
   refine wl_m M (q_pickT rfl rfl rfl) rfl rfl ?_
   refine wl_nil ?_
   exact ⟨(), M, ⟨(show some (Value.bool true) = some (Value.bool ((((decide (8 < t.states)) || (decide (30 < (t.arcs.length : Int)))) || (!(decide ((x.size : Int) ≤ 12)))) || (!(decide ((y.size : Int) ≤ 12))))) from by first | (simp only [hg10, hg16, Bool.true_or, Bool.false_or, Bool.true_and, Bool.false_and, Bool.or_true, Bool.or_false, Bool.and_true, Bool.and_false]; done) | simp_all), trivial⟩, unw_take 19 rfl rfl⟩
  refine wl_m M (q_guard 9 rfl rfl rfl hg16 (q_move rfl)) rfl rfl ?_
  refine wl_e (e_guard 9 rfl rfl rfl hg16 (e_callC M (short_c x 12 M.imm) Tryd.func4 rfl rfl)) rfl rfl ?_
  rintro _ w2 ⟨J18, hJ18, rfl, M⟩
  replace M := M.less hJ18 (fun _ _ => rfl)
  refine wl_m M (q_guard 9 rfl rfl rfl hg16 (q_not rfl)) rfl rfl ?_
  refine wl_m M (q_pickF rfl hg16 rfl) rfl rfl ?_
  refine wl_mv M rfl rfl ?_
  rcases Bool.eq_false_or_eq_true (!(decide ((x.size : Int) ≤ 12))) with hg21 | hg21
  ·refine wl_m M (q_off 14 rfl rfl rfl hg21) rfl rfl ?_
   refine wl_m M (q_off 14 rfl rfl rfl hg21) rfl rfl ?_
   refine wl_m M (q_off 14 rfl rfl rfl hg21) rfl rfl ?_
   refine wl_m M (q_pickT rfl hg21 rfl) rfl rfl ?_
   refine wl_nil ?_
   exact ⟨(), M, ⟨(show some (Value.bool true) = some (Value.bool ((((decide (8 < t.states)) || (decide (30 < (t.arcs.length : Int)))) || (!(decide ((x.size : Int) ≤ 12)))) || (!(decide ((y.size : Int) ≤ 12))))) from by first | (simp only [hg10, hg16, hg21, Bool.true_or, Bool.false_or, Bool.true_and, Bool.false_and, Bool.or_true, Bool.or_false, Bool.and_true, Bool.and_false]; done) | simp_all), trivial⟩, unw_take 19 rfl rfl⟩
  refine wl_m M (q_guard 14 rfl rfl rfl hg21 (q_move rfl)) rfl rfl ?_
  refine wl_e (e_guard 14 rfl rfl rfl hg21 (e_callC M (short_c y 12 M.imm) Tryd.func4 rfl rfl)) rfl rfl ?_
  rintro _ w3 ⟨J23, hJ23, rfl, M⟩
  replace M := M.less hJ23 (fun _ _ => rfl)
  refine wl_m M (q_guard 14 rfl rfl rfl hg21 (q_not rfl)) rfl rfl ?_
  refine wl_m M (q_pickF rfl hg21 rfl) rfl rfl ?_
  refine wl_nil ?_
  exact ⟨(), M, ⟨(show some (Value.bool (!(decide ((y.size : Int) ≤ 12)))) = some (Value.bool ((((decide (8 < t.states)) || (decide (30 < (t.arcs.length : Int)))) || (!(decide ((x.size : Int) ≤ 12)))) || (!(decide ((y.size : Int) ≤ 12))))) from by first | (simp only [hg10, hg16, hg21, Bool.true_or, Bool.false_or, Bool.true_and, Bool.false_and, Bool.or_true, Bool.or_false, Bool.and_true, Bool.and_false]; done) | simp_all), trivial⟩, unw_take 19 rfl rfl⟩
 rintro _ jr1 w4 M
 refine wc_cond rfl (fun ht25 => ?_) (fun ht25 => ?_)
 ·refine wc_seq ?_
  refine wc_region ?_
  refine wl_e (e_callC M (awake3_c M.imm) Tryd.func5 rfl rfl) rfl rfl ?_
  rintro _ w5 ⟨J26, hJ26, rfl, M⟩
  replace M := M.less hJ26 (fun _ _ => rfl)
  refine wl_as M rfl rfl ?_
  refine wl_nil ?_
  refine wc_ret ?_
  exact out1 rfl rfl ⟨_, _, rfl, M.grow, rfl⟩
 simp only [Bool.or_eq_false_iff, Bool.not_eq_false', decide_eq_false_iff_not, decide_eq_true_eq] at ht25
 obtain ⟨⟨⟨h1, h2⟩, h3⟩, h4⟩ := ht25
 refine wc_skip ?_
 refine wc_seq ?_
 refine wc_join (α := Heap) [6, 27, 28, 29, 30, 31, 32, 33, 34, 35, 36, 37, 38] (fun ((I6) : Heap) => [(6, .bool true)]) (fun ((I6) : Heap) w' => hle I I6 ∧ Mem w I I6 (box b3 25 [.int .i64 t.states, .int .i64 t.start, sv fu1, sv au1] :: []) w') ?_ ?_
 ·refine wc_draws (fun w' => Mem w I I (box b3 25 [.int .i64 t.states, .int .i64 t.start, sv fu1, sv au1] :: []) w' ∧ True) [] fol ?_
  replace M := M.drew
  have hS := (⟨M, trivial⟩ : _ ∧ _)
  refine wa_e 0 rfl (by kernel_rfl) (e_callC M (awake3_c M.imm) Tryd.func5 rfl rfl) rfl rfl ?_
  rintro _ w6 ⟨J27, hJ27, rfl, M⟩
  have hS := (⟨(M.less hJ27 (fun _ _ => rfl)), trivial⟩ : _ ∧ _)
  refine ⟨fun _ => hS, ?_⟩
  replace M := M.less hJ27 (fun _ _ => rfl)
  refine wa_q 1 rfl (by kernel_rfl) (q_move rfl) hS rfl rfl ?_
  refine wa_q 2 rfl (by kernel_rfl) ((q_guard 1 rfl rfl rfl rfl (q_ldbA 0 Tryd.underlying25 rfl sz25 rfl rfl rfl rfl)).mono fun _ h => h.1) hS rfl rfl ?_
  refine wa_q 3 rfl (by kernel_rfl) (q_guard 1 rfl rfl rfl rfl (q_move rfl)) hS rfl rfl ?_
  refine wa_q 4 rfl (by kernel_rfl) (q_guard 1 rfl rfl rfl rfl (q_move rfl)) hS rfl rfl ?_
  refine wa_q 6 rfl (by kernel_rfl) ((q_guard 1 rfl rfl rfl rfl (q_ldbA 0 Tryd.underlying25 rfl sz25 rfl rfl rfl rfl)).mono fun _ h => h.1) hS rfl rfl ?_
  refine wa_q 7 rfl (by kernel_rfl) (q_guard 1 rfl rfl rfl rfl (q_move rfl)) hS rfl rfl ?_
  refine wa_q 8 rfl (by kernel_rfl) (q_guard 1 rfl rfl rfl rfl (q_move rfl)) hS rfl rfl ?_
  refine wa_e 5 rfl (by kernel_rfl) (e_guard 1 rfl rfl rfl rfl (e_callC M (relates_c t x y (by omega) (by omega) (Nat.le_trans (Nat.mul_le_mul (show x.size + 1 ≤ 13 by omega) (show y.size + 1 ≤ 13 by omega)) (by decide)) M.imm ⟨_, _, rfl, Rf1, Ra1⟩) Tryd.func6 rfl rfl)) rfl rfl ?_
  rintro _ w7 ⟨J32, hJ32, rfl, M⟩
  have hS := (⟨(M.less hJ32 (fun _ _ => rfl)), trivial⟩ : _ ∧ _)
  refine ⟨fun _ => hS, ?_⟩
  replace M := M.less hJ32 (fun _ _ => rfl)
  refine wa_e 9 rfl (by kernel_rfl) (e_guard 1 rfl rfl rfl rfl (e_callC M (relates3_c t x y (by omega) (by omega) M.imm hT ⟨_, _, rfl, Rf1, Ra1⟩) Tryd.func7 rfl rfl)) rfl rfl ?_
  rintro _ w8 ⟨J36, hJ36, rfl, M⟩
  have hS := (⟨(M.less hJ36 (fun _ _ => rfl)), trivial⟩ : _ ∧ _)
  refine ⟨fun _ => hS, ?_⟩
  replace M := M.less hJ36 (fun _ _ => rfl)
  refine wa_q 10 rfl (by kernel_rfl) (q_guard 1 rfl rfl rfl rfl (q_to (congrArg Value.bool (beq_self_eq_true _)) (q_eqlB Tryd.underlying4 rfl rfl))) hS rfl rfl ?_
  refine wa_q 11 rfl (by kernel_rfl) (q_pickT rfl rfl rfl) hS rfl rfl ?_
  refine wa_q 12 rfl (by kernel_rfl) (q_assign rfl) hS rfl rfl ?_
  refine wa_done (by kernel_rfl) ?_
  exact ⟨(I), ⟨hle.refl _, M⟩, ⟨rfl, trivial⟩, unw_take 13 rfl rfl⟩
 rintro I6 jr3 w9 ⟨hI6, M⟩
 have hoI6 := M.old
 refine wc_ret ?_
 exact out1 rfl rfl ⟨_, _, rfl, M.grow, rfl⟩
end Go.Proofs.YtfepjcmjkaolgaaDoor.G
