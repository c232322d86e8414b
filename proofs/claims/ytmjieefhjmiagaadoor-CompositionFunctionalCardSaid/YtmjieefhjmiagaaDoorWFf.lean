/- Walks of the program's functions. -/
import Derived.Test.YtmjieefhjmiagaaDoorWFe
set_option linter.all false
namespace Go.Proofs.YtmjieefhjmiagaaDoor.G
open Go Go.RowKit
set_option maxRecDepth 4000 in
set_option maxHeartbeats 4000000 in
theorem singleR_c {t : Tra} {m : Nat} (ht : t.Ok m) (hfin : ∀ p ∈ t.finals, 0 ≤ p ∧ p < (m : Int)) (hfl : t.finals.length ≤ 512) {l : List Int} (hl : l.length ≤ 40) {v1 : Value} {u : SV} {I : Heap} {w : World} (hI : hle I (hp w)) (R1 : t.rd I v1) (Rl : rdSl ERune I (sv u) l) :
    Calls A 52 #[v1, sv u] w (Ret w I fun r _ => r = .bool (sglB t l)) := by
 obtain ⟨fu1, au1, rfl, Rf1, Ra1⟩ := R1
 have hU : m * (l.length + 1) ≤ 512 * 41 := Nat.mul_le_mul ht.le (by omega)
 have hal := ht.alen
 have hs0 : ((t.start.toNat : Nat) : Int) = t.start := Int.toNat_of_nonneg ht.start.1
 have hs1 : t.start.toNat < m := by have := ht.start; omega
 have hjs : t.start.toNat * (l.length + 1) < m * (l.length + 1) := by have := nI_lt (w := l.length + 1) (i := 0) hs1 (by omega); omega
 have M := Mem.start hI
 refine enter Tryd.func52 rfl 189 Tryd.ntmps52 [_, _] rfl ?_
 refine wc_seq ?_
 refine wc_region ?_
 refine wl_e (e_box M rfl) rfl rfl ?_
 rintro _ w1 ⟨b2, rfl, M⟩
 refine wl_as M rfl rfl ?_
 refine wl_nil ?_
 refine wc_seq ?_
 refine wc_region ?_
 refine wl_mv M rfl rfl ?_
 refine wl_m M (q_lenR Rl Tryd.underlying84 rfl) rfl rfl ?_
 refine wl_m M (q_add (z := ((l.length + 1 : Nat) : Int)) rfl rfl (by rw [show (l.length : Int) + 1 = ((l.length + 1 : Nat) : Int) by simp]; exact IntWalk.i64_in _ (by omega))) rfl rfl ?_
 refine wl_as M rfl rfl ?_
 refine wl_nil ?_
 refine wc_seq ?_
 refine wc_region ?_
 refine wl_m M (q_fa fo_25_0 rfl) rfl rfl ?_
 refine wl_m M (q_ldb 0 Tryd.underlying3 rfl rfl rfl rfl) rfl rfl ?_
 refine wl_mv M rfl rfl ?_
 refine wl_m M (q_mul (z := ((m * (l.length + 1) : Nat) : Int)) rfl rfl (by rw [show t.states * ((l.length + 1 : Nat) : Int) = ((m * (l.length + 1) : Nat) : Int) by rw [ht.st, ← Int.natCast_mul]]; exact IntWalk.i64_in _ (by omega))) rfl rfl ?_
 refine wl_e (e_make (E := EBool) (zv := false) (m := (m * (l.length + 1))) M Tryd.underlying108 z4 rfl rfl (by show _ * 1 ≤ _; omega)) rfl rfl ?_
 rintro _ w2 ⟨u28, rfl, M⟩
 refine wl_as M rfl rfl ?_
 refine wl_nil ?_
 refine wc_seq ?_
 refine wc_seq ?_
 refine wc_region ?_
 refine wl_m M (q_fa fo_25_2 rfl) rfl rfl ?_
 refine wl_m M (q_ldb 1 Tryd.underlying22 rfl rfl rfl rfl) rfl rfl ?_
 refine wl_m M (q_lenR Rf1 Tryd.underlying22 rfl) rfl rfl ?_
 refine wl_mv M rfl rfl ?_
 refine wl_nil ?_
 refine wc_block ?_
 refine wc_loop (α := Nat × (List Bool)) [8, 32, 33, 34, 35, 36, 37, 38, 39, 40, 41, 42, 43, 44] (fun ((k0, l_28_0) : Nat × (List Bool)) => [(32, .int .i64 (k0 : Int))])
   (fun ((k0, l_28_0) : Nat × (List Bool)) w' => (k0 ≤ t.finals.length) ∧ (l_28_0.length = m * (l.length + 1)) ∧ (∀ k, on l_28_0 k ↔ ∃ f ∈ t.finals.take k0, k = f.toNat * (l.length + 1) + l.length) ∧ Mem w I I (row EBool (sv u28) l_28_0 :: box b2 25 [.int .i64 t.states, .int .i64 t.start, sv fu1, sv au1] :: []) w')
   (fun ((k0, l_28_0) : Nat × (List Bool)) => t.finals.length - k0) (0, List.replicate (m * (l.length + 1)) false) ⟨rfl, trivial⟩ ?_ ?_
 ·refine ⟨Nat.zero_le _, (by simp), (fun k => ⟨fun h => absurd h on_rep, fun ⟨f, h, _⟩ => by simp at h⟩), ?_⟩
  exact M
 rintro ⟨k0, l_28_0⟩ jj0 w3 ⟨hk0, hEl, hE, M⟩
 refine wc_seq ?_
 refine wc_region ?_
 refine wl_m M (q_lss rfl rfl) rfl rfl ?_
 refine wl_nil ?_
 refine wc_seq ?_
 refine wc_dec rfl (fun ht33 => ?_) (fun ht33 => ?_)
 ·obtain ⟨x0, hx0⟩ : ∃ x_, t.finals[k0]? = some x_ := ⟨_, List.getElem?_eq_getElem (by omega)⟩
  have hll0 := (Rf1).len_le
  have hfr0 := hfin x0 (List.mem_of_getElem? hx0)
  have hf0 : ((x0.toNat : Nat) : Int) = x0 := Int.toNat_of_nonneg hfr0.1
  have hfm0 : x0.toNat < m := by omega
  have hm512 := ht.le
  have hfb0 : x0.toNat * (l.length + 1) ≤ 512 * 41 := Nat.mul_le_mul (by omega) (by omega)
  have hj0 := nI_lt (w := l.length + 1) (i := l.length) hfm0 (by omega)
  refine wc_skip ?_
  refine wc_seq ?_
  refine wc_block ?_
  refine wc_seq ?_
  refine wc_region ?_
  refine wl_ix (j := k0) M Rf1 Tryd.underlying22 rfl rfl hx0 rfl (fun b34 o34 p34 => ?_)
  refine wl_m M (q_ldp p34 rfl rfl) rfl rfl ?_
  refine wl_as M rfl rfl ?_
  refine wl_nil ?_
  refine wc_region ?_
  refine wl_mv M rfl rfl ?_
  refine wl_mv M rfl rfl ?_
  refine wl_mv M rfl rfl ?_
  refine wl_m M (q_mul (z := ((x0.toNat * (l.length + 1) : Nat) : Int)) rfl rfl (by rw [show x0 * ((l.length + 1 : Nat) : Int) = ((x0.toNat * (l.length + 1) : Nat) : Int) by rw [Int.natCast_mul, hf0]]; exact IntWalk.i64_in _ (by omega))) rfl rfl ?_
  refine wl_mv M rfl rfl ?_
  refine wl_m M (q_add (z := ((x0.toNat * (l.length + 1) + (l.length + 1) : Nat) : Int)) rfl rfl (by rw [show ((x0.toNat * (l.length + 1) : Nat) : Int) + ((l.length + 1 : Nat) : Int) = ((x0.toNat * (l.length + 1) + (l.length + 1) : Nat) : Int) by rw [← Int.natCast_add]]; exact IntWalk.i64_in _ (by omega))) rfl rfl ?_
  refine wl_m M (q_sub (z := ((x0.toNat * (l.length + 1) + l.length : Nat) : Int)) rfl rfl (by rw [show ((x0.toNat * (l.length + 1) + (l.length + 1) : Nat) : Int) - 1 = ((x0.toNat * (l.length + 1) + l.length : Nat) : Int) by omega]; exact IntWalk.i64_in _ (by omega))) rfl rfl ?_
  refine wl_ixw (j := (x0.toNat * (l.length + 1) + l.length)) 0 M rfl Tryd.underlying108 rfl rfl (by rw [hEl]; exact hj0) rfl (fun b43 o43 p43 => ?_)
  refine wl_e0 (e_str (u := true) 0 M rfl rfl rfl p43 (by rw [hEl]; exact hj0) rfl) rfl ?_
  intro _ w4 M
  simp only [sC0, sCS] at M
  refine wl_nil ?_
  refine wc_region ?_
  refine wl_m M (q_add rfl rfl (IntWalk.i64_in _ (by omega))) rfl rfl ?_
  refine wl_mv M rfl rfl ?_
  refine wl_nil ?_
  refine ⟨(k0 + 1, l_28_0.set (x0.toNat * (l.length + 1) + l.length) true), ?_, ⟨(by omega), (by simp [hEl]), (ends_snoc hE hx0 (by rw [hEl]; exact hj0)), M⟩, ⟨rfl, trivial⟩, unw_look rfl unw_base⟩
  show t.finals.length - (k0 + 1) < t.finals.length - k0
  omega
 have hke0 : k0 = t.finals.length := by omega
 rw [hke0, List.take_length] at hE
 refine wc_exit rfl ?_
 refine wc_seq ?_
 obtain ⟨IE, M, hIE, RE⟩ := M.frzRow 0 rfl
 have hoIE := M.old
 refine wc_region ?_
 refine wl_m M (q_ldbA 0 Tryd.underlying25 rfl sz25 rfl rfl rfl rfl) rfl rfl ?_
 refine wl_mv M rfl rfl ?_
 refine wl_mv M rfl rfl ?_
 refine wl_e (e_callC M (growR_c ht hl hEl true M.imm ⟨_, _, rfl, (Rf1.mono hIE), (Ra1.mono hIE)⟩ (Rl.mono hIE) RE) Tryd.func81 rfl rfl) rfl rfl ?_
 rintro v48 w5 ⟨J48, hJ48, ⟨G48, R48, hGr48⟩, M⟩
 obtain ⟨u48, rfl⟩ := rdSl_slice R48
 have hoJ48 := M.old
 refine wl_as M rfl rfl ?_
 refine wl_nil ?_
 refine wc_seq ?_
 refine wc_region ?_
 refine wl_m M (q_fa fo_25_0 rfl) rfl rfl ?_
 refine wl_m M (q_ldb 0 Tryd.underlying3 rfl rfl rfl rfl) rfl rfl ?_
 refine wl_mv M rfl rfl ?_
 refine wl_m M (q_mul (z := ((m * (l.length + 1) : Nat) : Int)) rfl rfl (by rw [show t.states * ((l.length + 1 : Nat) : Int) = ((m * (l.length + 1) : Nat) : Int) by rw [ht.st, ← Int.natCast_mul]]; exact IntWalk.i64_in _ (by omega))) rfl rfl ?_
 refine wl_e (e_make (E := EBool) (zv := false) (m := (m * (l.length + 1))) M Tryd.underlying108 z4 rfl rfl (by show _ * 1 ≤ _; omega)) rfl rfl ?_
 rintro _ w6 ⟨u53, rfl, M⟩
 refine wl_as M rfl rfl ?_
 refine wl_nil ?_
 refine wc_seq ?_
 refine wc_region ?_
 refine wl_mv M rfl rfl ?_
 refine wl_m M (q_fa fo_25_1 rfl) rfl rfl ?_
 refine wl_m M (q_ldb 1 Tryd.underlying3 rfl rfl rfl rfl) rfl rfl ?_
 refine wl_mv M rfl rfl ?_
 refine wl_m M (q_mul (z := ((t.start.toNat * (l.length + 1) : Nat) : Int)) rfl rfl (by rw [show t.start * ((l.length + 1 : Nat) : Int) = ((t.start.toNat * (l.length + 1) : Nat) : Int) by rw [Int.natCast_mul, hs0]]; exact IntWalk.i64_in _ (by omega))) rfl rfl ?_
 refine wl_ixw (j := (t.start.toNat * (l.length + 1))) 0 M rfl Tryd.underlying108 rfl rfl (by rw [List.length_replicate]; exact hjs) rfl (fun b59 o59 p59 => ?_)
 refine wl_e0 (e_str (u := true) 0 M rfl rfl rfl p59 (by rw [List.length_replicate]; exact hjs) rfl) rfl ?_
 intro _ w7 M
 simp only [sC0, sCS] at M
 refine wl_nil ?_
 refine wc_seq ?_
 obtain ⟨IS0, M, hIS0, RS0⟩ := M.frzRow 0 rfl
 have hoIS0 := M.old
 refine wc_region ?_
 refine wl_m M (q_ldbA 0 Tryd.underlying25 rfl sz25 rfl rfl rfl rfl) rfl rfl ?_
 refine wl_mv M rfl rfl ?_
 refine wl_mv M rfl rfl ?_
 refine wl_e (e_callC M (growR_c ht hl (by simp) false M.imm ⟨_, _, rfl, (((Rf1.mono hIE).mono hJ48).mono hIS0), (((Ra1.mono hIE).mono hJ48).mono hIS0)⟩ (((Rl.mono hIE).mono hJ48).mono hIS0) RS0) Tryd.func81 rfl rfl) rfl rfl ?_
 rintro v63 w8 ⟨J63, hJ63, ⟨G63, R63, hGr63⟩, M⟩
 obtain ⟨u63, rfl⟩ := rdSl_slice R63
 have hoJ63 := M.old
 refine wl_as M rfl rfl ?_
 refine wl_nil ?_
 refine wc_seq ?_
 refine wc_seq ?_
 refine wc_region ?_
 have hF0 : ∀ k, on ((List.replicate (m * (l.length + 1)) false).set (t.start.toNat * (l.length + 1)) true) k ↔ k = t.start.toNat * (l.length + 1) := fun k => by rw [on_set (by rw [List.length_replicate]; exact hjs)]; exact ⟨fun h => h.resolve_right on_rep, .inl⟩
 refine wl_as M rfl rfl ?_
 refine wl_nil ?_
 refine wc_block ?_
 refine wc_loop (α := Heap × Nat × SV × (List Bool) × (List Int)) [4, 10, 11, 12, 14, 15, 16, 18, 19, 20, 64, 65, 66, 67, 68, 69, 70, 71, 72, 73, 74, 75, 76, 77, 78, 79, 80, 81, 82, 83, 84, 85, 86, 87, 88, 89, 90, 91, 92, 93, 94, 95, 96, 97, 98, 99, 100, 101, 102, 103, 104, 105, 106, 107, 108, 109, 110, 111, 112, 113, 114, 115, 116, 117, 118, 119, 120, 121, 122, 123, 124, 125, 126, 127, 128, 129, 130, 131, 132, 133, 134, 135, 136, 137, 138, 139, 140, 141, 142, 143, 144, 145, 146, 147, 148, 149, 150, 151, 152, 153, 154, 155, 156, 157, 158, 159, 160, 161, 162, 163, 164, 165, 166, 167, 168, 169, 170, 171, 172, 173, 174, 175, 176, 177, 178, 179, 180, 181, 182, 183, 184, 185, 186, 187, 188] (fun ((Ic, k2, uS, GS, uu) : Heap × Nat × SV × (List Bool) × (List Int)) => [(10, sv uS), (11, .int .i64 (k2 : Int))])
   (fun ((Ic, k2, uS, GS, uu) : Heap × Nat × SV × (List Bool) × (List Int)) w' => (hle J63 Ic) ∧ (k2 ≤ m * (l.length + 1) + 1) ∧ (rdSl EBool Ic (sv uS) GS) ∧ (SetOk t m l uu GS) ∧ (GS.length = m * (l.length + 1)) ∧ (uu.length = k2) ∧ Mem w I Ic (box b2 25 [.int .i64 t.states, .int .i64 t.start, sv fu1, sv au1] :: []) w')
   (fun ((Ic, k2, uS, GS, uu) : Heap × Nat × SV × (List Bool) × (List Int)) => m * (l.length + 1) + 1 - k2) (J63, 0, u63, G63, []) ⟨rfl, rfl, trivial⟩ ?_ ?_
 ·refine ⟨hle.refl _, Nat.zero_le _, R63, (set_init ht hF0 hGr63), (by rw [hGr63.len]; simp), rfl, ?_⟩
  exact M
 rintro ⟨Ic, k2, uS, GS, uu⟩ jj2 w9 ⟨hIc, hk2, RS, hS, hgl, hul, M⟩
 have hoIc := M.old
 refine wc_seq ?_
 refine wc_seq ?_
 refine wc_region ?_
 refine wl_mv M rfl rfl ?_
 refine wl_m M (q_fa fo_25_0 rfl) rfl rfl ?_
 refine wl_m M (q_ldb 0 Tryd.underlying3 rfl rfl rfl rfl) rfl rfl ?_
 refine wl_mv M rfl rfl ?_
 refine wl_m M (q_mul (z := ((m * (l.length + 1) : Nat) : Int)) rfl rfl (by rw [show t.states * ((l.length + 1 : Nat) : Int) = ((m * (l.length + 1) : Nat) : Int) by rw [ht.st, ← Int.natCast_mul]]; exact IntWalk.i64_in _ (by omega))) rfl rfl ?_
 refine wl_m M (q_leq rfl rfl) rfl rfl ?_
 refine wl_nil ?_
 refine wc_dec rfl (fun ht69 => ?_) (fun ht69 => ?_)
 ·have hF0 : True := trivial
  refine wc_skip ?_
  refine wc_seq ?_
  refine wc_block ?_
  refine wc_seq ?_
  refine wc_region ?_
  refine wl_as M rfl rfl ?_
  refine wl_nil ?_
  refine wc_seq ?_
  refine wc_seq ?_
  refine wc_region ?_
  refine wl_m M (q_fa fo_25_2 rfl) rfl rfl ?_
  refine wl_m M (q_ldb 0 Tryd.underlying22 rfl rfl rfl rfl) rfl rfl ?_
  refine wl_m M (q_lenR (((((Rf1.mono hIE).mono hJ48).mono hIS0).mono hJ63).mono hIc) Tryd.underlying22 rfl) rfl rfl ?_
  refine wl_mv M rfl rfl ?_
  refine wl_nil ?_
  refine wc_block ?_
  refine wc_loop (α := Nat × Bool) [12, 14, 75, 76, 77, 78, 79, 80, 81, 82, 83, 84, 85, 86, 87, 88, 89, 90, 91] (fun ((k4, d4) : Nat × Bool) => [(12, .bool d4), (75, .int .i64 (k4 : Int))])
    (fun ((k4, d4) : Nat × Bool) w' => (k4 ≤ t.finals.length) ∧ (d4 = (t.finals.take k4).any fun f => GS.getD (f.toNat * (l.length + 1) + l.length) false) ∧ Mem w I Ic (box b2 25 [.int .i64 t.states, .int .i64 t.start, sv fu1, sv au1] :: []) w')
    (fun ((k4, d4) : Nat × Bool) => t.finals.length - k4) (0, false) ⟨rfl, rfl, trivial⟩ ?_ ?_
  ·refine ⟨Nat.zero_le _, rfl, ?_⟩
   exact M
  rintro ⟨k4, d4⟩ jj4 w10 ⟨hk4, hd4, M⟩
  have hoIc := M.old
  refine wc_seq ?_
  refine wc_region ?_
  refine wl_m M (q_lss rfl rfl) rfl rfl ?_
  refine wl_nil ?_
  refine wc_seq ?_
  refine wc_dec rfl (fun ht76 => ?_) (fun ht76 => ?_)
  ·obtain ⟨x4, hx4⟩ : ∃ x_, t.finals[k4]? = some x_ := ⟨_, List.getElem?_eq_getElem (by omega)⟩
   have hll4 := ((((((Rf1.mono hIE).mono hJ48).mono hIS0).mono hJ63).mono hIc)).len_le
   have hfr4 := hfin x4 (List.mem_of_getElem? hx4)
   have hf4 : ((x4.toNat : Nat) : Int) = x4 := Int.toNat_of_nonneg hfr4.1
   have hfm4 : x4.toNat < m := by omega
   have hm512 := ht.le
   have hfb4 : x4.toNat * (l.length + 1) ≤ 512 * 41 := Nat.mul_le_mul (by omega) (by omega)
   have hj4 := nI_lt (w := l.length + 1) (i := l.length) hfm4 (by omega)
   refine wc_skip ?_
   refine wc_seq ?_
   refine wc_block ?_
   refine wc_seq ?_
   refine wc_region ?_
   refine wl_ix (j := k4) M (((((Rf1.mono hIE).mono hJ48).mono hIS0).mono hJ63).mono hIc) Tryd.underlying22 rfl rfl hx4 rfl (fun b77 o77 p77 => ?_)
   refine wl_m M (q_ldp p77 rfl rfl) rfl rfl ?_
   refine wl_as M rfl rfl ?_
   refine wl_nil ?_
   refine wc_join (α := Unit) [12, 79, 80, 81, 82, 83, 84, 85, 86, 87, 88, 89, 90] (fun _ => [(12, .bool (d4 || (GS.getD (x4.toNat * (l.length + 1) + l.length) false)))]) (fun _ w' => Mem w I Ic (box b2 25 [.int .i64 t.states, .int .i64 t.start, sv fu1, sv au1] :: []) w') ?_ ?_
   ·refine wc_region ?_
    refine wl_mv M rfl rfl ?_
    refine wl_mv M rfl rfl ?_
    rcases Bool.eq_false_or_eq_true (d4) with hg80 | hg80
    ·refine wl_m M (q_off 1 rfl rfl rfl hg80) rfl rfl ?_
     refine wl_m M (q_off 1 rfl rfl rfl hg80) rfl rfl ?_
     refine wl_m M (q_off 1 rfl rfl rfl hg80) rfl rfl ?_
     refine wl_m M (q_off 1 rfl rfl rfl hg80) rfl rfl ?_
     refine wl_m M (q_off 1 rfl rfl rfl hg80) rfl rfl ?_
     refine wl_m M (q_off 1 rfl rfl rfl hg80) rfl rfl ?_
     refine wl_m M (q_off 1 rfl rfl rfl hg80) rfl rfl ?_
     refine wl_m M (q_off 1 rfl rfl rfl hg80) rfl rfl ?_
     refine wl_m M (q_off 1 rfl rfl rfl hg80) rfl rfl ?_
     refine wl_m M (q_pickT rfl hg80 rfl) rfl rfl ?_
     refine wl_as M rfl rfl ?_
     refine wl_nil ?_
     exact ⟨(), M, ⟨(show some (Value.bool true) = some (Value.bool (d4 || (GS.getD (x4.toNat * (l.length + 1) + l.length) false))) from by first | (simp only [hg80, Bool.true_or, Bool.false_or, Bool.true_and, Bool.false_and, Bool.or_true, Bool.or_false, Bool.and_true, Bool.and_false]; done) | (simp_all; done) | (simp_all; omega)), trivial⟩, unw_take 13 rfl rfl⟩
    refine wl_m M (q_guard 1 rfl rfl rfl hg80 (q_move rfl)) rfl rfl ?_
    refine wl_m M (q_guard 1 rfl rfl rfl hg80 (q_move rfl)) rfl rfl ?_
    refine wl_m M (q_guard 1 rfl rfl rfl hg80 (q_move rfl)) rfl rfl ?_
    refine wl_m M (q_guard 1 rfl rfl rfl hg80 (q_mul (z := ((x4.toNat * (l.length + 1) : Nat) : Int)) rfl rfl (by rw [show x4 * ((l.length + 1 : Nat) : Int) = ((x4.toNat * (l.length + 1) : Nat) : Int) by rw [Int.natCast_mul, hf4]]; exact IntWalk.i64_in _ (by omega)))) rfl rfl ?_
    refine wl_m M (q_guard 1 rfl rfl rfl hg80 (q_move rfl)) rfl rfl ?_
    refine wl_m M (q_guard 1 rfl rfl rfl hg80 (q_add (z := ((x4.toNat * (l.length + 1) + (l.length + 1) : Nat) : Int)) rfl rfl (by rw [show ((x4.toNat * (l.length + 1) : Nat) : Int) + ((l.length + 1 : Nat) : Int) = ((x4.toNat * (l.length + 1) + (l.length + 1) : Nat) : Int) by rw [← Int.natCast_add]]; exact IntWalk.i64_in _ (by omega)))) rfl rfl ?_
    refine wl_m M (q_guard 1 rfl rfl rfl hg80 (q_sub (z := ((x4.toNat * (l.length + 1) + l.length : Nat) : Int)) rfl rfl (by rw [show ((x4.toNat * (l.length + 1) + (l.length + 1) : Nat) : Int) - 1 = ((x4.toNat * (l.length + 1) + l.length : Nat) : Int) by omega]; exact IntWalk.i64_in _ (by omega)))) rfl rfl ?_
    refine wl_ixG (j := (x4.toNat * (l.length + 1) + l.length)) 1 rfl rfl rfl hg80 M RS Tryd.underlying108 rfl rfl (getD_at (d := false) (by rw [hgl]; exact hj4)) rfl (fun b88 o88 p88 => ?_)
    refine wl_m M (q_guard 1 rfl rfl rfl hg80 (q_ldp p88 rfl rfl)) rfl rfl ?_
    refine wl_m M (q_pickF rfl hg80 rfl) rfl rfl ?_
    refine wl_as M rfl rfl ?_
    refine wl_nil ?_
    exact ⟨(), M, ⟨(show some (Value.bool (GS.getD (x4.toNat * (l.length + 1) + l.length) false)) = some (Value.bool (d4 || (GS.getD (x4.toNat * (l.length + 1) + l.length) false))) from by first | (simp only [hg80, Bool.true_or, Bool.false_or, Bool.true_and, Bool.false_and, Bool.or_true, Bool.or_false, Bool.and_true, Bool.and_false]; done) | (simp_all; done) | (simp_all; omega)), trivial⟩, unw_take 13 rfl rfl⟩
   rintro _ jr19 w11 M
   refine wc_region ?_
   refine wl_m M (q_add rfl rfl (IntWalk.i64_in _ (by omega))) rfl rfl ?_
   refine wl_mv M rfl rfl ?_
   refine wl_nil ?_
   refine ⟨(k4 + 1, (d4 || GS.getD (x4.toNat * (l.length + 1) + l.length) false)), ?_, ⟨(by omega), (by rw [take_snoc hx4, List.any_append, ← hd4]; simp), M⟩, ⟨rfl, rfl, trivial⟩, unw_look rfl (unw_hav rfl (unw_look rfl unw_base))⟩
   show t.finals.length - (k4 + 1) < t.finals.length - k4
   omega
  have hke4 : k4 = t.finals.length := by omega
  rw [hke4, List.take_length] at hd4
  refine wc_exit rfl ?_
  refine wc_seq ?_
  refine wc_region ?_
  refine wl_as M rfl rfl ?_
  refine wl_nil ?_
  refine wc_seq ?_
  refine wc_region ?_
  refine wl_m M (q_fa fo_25_0 rfl) rfl rfl ?_
  refine wl_m M (q_ldb 0 Tryd.underlying3 rfl rfl rfl rfl) rfl rfl ?_
  refine wl_mv M rfl rfl ?_
  refine wl_m M (q_mul (z := ((m * (l.length + 1) : Nat) : Int)) rfl rfl (by rw [show t.states * ((l.length + 1 : Nat) : Int) = ((m * (l.length + 1) : Nat) : Int) by rw [ht.st, ← Int.natCast_mul]]; exact IntWalk.i64_in _ (by omega))) rfl rfl ?_
  refine wl_e (e_make (E := EBool) (zv := false) (m := (m * (l.length + 1))) M Tryd.underlying108 z4 rfl rfl (by show _ * 1 ≤ _; omega)) rfl rfl ?_
  rintro _ w12 ⟨u96, rfl, M⟩
  refine wl_as M rfl rfl ?_
  refine wl_nil ?_
  refine wc_seq ?_
  refine wc_seq ?_
  refine wc_region ?_
  refine wl_m M (q_fa fo_25_3 rfl) rfl rfl ?_
  refine wl_m M (q_ldb 1 Tryd.underlying23 rfl rfl rfl rfl) rfl rfl ?_
  refine wl_m M (q_lenR (((((Ra1.mono hIE).mono hJ48).mono hIS0).mono hJ63).mono hIc) Tryd.underlying23 rfl) rfl rfl ?_
  refine wl_mv M rfl rfl ?_
  refine wl_nil ?_
  refine wc_block ?_
  refine wc_loop (α := Nat × Int × (List Bool)) [4, 15, 18, 19, 20, 100, 101, 102, 103, 104, 105, 106, 107, 108, 109, 110, 111, 112, 113, 114, 115, 116, 117, 118, 119, 120, 121, 122, 123, 124, 125, 126, 127, 128, 129, 130, 131, 132, 133, 134, 135, 136, 137, 138, 139, 140, 141, 142, 143, 144, 145, 146, 147, 148, 149, 150, 151, 152, 153, 154, 155, 156, 157, 158, 159, 160, 161, 162, 163, 164, 165, 166, 167, 168, 169, 170, 171, 172, 173, 174, 175, 176, 177, 178, 179, 180, 181, 182] (fun ((k6, nx6, l_96_6) : Nat × Int × (List Bool)) => [(15, .int .i32 nx6), (100, .int .i64 (k6 : Int))])
    (fun ((k6, nx6, l_96_6) : Nat × Int × (List Bool)) w' => (k6 ≤ t.arcs.length) ∧ (NxtOk (HitP t l GS G48) (l.length + 1) ((t.arcs.take k6).flatMap (pairsI (l.length + 1))) d4 nx6 l_96_6) ∧ (l_96_6.length = m * (l.length + 1)) ∧ Mem w I Ic (row EBool (sv u96) l_96_6 :: box b2 25 [.int .i64 t.states, .int .i64 t.start, sv fu1, sv au1] :: []) w')
    (fun ((k6, nx6, l_96_6) : Nat × Int × (List Bool)) => t.arcs.length - k6) (0, 0, List.replicate (m * (l.length + 1)) false) ⟨rfl, rfl, trivial⟩ ?_ ?_
  ·refine ⟨Nat.zero_le _, (NxtOk.init _), (by simp), ?_⟩
   exact M
  rintro ⟨k6, nx6, l_96_6⟩ jj6 w13 ⟨hk6, hN6, hA6, M⟩
  have hoIc := M.old
  refine wc_seq ?_
  refine wc_region ?_
  refine wl_m M (q_lss rfl rfl) rfl rfl ?_
  refine wl_nil ?_
  refine wc_seq ?_
  refine wc_dec rfl (fun ht101 => ?_) (fun ht101 => ?_)
  ·obtain ⟨x6, hx6⟩ : ∃ x_, t.arcs[k6]? = some x_ := ⟨_, List.getElem?_eq_getElem (by omega)⟩
   have hll6 := ((((((Ra1.mono hIE).mono hJ48).mono hIS0).mono hJ63).mono hIc)).len_le
   have hxm := List.mem_of_getElem? hx6
   have hxr := ht.arcs x6 hxm
   have hsr : ((x6.src.toNat : Nat) : Int) = x6.src := Int.toNat_of_nonneg hxr.1.1
   have hdr : ((x6.dst.toNat : Nat) : Int) = x6.dst := Int.toNat_of_nonneg hxr.2.1
   have hs1 : x6.src.toNat < m := by omega
   have hd1 : x6.dst.toNat < m := by omega
   have hm512 := ht.le
   have hsb : x6.src.toNat * (l.length + 1) ≤ 512 * 41 := Nat.mul_le_mul (by omega) (by omega)
   have hdb : x6.dst.toNat * (l.length + 1) ≤ 512 * 41 := Nat.mul_le_mul (by omega) (by omega)
   refine wc_skip ?_
   refine wc_seq ?_
   refine wc_block ?_
   refine wc_seq ?_
   refine wc_region ?_
   refine wl_ix (j := k6) M (((((Ra1.mono hIE).mono hJ48).mono hIS0).mono hJ63).mono hIc) Tryd.underlying23 rfl rfl hx6 rfl (fun b102 o102 p102 => ?_)
   refine wl_m M (q_ldp p102 rfl rfl) rfl rfl ?_
   refine wl_e (e_alloc M z48) rfl rfl ?_
   rintro _ w14 ⟨b18, rfl, M⟩
   refine wl_e0 (e_stW 0 M rfl rfl rfl sz48 rfl rfl) rfl ?_
   intro _ w15 M
   simp only [sC0, sCS] at M
   refine wl_nil ?_
   refine wc_seq ?_
   refine wc_region ?_
   refine wl_as M rfl rfl ?_
   refine wl_nil ?_
   refine wc_block ?_
   refine wc_loop (α := Nat × Int × (List Bool)) [4, 15, 19, 20, 104, 105, 106, 107, 108, 109, 110, 111, 112, 113, 114, 115, 116, 117, 118, 119, 120, 121, 122, 123, 124, 125, 126, 127, 128, 129, 130, 131, 132, 133, 134, 135, 136, 137, 138, 139, 140, 141, 142, 143, 144, 145, 146, 147, 148, 149, 150, 151, 152, 153, 154, 155, 156, 157, 158, 159, 160, 161, 162, 163, 164, 165, 166, 167, 168, 169, 170, 171, 172, 173, 174, 175, 176, 177, 178, 179, 180, 181] (fun ((k8, nx8, l_96_8) : Nat × Int × (List Bool)) => [(19, .int .i64 (k8 : Int)), (15, .int .i32 nx8)])
     (fun ((k8, nx8, l_96_8) : Nat × Int × (List Bool)) w' => (k8 ≤ l.length + 1) ∧ (NxtOk (HitP t l GS G48) (l.length + 1) ((t.arcs.take k6).flatMap (pairsI (l.length + 1)) ++ pairsI k8 x6) d4 nx8 l_96_8) ∧ (l_96_8.length = m * (l.length + 1)) ∧ Mem w I Ic (box b18 48 [.int .i64 x6.src, .int .i64 x6.dst, .int .i32 x6.inp, .int .i32 x6.out] :: row EBool (sv u96) l_96_8 :: box b2 25 [.int .i64 t.states, .int .i64 t.start, sv fu1, sv au1] :: []) w')
     (fun ((k8, nx8, l_96_8) : Nat × Int × (List Bool)) => (l.length + 1) - k8) (0, nx6, l_96_6) ⟨rfl, rfl, trivial⟩ ?_ ?_
   ·refine ⟨Nat.zero_le _, (by simpa [pairsI] using hN6), hA6, ?_⟩
    exact M
   rintro ⟨k8, nx8, l_96_8⟩ jj8 w16 ⟨hk8, hN8, hA8, M⟩
   have hoIc := M.old
   refine wc_seq ?_
   refine wc_seq ?_
   refine wc_join (α := Unit) [104, 105, 106, 107, 108, 109, 110, 111] (fun _ => [(111, .bool ((decide ((k8 : Int) < ((l.length + 1 : Nat) : Int))) && (!decide (x6.out = 0))))]) (fun _ w' => Mem w I Ic (box b18 48 [.int .i64 x6.src, .int .i64 x6.dst, .int .i32 x6.inp, .int .i32 x6.out] :: row EBool (sv u96) l_96_8 :: box b2 25 [.int .i64 t.states, .int .i64 t.start, sv fu1, sv au1] :: []) w') ?_ ?_
   ·refine wc_region ?_
    refine wl_mv M rfl rfl ?_
    refine wl_mv M rfl rfl ?_
    refine wl_m M (q_lss rfl rfl) rfl rfl ?_
    refine wl_mv M rfl rfl ?_
    rcases Bool.eq_false_or_eq_true (decide ((k8 : Int) < ((l.length + 1 : Nat) : Int))) with hg107 | hg107
    ·refine wl_m M (q_guard 3 rfl rfl rfl hg107 (q_fa fo_48_3 rfl)) rfl rfl ?_
     refine wl_m M (q_guard 3 rfl rfl rfl hg107 (q_ldb 0 Tryd.underlying21 rfl rfl rfl rfl)) rfl rfl ?_
     refine wl_m M (q_guard 3 rfl rfl rfl hg107 (q_neq rfl rfl)) rfl rfl ?_
     refine wl_m M (q_pickT rfl hg107 rfl) rfl rfl ?_
     refine wl_nil ?_
     exact ⟨(), M, ⟨(show some (Value.bool (!decide (x6.out = 0))) = some (Value.bool ((decide ((k8 : Int) < ((l.length + 1 : Nat) : Int))) && (!decide (x6.out = 0)))) from by first | (simp only [hg107, Bool.true_or, Bool.false_or, Bool.true_and, Bool.false_and, Bool.or_true, Bool.or_false, Bool.and_true, Bool.and_false]; done) | (simp_all; done) | (simp_all; omega)), trivial⟩, unw_take 8 rfl rfl⟩
    refine wl_m M (q_off 3 rfl rfl rfl hg107) rfl rfl ?_
    refine wl_m M (q_off 3 rfl rfl rfl hg107) rfl rfl ?_
    refine wl_m M (q_off 3 rfl rfl rfl hg107) rfl rfl ?_
    refine wl_m M (q_pickF rfl hg107 rfl) rfl rfl ?_
    refine wl_nil ?_
    exact ⟨(), M, ⟨(show some (Value.bool false) = some (Value.bool ((decide ((k8 : Int) < ((l.length + 1 : Nat) : Int))) && (!decide (x6.out = 0)))) from by first | (simp only [hg107, Bool.true_or, Bool.false_or, Bool.true_and, Bool.false_and, Bool.or_true, Bool.or_false, Bool.and_true, Bool.and_false]; done) | (simp_all; done) | (simp_all; omega)), trivial⟩, unw_take 8 rfl rfl⟩
   rintro _ jr27 w17 M
   refine wc_cond rfl (fun ht111 => ?_) (fun ht111 => ?_)
   ·rw [Bool.and_eq_true] at ht111
    have hk8l : k8 ≤ l.length := by have := of_decide_eq_true ht111.1; omega
    have ho6 : ¬ x6.out = 0 := by simpa using ht111.2
    have hj1 := nI_lt (w := l.length + 1) (i := k8) hs1 (by omega)
    refine wc_skip ?_
    refine wc_seq ?_
    refine wc_block ?_
    refine wc_seq ?_
    refine wc_region ?_
    refine wl_mv M rfl rfl ?_
    refine wl_as M rfl rfl ?_
    refine wl_nil ?_
    refine wc_seq ?_
    refine wc_seq ?_
    refine wc_region ?_
    refine wl_m M (q_fa fo_48_2 rfl) rfl rfl ?_
    refine wl_m M (q_ldb 0 Tryd.underlying21 rfl rfl rfl rfl) rfl rfl ?_
    refine wl_m M (q_neq rfl rfl) rfl rfl ?_
    refine wl_nil ?_
    refine wc_cond rfl (fun ht117 => ?_) (fun ht117 => ?_)
    ·refine wc_region ?_
     refine wl_mv M rfl rfl ?_
     refine wl_m M (q_add rfl rfl (IntWalk.i64_in _ (by omega))) rfl rfl ?_
     refine wl_as M rfl rfl ?_
     refine wl_nil ?_
     refine wc_seq ?_
     refine wc_seq ?_
     refine wc_join (α := Unit) [120, 121, 122, 123, 124, 125, 126, 127, 128, 129, 130, 131, 132, 133, 134, 135, 136, 137, 138, 139, 140, 141, 142, 143, 144, 145, 146, 147, 148, 149, 150, 151, 152, 153, 154, 155, 156, 157, 158, 159, 160] (fun _ => [(160, .bool ((((decide (((l.length + 1 : Nat) : Int) ≤ ((k8 : Int) + 1))) || ((!decide (x6.inp = 0)) && (!decide ((l.getD k8 0) = x6.inp)))) || (!(GS.getD (x6.src.toNat * (l.length + 1) + k8) false))) || (!(G48.getD (x6.dst.toNat * (l.length + 1) + (k8 + 1)) false))))]) (fun _ w' => Mem w I Ic (box b18 48 [.int .i64 x6.src, .int .i64 x6.dst, .int .i32 x6.inp, .int .i32 x6.out] :: row EBool (sv u96) l_96_8 :: box b2 25 [.int .i64 t.states, .int .i64 t.start, sv fu1, sv au1] :: []) w') ?_ ?_
     ·refine wc_draws (fun w' => Mem w I Ic (box b18 48 [.int .i64 x6.src, .int .i64 x6.dst, .int .i32 x6.inp, .int .i32 x6.out] :: row EBool (sv u96) l_96_8 :: box b2 25 [.int .i64 t.states, .int .i64 t.start, sv fu1, sv au1] :: []) w' ∧ True) [] fol ?_
      replace M := M.drew
      have hS := (⟨M, trivial⟩ : _ ∧ _)
      refine wa_q 0 rfl (by kernel_rfl) (q_move rfl) hS rfl rfl ?_
      refine wa_q 1 rfl (by kernel_rfl) (q_move rfl) hS rfl rfl ?_
      refine wa_q 2 rfl (by kernel_rfl) (q_geq rfl rfl) hS rfl rfl ?_
      refine wa_q 3 rfl (by kernel_rfl) (q_move rfl) hS rfl rfl ?_
      rcases Bool.eq_false_or_eq_true (decide (((l.length + 1 : Nat) : Int) ≤ ((k8 : Int) + 1))) with hg123 | hg123
      ·refine wa_q 4 rfl (by kernel_rfl) (q_off 3 rfl rfl rfl hg123) hS rfl rfl ?_
       refine wa_q 5 rfl (by kernel_rfl) (q_off 3 rfl rfl rfl hg123) hS rfl rfl ?_
       refine wa_q 6 rfl (by kernel_rfl) (q_off 3 rfl rfl rfl hg123) hS rfl rfl ?_
       refine wa_q 7 rfl (by kernel_rfl) (q_off 3 rfl rfl rfl hg123) hS rfl rfl ?_
       refine wa_q 8 rfl (by kernel_rfl) (q_offu 7 rfl rfl rfl) hS rfl rfl ?_
       refine wa_q 9 rfl (by kernel_rfl) (q_offu 7 rfl rfl rfl) hS rfl rfl ?_
       refine wa_q 10 rfl (by kernel_rfl) (q_offu 7 rfl rfl rfl) hS rfl rfl ?_
       refine wa_q 11 rfl (by kernel_rfl) (q_offu 7 rfl rfl rfl) hS rfl rfl ?_
       refine wa_q 12 rfl (by kernel_rfl) (q_offu 7 rfl rfl rfl) hS rfl rfl ?_
       refine wa_q 13 rfl (by kernel_rfl) (q_offu 7 rfl rfl rfl) hS rfl rfl ?_
       refine wa_q 14 rfl (by kernel_rfl) (q_offu 7 rfl rfl rfl) hS rfl rfl ?_
       refine wa_q 15 rfl (by kernel_rfl) (q_off 3 rfl rfl rfl hg123) hS rfl rfl ?_
       refine wa_q 16 rfl (by kernel_rfl) (q_pickT rfl hg123 rfl) hS rfl rfl ?_
       refine wa_q 17 rfl (by kernel_rfl) (q_move rfl) hS rfl rfl ?_
       refine wa_q 18 rfl (by kernel_rfl) (q_off 17 rfl rfl rfl rfl) hS rfl rfl ?_
       refine wa_q 19 rfl (by kernel_rfl) (q_off 17 rfl rfl rfl rfl) hS rfl rfl ?_
       refine wa_q 20 rfl (by kernel_rfl) (q_off 17 rfl rfl rfl rfl) hS rfl rfl ?_
       refine wa_q 21 rfl (by kernel_rfl) (q_off 17 rfl rfl rfl rfl) hS rfl rfl ?_
       refine wa_q 22 rfl (by kernel_rfl) (q_off 17 rfl rfl rfl rfl) hS rfl rfl ?_
       refine wa_q 23 rfl (by kernel_rfl) (q_off 17 rfl rfl rfl rfl) hS rfl rfl ?_
       refine wa_q 24 rfl (by kernel_rfl) (q_off 17 rfl rfl rfl rfl) hS rfl rfl ?_
       refine wa_q 25 rfl (by kernel_rfl) (q_off 17 rfl rfl rfl rfl) hS rfl rfl ?_
       refine wa_q 26 rfl (by kernel_rfl) (q_off 17 rfl rfl rfl rfl) hS rfl rfl ?_
       refine wa_q 27 rfl (by kernel_rfl) (q_off 17 rfl rfl rfl rfl) hS rfl rfl ?_
       refine wa_q 28 rfl (by kernel_rfl) (q_pickT rfl rfl rfl) hS rfl rfl ?_
       refine wa_q 29 rfl (by kernel_rfl) (q_move rfl) hS rfl rfl ?_
       refine wa_q 30 rfl (by kernel_rfl) (q_off 29 rfl rfl rfl rfl) hS rfl rfl ?_
       refine wa_q 31 rfl (by kernel_rfl) (q_off 29 rfl rfl rfl rfl) hS rfl rfl ?_
       refine wa_q 32 rfl (by kernel_rfl) (q_off 29 rfl rfl rfl rfl) hS rfl rfl ?_
       refine wa_q 33 rfl (by kernel_rfl) (q_off 29 rfl rfl rfl rfl) hS rfl rfl ?_
       refine wa_q 34 rfl (by kernel_rfl) (q_off 29 rfl rfl rfl rfl) hS rfl rfl ?_
       refine wa_q 35 rfl (by kernel_rfl) (q_off 29 rfl rfl rfl rfl) hS rfl rfl ?_
       refine wa_q 36 rfl (by kernel_rfl) (q_off 29 rfl rfl rfl rfl) hS rfl rfl ?_
       refine wa_q 37 rfl (by kernel_rfl) (q_off 29 rfl rfl rfl rfl) hS rfl rfl ?_
       refine wa_q 38 rfl (by kernel_rfl) (q_off 29 rfl rfl rfl rfl) hS rfl rfl ?_
       refine wa_q 39 rfl (by kernel_rfl) (q_off 29 rfl rfl rfl rfl) hS rfl rfl ?_
       refine wa_q 40 rfl (by kernel_rfl) (q_pickT rfl rfl rfl) hS rfl rfl ?_
       refine wa_done (by kernel_rfl) ?_
       exact ⟨(), M, ⟨(show some (Value.bool true) = some (Value.bool ((((decide (((l.length + 1 : Nat) : Int) ≤ ((k8 : Int) + 1))) || ((!decide (x6.inp = 0)) && (!decide ((l.getD k8 0) = x6.inp)))) || (!(GS.getD (x6.src.toNat * (l.length + 1) + k8) false))) || (!(G48.getD (x6.dst.toNat * (l.length + 1) + (k8 + 1)) false)))) from by first | (simp only [hg123, Bool.true_or, Bool.false_or, Bool.true_and, Bool.false_and, Bool.or_true, Bool.or_false, Bool.and_true, Bool.and_false]; done) | (simp_all; done) | (simp_all; omega)), trivial⟩, unw_take 41 rfl rfl⟩
      refine wa_q 4 rfl (by kernel_rfl) (q_guard 3 rfl rfl rfl hg123 (q_fa fo_48_2 rfl)) hS rfl rfl ?_
      refine wa_q 5 rfl (by kernel_rfl) ((q_guard 3 rfl rfl rfl hg123 (q_ldb 0 Tryd.underlying21 rfl rfl rfl rfl)).mono fun _ h => h.1) hS rfl rfl ?_
      refine wa_q 6 rfl (by kernel_rfl) (q_guard 3 rfl rfl rfl hg123 (q_neq rfl rfl)) hS rfl rfl ?_
      refine wa_q 7 rfl (by kernel_rfl) (q_guard 3 rfl rfl rfl hg123 (q_move rfl)) hS rfl rfl ?_
      rcases Bool.eq_false_or_eq_true (!decide (x6.inp = 0)) with hg127 | hg127
      ·refine wa_q 8 rfl (by kernel_rfl) (q_guard 7 rfl rfl rfl hg127 (q_move rfl)) hS rfl rfl ?_
       refine wa_q 9 rfl (by kernel_rfl) (q_guard 7 rfl rfl rfl hg127 (q_move rfl)) hS rfl rfl ?_
       have hkl9 : k8 < l.length := by have := of_decide_eq_false hg123; omega
       refine wa_ixSG (j := k8) 7 rfl rfl rfl hg127 10 hS (fun _ h => (((((Rl.mono hIE).mono hJ48).mono hIS0).mono hJ63).mono hIc).mono h.1.imm) rfl (by kernel_rfl) Tryd.underlying84 rfl rfl (getD_at (d := 0) hkl9) rfl (fun b130 o130 p130 => ?_)
       refine wa_q 11 rfl (by kernel_rfl) (q_guard 7 rfl rfl rfl hg127 (q_ldp p130 rfl rfl)) hS rfl rfl ?_
       refine wa_q 12 rfl (by kernel_rfl) (q_guard 7 rfl rfl rfl hg127 (q_fa fo_48_2 rfl)) hS rfl rfl ?_
       refine wa_q 13 rfl (by kernel_rfl) ((q_guard 7 rfl rfl rfl hg127 (q_ldb 0 Tryd.underlying21 rfl rfl rfl rfl)).mono fun _ h => h.1) hS rfl rfl ?_
       refine wa_q 14 rfl (by kernel_rfl) (q_guard 7 rfl rfl rfl hg127 (q_neq rfl rfl)) hS rfl rfl ?_
       refine wa_q 15 rfl (by kernel_rfl) (q_guard 3 rfl rfl rfl hg123 (q_pickT rfl hg127 rfl)) hS rfl rfl ?_
       refine wa_q 16 rfl (by kernel_rfl) (q_pickF rfl hg123 rfl) hS rfl rfl ?_
       refine wa_q 17 rfl (by kernel_rfl) (q_move rfl) hS rfl rfl ?_
       rcases Bool.eq_false_or_eq_true (!decide ((l.getD k8 0) = x6.inp)) with hg137 | hg137
       ·refine wa_q 18 rfl (by kernel_rfl) (q_off 17 rfl rfl rfl hg137) hS rfl rfl ?_
        refine wa_q 19 rfl (by kernel_rfl) (q_off 17 rfl rfl rfl hg137) hS rfl rfl ?_
        refine wa_q 20 rfl (by kernel_rfl) (q_off 17 rfl rfl rfl hg137) hS rfl rfl ?_
        refine wa_q 21 rfl (by kernel_rfl) (q_off 17 rfl rfl rfl hg137) hS rfl rfl ?_
        refine wa_q 22 rfl (by kernel_rfl) (q_off 17 rfl rfl rfl hg137) hS rfl rfl ?_
        refine wa_q 23 rfl (by kernel_rfl) (q_off 17 rfl rfl rfl hg137) hS rfl rfl ?_
        refine wa_q 24 rfl (by kernel_rfl) (q_off 17 rfl rfl rfl hg137) hS rfl rfl ?_
        refine wa_q 25 rfl (by kernel_rfl) (q_off 17 rfl rfl rfl hg137) hS rfl rfl ?_
        refine wa_q 26 rfl (by kernel_rfl) (q_off 17 rfl rfl rfl hg137) hS rfl rfl ?_
        refine wa_q 27 rfl (by kernel_rfl) (q_off 17 rfl rfl rfl hg137) hS rfl rfl ?_
        refine wa_q 28 rfl (by kernel_rfl) (q_pickT rfl hg137 rfl) hS rfl rfl ?_
        refine wa_q 29 rfl (by kernel_rfl) (q_move rfl) hS rfl rfl ?_
        refine wa_q 30 rfl (by kernel_rfl) (q_off 29 rfl rfl rfl rfl) hS rfl rfl ?_
        refine wa_q 31 rfl (by kernel_rfl) (q_off 29 rfl rfl rfl rfl) hS rfl rfl ?_
        refine wa_q 32 rfl (by kernel_rfl) (q_off 29 rfl rfl rfl rfl) hS rfl rfl ?_
        refine wa_q 33 rfl (by kernel_rfl) (q_off 29 rfl rfl rfl rfl) hS rfl rfl ?_
        refine wa_q 34 rfl (by kernel_rfl) (q_off 29 rfl rfl rfl rfl) hS rfl rfl ?_
        refine wa_q 35 rfl (by kernel_rfl) (q_off 29 rfl rfl rfl rfl) hS rfl rfl ?_
        refine wa_q 36 rfl (by kernel_rfl) (q_off 29 rfl rfl rfl rfl) hS rfl rfl ?_
        refine wa_q 37 rfl (by kernel_rfl) (q_off 29 rfl rfl rfl rfl) hS rfl rfl ?_
        refine wa_q 38 rfl (by kernel_rfl) (q_off 29 rfl rfl rfl rfl) hS rfl rfl ?_
        refine wa_q 39 rfl (by kernel_rfl) (q_off 29 rfl rfl rfl rfl) hS rfl rfl ?_
        refine wa_q 40 rfl (by kernel_rfl) (q_pickT rfl rfl rfl) hS rfl rfl ?_
        refine wa_done (by kernel_rfl) ?_
        exact ⟨(), M, ⟨(show some (Value.bool true) = some (Value.bool ((((decide (((l.length + 1 : Nat) : Int) ≤ ((k8 : Int) + 1))) || ((!decide (x6.inp = 0)) && (!decide ((l.getD k8 0) = x6.inp)))) || (!(GS.getD (x6.src.toNat * (l.length + 1) + k8) false))) || (!(G48.getD (x6.dst.toNat * (l.length + 1) + (k8 + 1)) false)))) from by first | (simp only [hg123, hg127, hg137, Bool.true_or, Bool.false_or, Bool.true_and, Bool.false_and, Bool.or_true, Bool.or_false, Bool.and_true, Bool.and_false]; done) | (simp_all; done) | (simp_all; omega)), trivial⟩, unw_take 41 rfl rfl⟩
       refine wa_q 18 rfl (by kernel_rfl) (q_guard 17 rfl rfl rfl hg137 (q_move rfl)) hS rfl rfl ?_
       refine wa_q 19 rfl (by kernel_rfl) (q_guard 17 rfl rfl rfl hg137 (q_fa fo_48_0 rfl)) hS rfl rfl ?_
       refine wa_q 20 rfl (by kernel_rfl) ((q_guard 17 rfl rfl rfl hg137 (q_ldb 0 Tryd.underlying3 rfl rfl rfl rfl)).mono fun _ h => h.1) hS rfl rfl ?_
       refine wa_q 21 rfl (by kernel_rfl) (q_guard 17 rfl rfl rfl hg137 (q_move rfl)) hS rfl rfl ?_
       refine wa_q 22 rfl (by kernel_rfl) (q_guard 17 rfl rfl rfl hg137 (q_mul (z := ((x6.src.toNat * (l.length + 1) : Nat) : Int)) rfl rfl (by rw [show x6.src * ((l.length + 1 : Nat) : Int) = ((x6.src.toNat * (l.length + 1) : Nat) : Int) by rw [Int.natCast_mul, hsr]]; exact IntWalk.i64_in _ (by omega)))) hS rfl rfl ?_
       refine wa_q 23 rfl (by kernel_rfl) (q_guard 17 rfl rfl rfl hg137 (q_move rfl)) hS rfl rfl ?_
       refine wa_q 24 rfl (by kernel_rfl) (q_guard 17 rfl rfl rfl hg137 (q_add (z := ((x6.src.toNat * (l.length + 1) + k8 : Nat) : Int)) rfl rfl (by rw [show ((x6.src.toNat * (l.length + 1) : Nat) : Int) + (k8 : Int) = ((x6.src.toNat * (l.length + 1) + k8 : Nat) : Int) by simp]; exact IntWalk.i64_in _ (by omega)))) hS rfl rfl ?_
       refine wa_ixSG (j := (x6.src.toNat * (l.length + 1) + k8)) 17 rfl rfl rfl hg137 25 hS (fun _ h => RS.mono h.1.imm) rfl (by kernel_rfl) Tryd.underlying108 rfl rfl (getD_at (d := false) (by rw [hgl]; exact hj1)) rfl (fun b145 o145 p145 => ?_)
       refine wa_q 26 rfl (by kernel_rfl) (q_guard 17 rfl rfl rfl hg137 (q_ldp p145 rfl rfl)) hS rfl rfl ?_
       refine wa_q 27 rfl (by kernel_rfl) (q_guard 17 rfl rfl rfl hg137 (q_not rfl)) hS rfl rfl ?_
       refine wa_q 28 rfl (by kernel_rfl) (q_pickF rfl hg137 rfl) hS rfl rfl ?_
       refine wa_q 29 rfl (by kernel_rfl) (q_move rfl) hS rfl rfl ?_
       rcases Bool.eq_false_or_eq_true (!(GS.getD (x6.src.toNat * (l.length + 1) + k8) false)) with hg149 | hg149
       ·refine wa_q 30 rfl (by kernel_rfl) (q_off 29 rfl rfl rfl hg149) hS rfl rfl ?_
        refine wa_q 31 rfl (by kernel_rfl) (q_off 29 rfl rfl rfl hg149) hS rfl rfl ?_
        refine wa_q 32 rfl (by kernel_rfl) (q_off 29 rfl rfl rfl hg149) hS rfl rfl ?_
        refine wa_q 33 rfl (by kernel_rfl) (q_off 29 rfl rfl rfl hg149) hS rfl rfl ?_
        refine wa_q 34 rfl (by kernel_rfl) (q_off 29 rfl rfl rfl hg149) hS rfl rfl ?_
        refine wa_q 35 rfl (by kernel_rfl) (q_off 29 rfl rfl rfl hg149) hS rfl rfl ?_
        refine wa_q 36 rfl (by kernel_rfl) (q_off 29 rfl rfl rfl hg149) hS rfl rfl ?_
        refine wa_q 37 rfl (by kernel_rfl) (q_off 29 rfl rfl rfl hg149) hS rfl rfl ?_
        refine wa_q 38 rfl (by kernel_rfl) (q_off 29 rfl rfl rfl hg149) hS rfl rfl ?_
        refine wa_q 39 rfl (by kernel_rfl) (q_off 29 rfl rfl rfl hg149) hS rfl rfl ?_
        refine wa_q 40 rfl (by kernel_rfl) (q_pickT rfl hg149 rfl) hS rfl rfl ?_
        refine wa_done (by kernel_rfl) ?_
        exact ⟨(), M, ⟨(show some (Value.bool true) = some (Value.bool ((((decide (((l.length + 1 : Nat) : Int) ≤ ((k8 : Int) + 1))) || ((!decide (x6.inp = 0)) && (!decide ((l.getD k8 0) = x6.inp)))) || (!(GS.getD (x6.src.toNat * (l.length + 1) + k8) false))) || (!(G48.getD (x6.dst.toNat * (l.length + 1) + (k8 + 1)) false)))) from by first | (simp only [hg123, hg127, hg137, hg149, Bool.true_or, Bool.false_or, Bool.true_and, Bool.false_and, Bool.or_true, Bool.or_false, Bool.and_true, Bool.and_false]; done) | (simp_all; done) | (simp_all; omega)), trivial⟩, unw_take 41 rfl rfl⟩
       refine wa_q 30 rfl (by kernel_rfl) (q_guard 29 rfl rfl rfl hg149 (q_move rfl)) hS rfl rfl ?_
       refine wa_q 31 rfl (by kernel_rfl) (q_guard 29 rfl rfl rfl hg149 (q_fa fo_48_1 rfl)) hS rfl rfl ?_
       refine wa_q 32 rfl (by kernel_rfl) ((q_guard 29 rfl rfl rfl hg149 (q_ldb 0 Tryd.underlying3 rfl rfl rfl rfl)).mono fun _ h => h.1) hS rfl rfl ?_
       refine wa_q 33 rfl (by kernel_rfl) (q_guard 29 rfl rfl rfl hg149 (q_move rfl)) hS rfl rfl ?_
       refine wa_q 34 rfl (by kernel_rfl) (q_guard 29 rfl rfl rfl hg149 (q_mul (z := ((x6.dst.toNat * (l.length + 1) : Nat) : Int)) rfl rfl (by rw [show x6.dst * ((l.length + 1 : Nat) : Int) = ((x6.dst.toNat * (l.length + 1) : Nat) : Int) by rw [Int.natCast_mul, hdr]]; exact IntWalk.i64_in _ (by omega)))) hS rfl rfl ?_
       refine wa_q 35 rfl (by kernel_rfl) (q_guard 29 rfl rfl rfl hg149 (q_move rfl)) hS rfl rfl ?_
       refine wa_q 36 rfl (by kernel_rfl) (q_guard 29 rfl rfl rfl hg149 (q_add (z := ((x6.dst.toNat * (l.length + 1) + (k8 + 1) : Nat) : Int)) rfl rfl (by rw [show ((x6.dst.toNat * (l.length + 1) : Nat) : Int) + ((k8 : Int) + 1) = ((x6.dst.toNat * (l.length + 1) + (k8 + 1) : Nat) : Int) by simp]; exact IntWalk.i64_in _ (by omega)))) hS rfl rfl ?_
       have hj29 := nI_lt (w := l.length + 1) (i := k8 + 1) hd1 (by have := of_decide_eq_false hg123; omega)
       refine wa_ixSG (j := (x6.dst.toNat * (l.length + 1) + (k8 + 1))) 29 rfl rfl rfl hg149 37 hS (fun _ h => (((R48.mono hIS0).mono hJ63).mono hIc).mono h.1.imm) rfl (by kernel_rfl) Tryd.underlying108 rfl rfl (getD_at (d := false) (by rw [hGr48.len, hEl]; exact hj29)) rfl (fun b157 o157 p157 => ?_)
       refine wa_q 38 rfl (by kernel_rfl) (q_guard 29 rfl rfl rfl hg149 (q_ldp p157 rfl rfl)) hS rfl rfl ?_
       refine wa_q 39 rfl (by kernel_rfl) (q_guard 29 rfl rfl rfl hg149 (q_not rfl)) hS rfl rfl ?_
       refine wa_q 40 rfl (by kernel_rfl) (q_pickF rfl hg149 rfl) hS rfl rfl ?_
       refine wa_done (by kernel_rfl) ?_
       exact ⟨(), M, ⟨(show some (Value.bool (!(G48.getD (x6.dst.toNat * (l.length + 1) + (k8 + 1)) false))) = some (Value.bool ((((decide (((l.length + 1 : Nat) : Int) ≤ ((k8 : Int) + 1))) || ((!decide (x6.inp = 0)) && (!decide ((l.getD k8 0) = x6.inp)))) || (!(GS.getD (x6.src.toNat * (l.length + 1) + k8) false))) || (!(G48.getD (x6.dst.toNat * (l.length + 1) + (k8 + 1)) false)))) from by first | (simp only [hg123, hg127, hg137, hg149, Bool.true_or, Bool.false_or, Bool.true_and, Bool.false_and, Bool.or_true, Bool.or_false, Bool.and_true, Bool.and_false]; done) | (simp_all; done) | (simp_all; omega)), trivial⟩, unw_take 41 rfl rfl⟩
      refine wa_q 8 rfl (by kernel_rfl) (q_off 7 rfl rfl rfl hg127) hS rfl rfl ?_
      refine wa_q 9 rfl (by kernel_rfl) (q_off 7 rfl rfl rfl hg127) hS rfl rfl ?_
      refine wa_q 10 rfl (by kernel_rfl) (q_off 7 rfl rfl rfl hg127) hS rfl rfl ?_
      refine wa_q 11 rfl (by kernel_rfl) (q_off 7 rfl rfl rfl hg127) hS rfl rfl ?_
      refine wa_q 12 rfl (by kernel_rfl) (q_off 7 rfl rfl rfl hg127) hS rfl rfl ?_
      refine wa_q 13 rfl (by kernel_rfl) (q_off 7 rfl rfl rfl hg127) hS rfl rfl ?_
      refine wa_q 14 rfl (by kernel_rfl) (q_off 7 rfl rfl rfl hg127) hS rfl rfl ?_
      refine wa_q 15 rfl (by kernel_rfl) (q_guard 3 rfl rfl rfl hg123 (q_pickF rfl hg127 rfl)) hS rfl rfl ?_
      refine wa_q 16 rfl (by kernel_rfl) (q_pickF rfl hg123 rfl) hS rfl rfl ?_
      refine wa_q 17 rfl (by kernel_rfl) (q_move rfl) hS rfl rfl ?_
      refine wa_q 18 rfl (by kernel_rfl) (q_guard 17 rfl rfl rfl rfl (q_move rfl)) hS rfl rfl ?_
      refine wa_q 19 rfl (by kernel_rfl) (q_guard 17 rfl rfl rfl rfl (q_fa fo_48_0 rfl)) hS rfl rfl ?_
      refine wa_q 20 rfl (by kernel_rfl) ((q_guard 17 rfl rfl rfl rfl (q_ldb 0 Tryd.underlying3 rfl rfl rfl rfl)).mono fun _ h => h.1) hS rfl rfl ?_
      refine wa_q 21 rfl (by kernel_rfl) (q_guard 17 rfl rfl rfl rfl (q_move rfl)) hS rfl rfl ?_
      refine wa_q 22 rfl (by kernel_rfl) (q_guard 17 rfl rfl rfl rfl (q_mul (z := ((x6.src.toNat * (l.length + 1) : Nat) : Int)) rfl rfl (by rw [show x6.src * ((l.length + 1 : Nat) : Int) = ((x6.src.toNat * (l.length + 1) : Nat) : Int) by rw [Int.natCast_mul, hsr]]; exact IntWalk.i64_in _ (by omega)))) hS rfl rfl ?_
      refine wa_q 23 rfl (by kernel_rfl) (q_guard 17 rfl rfl rfl rfl (q_move rfl)) hS rfl rfl ?_
      refine wa_q 24 rfl (by kernel_rfl) (q_guard 17 rfl rfl rfl rfl (q_add (z := ((x6.src.toNat * (l.length + 1) + k8 : Nat) : Int)) rfl rfl (by rw [show ((x6.src.toNat * (l.length + 1) : Nat) : Int) + (k8 : Int) = ((x6.src.toNat * (l.length + 1) + k8 : Nat) : Int) by simp]; exact IntWalk.i64_in _ (by omega)))) hS rfl rfl ?_
      refine wa_ixSG (j := (x6.src.toNat * (l.length + 1) + k8)) 17 rfl rfl rfl rfl 25 hS (fun _ h => RS.mono h.1.imm) rfl (by kernel_rfl) Tryd.underlying108 rfl rfl (getD_at (d := false) (by rw [hgl]; exact hj1)) rfl (fun b145 o145 p145 => ?_)
      refine wa_q 26 rfl (by kernel_rfl) (q_guard 17 rfl rfl rfl rfl (q_ldp p145 rfl rfl)) hS rfl rfl ?_
      refine wa_q 27 rfl (by kernel_rfl) (q_guard 17 rfl rfl rfl rfl (q_not rfl)) hS rfl rfl ?_
      refine wa_q 28 rfl (by kernel_rfl) (q_pickF rfl rfl rfl) hS rfl rfl ?_
      refine wa_q 29 rfl (by kernel_rfl) (q_move rfl) hS rfl rfl ?_
      rcases Bool.eq_false_or_eq_true (!(GS.getD (x6.src.toNat * (l.length + 1) + k8) false)) with hg149 | hg149
      ·refine wa_q 30 rfl (by kernel_rfl) (q_off 29 rfl rfl rfl hg149) hS rfl rfl ?_
       refine wa_q 31 rfl (by kernel_rfl) (q_off 29 rfl rfl rfl hg149) hS rfl rfl ?_
       refine wa_q 32 rfl (by kernel_rfl) (q_off 29 rfl rfl rfl hg149) hS rfl rfl ?_
       refine wa_q 33 rfl (by kernel_rfl) (q_off 29 rfl rfl rfl hg149) hS rfl rfl ?_
       refine wa_q 34 rfl (by kernel_rfl) (q_off 29 rfl rfl rfl hg149) hS rfl rfl ?_
       refine wa_q 35 rfl (by kernel_rfl) (q_off 29 rfl rfl rfl hg149) hS rfl rfl ?_
       refine wa_q 36 rfl (by kernel_rfl) (q_off 29 rfl rfl rfl hg149) hS rfl rfl ?_
       refine wa_q 37 rfl (by kernel_rfl) (q_off 29 rfl rfl rfl hg149) hS rfl rfl ?_
       refine wa_q 38 rfl (by kernel_rfl) (q_off 29 rfl rfl rfl hg149) hS rfl rfl ?_
       refine wa_q 39 rfl (by kernel_rfl) (q_off 29 rfl rfl rfl hg149) hS rfl rfl ?_
       refine wa_q 40 rfl (by kernel_rfl) (q_pickT rfl hg149 rfl) hS rfl rfl ?_
       refine wa_done (by kernel_rfl) ?_
       exact ⟨(), M, ⟨(show some (Value.bool true) = some (Value.bool ((((decide (((l.length + 1 : Nat) : Int) ≤ ((k8 : Int) + 1))) || ((!decide (x6.inp = 0)) && (!decide ((l.getD k8 0) = x6.inp)))) || (!(GS.getD (x6.src.toNat * (l.length + 1) + k8) false))) || (!(G48.getD (x6.dst.toNat * (l.length + 1) + (k8 + 1)) false)))) from by first | (simp only [hg123, hg127, hg149, Bool.true_or, Bool.false_or, Bool.true_and, Bool.false_and, Bool.or_true, Bool.or_false, Bool.and_true, Bool.and_false]; done) | (simp_all; done) | (simp_all; omega)), trivial⟩, unw_take 41 rfl rfl⟩
      refine wa_q 30 rfl (by kernel_rfl) (q_guard 29 rfl rfl rfl hg149 (q_move rfl)) hS rfl rfl ?_
      refine wa_q 31 rfl (by kernel_rfl) (q_guard 29 rfl rfl rfl hg149 (q_fa fo_48_1 rfl)) hS rfl rfl ?_
      refine wa_q 32 rfl (by kernel_rfl) ((q_guard 29 rfl rfl rfl hg149 (q_ldb 0 Tryd.underlying3 rfl rfl rfl rfl)).mono fun _ h => h.1) hS rfl rfl ?_
      refine wa_q 33 rfl (by kernel_rfl) (q_guard 29 rfl rfl rfl hg149 (q_move rfl)) hS rfl rfl ?_
      refine wa_q 34 rfl (by kernel_rfl) (q_guard 29 rfl rfl rfl hg149 (q_mul (z := ((x6.dst.toNat * (l.length + 1) : Nat) : Int)) rfl rfl (by rw [show x6.dst * ((l.length + 1 : Nat) : Int) = ((x6.dst.toNat * (l.length + 1) : Nat) : Int) by rw [Int.natCast_mul, hdr]]; exact IntWalk.i64_in _ (by omega)))) hS rfl rfl ?_
      refine wa_q 35 rfl (by kernel_rfl) (q_guard 29 rfl rfl rfl hg149 (q_move rfl)) hS rfl rfl ?_
      refine wa_q 36 rfl (by kernel_rfl) (q_guard 29 rfl rfl rfl hg149 (q_add (z := ((x6.dst.toNat * (l.length + 1) + (k8 + 1) : Nat) : Int)) rfl rfl (by rw [show ((x6.dst.toNat * (l.length + 1) : Nat) : Int) + ((k8 : Int) + 1) = ((x6.dst.toNat * (l.length + 1) + (k8 + 1) : Nat) : Int) by simp]; exact IntWalk.i64_in _ (by omega)))) hS rfl rfl ?_
      have hj29 := nI_lt (w := l.length + 1) (i := k8 + 1) hd1 (by have := of_decide_eq_false hg123; omega)
      refine wa_ixSG (j := (x6.dst.toNat * (l.length + 1) + (k8 + 1))) 29 rfl rfl rfl hg149 37 hS (fun _ h => (((R48.mono hIS0).mono hJ63).mono hIc).mono h.1.imm) rfl (by kernel_rfl) Tryd.underlying108 rfl rfl (getD_at (d := false) (by rw [hGr48.len, hEl]; exact hj29)) rfl (fun b157 o157 p157 => ?_)
      refine wa_q 38 rfl (by kernel_rfl) (q_guard 29 rfl rfl rfl hg149 (q_ldp p157 rfl rfl)) hS rfl rfl ?_
      refine wa_q 39 rfl (by kernel_rfl) (q_guard 29 rfl rfl rfl hg149 (q_not rfl)) hS rfl rfl ?_
      refine wa_q 40 rfl (by kernel_rfl) (q_pickF rfl hg149 rfl) hS rfl rfl ?_
      refine wa_done (by kernel_rfl) ?_
      exact ⟨(), M, ⟨(show some (Value.bool (!(G48.getD (x6.dst.toNat * (l.length + 1) + (k8 + 1)) false))) = some (Value.bool ((((decide (((l.length + 1 : Nat) : Int) ≤ ((k8 : Int) + 1))) || ((!decide (x6.inp = 0)) && (!decide ((l.getD k8 0) = x6.inp)))) || (!(GS.getD (x6.src.toNat * (l.length + 1) + k8) false))) || (!(G48.getD (x6.dst.toNat * (l.length + 1) + (k8 + 1)) false)))) from by first | (simp only [hg123, hg127, hg149, Bool.true_or, Bool.false_or, Bool.true_and, Bool.false_and, Bool.or_true, Bool.or_false, Bool.and_true, Bool.and_false]; done) | (simp_all; done) | (simp_all; omega)), trivial⟩, unw_take 41 rfl rfl⟩
     rintro _ jr32 w18 M
     refine wc_cond rfl (fun ht160 => ?_) (fun ht160 => ?_)
     ·have hnh : ¬ HitP t l GS G48 x6 k8 := fun h9 => by
        obtain ⟨_, _, _, hf9, h91, h92⟩ := h9
        rcases Bool.or_eq_true_iff.1 ht160 with h160 | h160
        · rcases Bool.or_eq_true_iff.1 h160 with h160 | h160
          · rw [fit_no2 (nd_t ht117) h160 rfl rfl] at hf9; cases hf9
          · rw [on_getD.1 h91] at h160; cases h160
        · rw [show (eatK k8 x6.inp).toNat = k8 + 1 from by rw [eatK, if_neg (nd_t ht117)]; rfl] at h92
          rw [on_getD.1 h92] at h160; cases h160
      refine wc_exit rfl ?_
      refine wc_region ?_
      refine wl_mv M rfl rfl ?_
      refine wl_m M (q_add rfl rfl (IntWalk.i64_in _ (by omega))) rfl rfl ?_
      refine wl_as M rfl rfl ?_
      refine wl_nil ?_
      refine ⟨(k8 + 1, nx8, l_96_8), ?_, ⟨(by omega), (by rw [pairsI_snoc, ← List.append_assoc]; exact hN8.skip _ (fun e_ he_ => by rw [List.mem_singleton.1 he_]; exact hnh)), hA8, M⟩, ⟨rfl, rfl, trivial⟩, unw_look rfl (unw_hav rfl (unw_look rfl (unw_hav rfl (unw_look rfl unw_base))))⟩
      show (l.length + 1) - (k8 + 1) < (l.length + 1) - k8
      omega
     obtain ⟨h12, h3⟩ := Bool.or_eq_false_iff.1 ht160
     obtain ⟨h1, h2⟩ := Bool.or_eq_false_iff.1 h12
     obtain ⟨hfit, heat, hkl⟩ := fit_yes2 (l := l) (i := k8) (nd_t ht117) h1 rfl rfl
     have hP : HitP t l GS G48 x6 k8 := ⟨hxm, by omega, ho6, hfit, on_getD.2 (by simpa using h2), by rw [heat]; exact on_getD.2 (by simpa using h3)⟩
     have hj2 := nI_lt (w := l.length + 1) (i := k8 + 1) hd1 (by omega)
     refine wc_skip ?_
     refine wc_seq ?_
     refine wc_seq ?_
     refine wc_join (α := Unit) [161, 162, 163, 164, 165, 166, 167, 168, 169, 170, 171] (fun _ => [(171, .bool (d4 || ((!decide (nx8 = 0)) && (!decide (nx8 = x6.out)))))]) (fun _ w' => Mem w I Ic (box b18 48 [.int .i64 x6.src, .int .i64 x6.dst, .int .i32 x6.inp, .int .i32 x6.out] :: row EBool (sv u96) l_96_8 :: box b2 25 [.int .i64 t.states, .int .i64 t.start, sv fu1, sv au1] :: []) w') ?_ ?_
     ·refine wc_region ?_
      refine wl_mv M rfl rfl ?_
      refine wl_mv M rfl rfl ?_
      rcases Bool.eq_false_or_eq_true (d4) with hg162 | hg162
      ·refine wl_m M (q_off 1 rfl rfl rfl hg162) rfl rfl ?_
       refine wl_m M (q_off 1 rfl rfl rfl hg162) rfl rfl ?_
       refine wl_m M (q_off 1 rfl rfl rfl hg162) rfl rfl ?_
       refine wl_m M (q_offu 4 rfl rfl rfl) rfl rfl ?_
       refine wl_m M (q_offu 4 rfl rfl rfl) rfl rfl ?_
       refine wl_m M (q_offu 4 rfl rfl rfl) rfl rfl ?_
       refine wl_m M (q_offu 4 rfl rfl rfl) rfl rfl ?_
       refine wl_m M (q_off 1 rfl rfl rfl hg162) rfl rfl ?_
       refine wl_m M (q_pickT rfl hg162 rfl) rfl rfl ?_
       refine wl_nil ?_
       exact ⟨(), M, ⟨(show some (Value.bool true) = some (Value.bool (d4 || ((!decide (nx8 = 0)) && (!decide (nx8 = x6.out))))) from by first | (simp only [hg162, Bool.true_or, Bool.false_or, Bool.true_and, Bool.false_and, Bool.or_true, Bool.or_false, Bool.and_true, Bool.and_false]; done) | (simp_all; done) | (simp_all; omega)), trivial⟩, unw_take 11 rfl rfl⟩
      refine wl_m M (q_guard 1 rfl rfl rfl hg162 (q_move rfl)) rfl rfl ?_
      refine wl_m M (q_guard 1 rfl rfl rfl hg162 (q_neq rfl rfl)) rfl rfl ?_
      refine wl_m M (q_guard 1 rfl rfl rfl hg162 (q_move rfl)) rfl rfl ?_
      rcases Bool.eq_false_or_eq_true (!decide (nx8 = 0)) with hg165 | hg165
      ·refine wl_m M (q_guard 4 rfl rfl rfl hg165 (q_move rfl)) rfl rfl ?_
       refine wl_m M (q_guard 4 rfl rfl rfl hg165 (q_fa fo_48_3 rfl)) rfl rfl ?_
       refine wl_m M (q_guard 4 rfl rfl rfl hg165 (q_ldb 0 Tryd.underlying21 rfl rfl rfl rfl)) rfl rfl ?_
       refine wl_m M (q_guard 4 rfl rfl rfl hg165 (q_neq rfl rfl)) rfl rfl ?_
       refine wl_m M (q_guard 1 rfl rfl rfl hg162 (q_pickT rfl hg165 rfl)) rfl rfl ?_
       refine wl_m M (q_pickF rfl hg162 rfl) rfl rfl ?_
       refine wl_nil ?_
       exact ⟨(), M, ⟨(show some (Value.bool (!decide (nx8 = x6.out))) = some (Value.bool (d4 || ((!decide (nx8 = 0)) && (!decide (nx8 = x6.out))))) from by first | (simp only [hg162, hg165, Bool.true_or, Bool.false_or, Bool.true_and, Bool.false_and, Bool.or_true, Bool.or_false, Bool.and_true, Bool.and_false]; done) | (simp_all; done) | (simp_all; omega)), trivial⟩, unw_take 11 rfl rfl⟩
      refine wl_m M (q_off 4 rfl rfl rfl hg165) rfl rfl ?_
      refine wl_m M (q_off 4 rfl rfl rfl hg165) rfl rfl ?_
      refine wl_m M (q_off 4 rfl rfl rfl hg165) rfl rfl ?_
      refine wl_m M (q_off 4 rfl rfl rfl hg165) rfl rfl ?_
      refine wl_m M (q_guard 1 rfl rfl rfl hg162 (q_pickF rfl hg165 rfl)) rfl rfl ?_
      refine wl_m M (q_pickF rfl hg162 rfl) rfl rfl ?_
      refine wl_nil ?_
      exact ⟨(), M, ⟨(show some (Value.bool false) = some (Value.bool (d4 || ((!decide (nx8 = 0)) && (!decide (nx8 = x6.out))))) from by first | (simp only [hg162, hg165, Bool.true_or, Bool.false_or, Bool.true_and, Bool.false_and, Bool.or_true, Bool.or_false, Bool.and_true, Bool.and_false]; done) | (simp_all; done) | (simp_all; omega)), trivial⟩, unw_take 11 rfl rfl⟩
     rintro _ jr33 w19 M
     refine wc_cond rfl (fun ht171 => ?_) (fun ht171 => ?_)
     ·refine wc_seq ?_
      refine wc_region ?_
      refine wl_as M rfl rfl ?_
      refine wl_nil ?_
      refine wc_ret ?_
      have hns : ¬ Single t l := by
        rcases Bool.or_eq_true_iff.1 ht171 with h | h
        · exact ref_done ht hfin hE hGr48 hS hP (any_done.1 (hd4 ▸ h))
        · rw [Bool.and_eq_true] at h
          obtain ⟨⟨e, he0, he⟩, hall⟩ := hN8.som (by simpa using h.1)
          exact ref_two ht hfin hE hGr48 hS he hP (by rw [hall e he0 he]; simpa using h.2)
      exact out1 rfl rfl ⟨_, _, rfl, M.grow, by rw [sglB_false hns]⟩
     rw [Bool.or_eq_false_iff] at ht171
     obtain ⟨hd9, hn9a⟩ := ht171
     have hn9 : nx8 = 0 ∨ nx8 = x6.out := by
       by_cases h : nx8 = 0
       · exact .inl h
       · right; simpa [h] using hn9a
     refine wc_skip ?_
     refine wc_seq ?_
     refine wc_region ?_
     refine wl_m M (q_fa fo_48_3 rfl) rfl rfl ?_
     refine wl_m M (q_ldb 0 Tryd.underlying21 rfl rfl rfl rfl) rfl rfl ?_
     refine wl_as M rfl rfl ?_
     refine wl_nil ?_
     refine wc_region ?_
     refine wl_mv M rfl rfl ?_
     refine wl_m M (q_fa fo_48_1 rfl) rfl rfl ?_
     refine wl_m M (q_ldb 0 Tryd.underlying3 rfl rfl rfl rfl) rfl rfl ?_
     refine wl_mv M rfl rfl ?_
     refine wl_m M (q_mul (z := ((x6.dst.toNat * (l.length + 1) : Nat) : Int)) rfl rfl (by rw [show x6.dst * ((l.length + 1 : Nat) : Int) = ((x6.dst.toNat * (l.length + 1) : Nat) : Int) by rw [Int.natCast_mul, hdr]]; exact IntWalk.i64_in _ (by omega))) rfl rfl ?_
     refine wl_mv M rfl rfl ?_
     refine wl_m M (q_add (z := ((x6.dst.toNat * (l.length + 1) + (k8 + 1) : Nat) : Int)) rfl rfl (by rw [show ((x6.dst.toNat * (l.length + 1) : Nat) : Int) + ((k8 : Int) + 1) = ((x6.dst.toNat * (l.length + 1) + (k8 + 1) : Nat) : Int) by simp]; exact IntWalk.i64_in _ (by omega))) rfl rfl ?_
     refine wl_ixw (j := (x6.dst.toNat * (l.length + 1) + (k8 + 1))) 1 M rfl Tryd.underlying108 rfl rfl (by rw [hA8]; exact hj2) rfl (fun b181 o181 p181 => ?_)
     refine wl_e0 (e_str (u := true) 1 M rfl rfl rfl p181 (by rw [hA8]; exact hj2) rfl) rfl ?_
     intro _ w20 M
     simp only [sC0, sCS] at M
     refine wl_nil ?_
     refine wc_region ?_
     refine wl_mv M rfl rfl ?_
     refine wl_m M (q_add rfl rfl (IntWalk.i64_in _ (by omega))) rfl rfl ?_
     refine wl_as M rfl rfl ?_
     refine wl_nil ?_
     refine ⟨(k8 + 1, x6.out, l_96_8.set (x6.dst.toNat * (l.length + 1) + (k8 + 1)) true), ?_, ⟨(by omega), (by rw [pairsI_snoc, ← List.append_assoc]; exact hN8.hit hP hd9 hn9 ho6 (by rw [heat]) (by rw [hA8]; exact hj2)), (by simp [hA8]), M⟩, ⟨rfl, rfl, trivial⟩, unw_look rfl (unw_hav rfl (unw_look rfl (unw_hav rfl (unw_look rfl (unw_hav rfl (unw_look rfl unw_base))))))⟩
     show (l.length + 1) - (k8 + 1) < (l.length + 1) - k8
     omega
    refine wc_skip ?_
    refine wc_seq ?_
    refine wc_seq ?_
    refine wc_join (α := Unit) [120, 121, 122, 123, 124, 125, 126, 127, 128, 129, 130, 131, 132, 133, 134, 135, 136, 137, 138, 139, 140, 141, 142, 143, 144, 145, 146, 147, 148, 149, 150, 151, 152, 153, 154, 155, 156, 157, 158, 159, 160] (fun _ => [(160, .bool ((((decide (((l.length + 1 : Nat) : Int) ≤ (k8 : Int))) || ((!decide (x6.inp = 0)) && (!decide ((l.getD k8 0) = x6.inp)))) || (!(GS.getD (x6.src.toNat * (l.length + 1) + k8) false))) || (!(G48.getD (x6.dst.toNat * (l.length + 1) + k8) false))))]) (fun _ w' => Mem w I Ic (box b18 48 [.int .i64 x6.src, .int .i64 x6.dst, .int .i32 x6.inp, .int .i32 x6.out] :: row EBool (sv u96) l_96_8 :: box b2 25 [.int .i64 t.states, .int .i64 t.start, sv fu1, sv au1] :: []) w') ?_ ?_
    ·refine wc_draws (fun w' => Mem w I Ic (box b18 48 [.int .i64 x6.src, .int .i64 x6.dst, .int .i32 x6.inp, .int .i32 x6.out] :: row EBool (sv u96) l_96_8 :: box b2 25 [.int .i64 t.states, .int .i64 t.start, sv fu1, sv au1] :: []) w' ∧ True) [] fol ?_
     replace M := M.drew
     have hS := (⟨M, trivial⟩ : _ ∧ _)
     refine wa_q 0 rfl (by kernel_rfl) (q_move rfl) hS rfl rfl ?_
     refine wa_q 1 rfl (by kernel_rfl) (q_move rfl) hS rfl rfl ?_
     refine wa_q 2 rfl (by kernel_rfl) (q_geq rfl rfl) hS rfl rfl ?_
     refine wa_q 3 rfl (by kernel_rfl) (q_move rfl) hS rfl rfl ?_
     rcases Bool.eq_false_or_eq_true (decide (((l.length + 1 : Nat) : Int) ≤ (k8 : Int))) with hg123 | hg123
     ·refine wa_q 4 rfl (by kernel_rfl) (q_off 3 rfl rfl rfl hg123) hS rfl rfl ?_
      refine wa_q 5 rfl (by kernel_rfl) (q_off 3 rfl rfl rfl hg123) hS rfl rfl ?_
      refine wa_q 6 rfl (by kernel_rfl) (q_off 3 rfl rfl rfl hg123) hS rfl rfl ?_
      refine wa_q 7 rfl (by kernel_rfl) (q_off 3 rfl rfl rfl hg123) hS rfl rfl ?_
      refine wa_q 8 rfl (by kernel_rfl) (q_offu 7 rfl rfl rfl) hS rfl rfl ?_
      refine wa_q 9 rfl (by kernel_rfl) (q_offu 7 rfl rfl rfl) hS rfl rfl ?_
      refine wa_q 10 rfl (by kernel_rfl) (q_offu 7 rfl rfl rfl) hS rfl rfl ?_
      refine wa_q 11 rfl (by kernel_rfl) (q_offu 7 rfl rfl rfl) hS rfl rfl ?_
      refine wa_q 12 rfl (by kernel_rfl) (q_offu 7 rfl rfl rfl) hS rfl rfl ?_
      refine wa_q 13 rfl (by kernel_rfl) (q_offu 7 rfl rfl rfl) hS rfl rfl ?_
      refine wa_q 14 rfl (by kernel_rfl) (q_offu 7 rfl rfl rfl) hS rfl rfl ?_
      refine wa_q 15 rfl (by kernel_rfl) (q_off 3 rfl rfl rfl hg123) hS rfl rfl ?_
      refine wa_q 16 rfl (by kernel_rfl) (q_pickT rfl hg123 rfl) hS rfl rfl ?_
      refine wa_q 17 rfl (by kernel_rfl) (q_move rfl) hS rfl rfl ?_
      refine wa_q 18 rfl (by kernel_rfl) (q_off 17 rfl rfl rfl rfl) hS rfl rfl ?_
      refine wa_q 19 rfl (by kernel_rfl) (q_off 17 rfl rfl rfl rfl) hS rfl rfl ?_
      refine wa_q 20 rfl (by kernel_rfl) (q_off 17 rfl rfl rfl rfl) hS rfl rfl ?_
      refine wa_q 21 rfl (by kernel_rfl) (q_off 17 rfl rfl rfl rfl) hS rfl rfl ?_
      refine wa_q 22 rfl (by kernel_rfl) (q_off 17 rfl rfl rfl rfl) hS rfl rfl ?_
      refine wa_q 23 rfl (by kernel_rfl) (q_off 17 rfl rfl rfl rfl) hS rfl rfl ?_
      refine wa_q 24 rfl (by kernel_rfl) (q_off 17 rfl rfl rfl rfl) hS rfl rfl ?_
      refine wa_q 25 rfl (by kernel_rfl) (q_off 17 rfl rfl rfl rfl) hS rfl rfl ?_
      refine wa_q 26 rfl (by kernel_rfl) (q_off 17 rfl rfl rfl rfl) hS rfl rfl ?_
      refine wa_q 27 rfl (by kernel_rfl) (q_off 17 rfl rfl rfl rfl) hS rfl rfl ?_
      refine wa_q 28 rfl (by kernel_rfl) (q_pickT rfl rfl rfl) hS rfl rfl ?_
      refine wa_q 29 rfl (by kernel_rfl) (q_move rfl) hS rfl rfl ?_
      refine wa_q 30 rfl (by kernel_rfl) (q_off 29 rfl rfl rfl rfl) hS rfl rfl ?_
      refine wa_q 31 rfl (by kernel_rfl) (q_off 29 rfl rfl rfl rfl) hS rfl rfl ?_
      refine wa_q 32 rfl (by kernel_rfl) (q_off 29 rfl rfl rfl rfl) hS rfl rfl ?_
      refine wa_q 33 rfl (by kernel_rfl) (q_off 29 rfl rfl rfl rfl) hS rfl rfl ?_
      refine wa_q 34 rfl (by kernel_rfl) (q_off 29 rfl rfl rfl rfl) hS rfl rfl ?_
      refine wa_q 35 rfl (by kernel_rfl) (q_off 29 rfl rfl rfl rfl) hS rfl rfl ?_
      refine wa_q 36 rfl (by kernel_rfl) (q_off 29 rfl rfl rfl rfl) hS rfl rfl ?_
      refine wa_q 37 rfl (by kernel_rfl) (q_off 29 rfl rfl rfl rfl) hS rfl rfl ?_
      refine wa_q 38 rfl (by kernel_rfl) (q_off 29 rfl rfl rfl rfl) hS rfl rfl ?_
      refine wa_q 39 rfl (by kernel_rfl) (q_off 29 rfl rfl rfl rfl) hS rfl rfl ?_
      refine wa_q 40 rfl (by kernel_rfl) (q_pickT rfl rfl rfl) hS rfl rfl ?_
      refine wa_done (by kernel_rfl) ?_
      exact ⟨(), M, ⟨(show some (Value.bool true) = some (Value.bool ((((decide (((l.length + 1 : Nat) : Int) ≤ (k8 : Int))) || ((!decide (x6.inp = 0)) && (!decide ((l.getD k8 0) = x6.inp)))) || (!(GS.getD (x6.src.toNat * (l.length + 1) + k8) false))) || (!(G48.getD (x6.dst.toNat * (l.length + 1) + k8) false)))) from by first | (simp only [hg123, Bool.true_or, Bool.false_or, Bool.true_and, Bool.false_and, Bool.or_true, Bool.or_false, Bool.and_true, Bool.and_false]; done) | (simp_all; done) | (simp_all; omega)), trivial⟩, unw_take 41 rfl rfl⟩
     refine wa_q 4 rfl (by kernel_rfl) (q_guard 3 rfl rfl rfl hg123 (q_fa fo_48_2 rfl)) hS rfl rfl ?_
     refine wa_q 5 rfl (by kernel_rfl) ((q_guard 3 rfl rfl rfl hg123 (q_ldb 0 Tryd.underlying21 rfl rfl rfl rfl)).mono fun _ h => h.1) hS rfl rfl ?_
     refine wa_q 6 rfl (by kernel_rfl) (q_guard 3 rfl rfl rfl hg123 (q_neq rfl rfl)) hS rfl rfl ?_
     refine wa_q 7 rfl (by kernel_rfl) (q_guard 3 rfl rfl rfl hg123 (q_move rfl)) hS rfl rfl ?_
     rcases Bool.eq_false_or_eq_true (!decide (x6.inp = 0)) with hg127 | hg127
     ·refine wa_q 8 rfl (by kernel_rfl) (q_guard 7 rfl rfl rfl hg127 (q_move rfl)) hS rfl rfl ?_
      refine wa_q 9 rfl (by kernel_rfl) (q_guard 7 rfl rfl rfl hg127 (q_move rfl)) hS rfl rfl ?_
      have hkl9 : k8 < l.length := by have := of_decide_eq_false hg123; rw [ht117] at hg127; cases hg127
      refine wa_ixSG (j := k8) 7 rfl rfl rfl hg127 10 hS (fun _ h => (((((Rl.mono hIE).mono hJ48).mono hIS0).mono hJ63).mono hIc).mono h.1.imm) rfl (by kernel_rfl) Tryd.underlying84 rfl rfl (getD_at (d := 0) hkl9) rfl (fun b130 o130 p130 => ?_)
      refine wa_q 11 rfl (by kernel_rfl) (q_guard 7 rfl rfl rfl hg127 (q_ldp p130 rfl rfl)) hS rfl rfl ?_
      refine wa_q 12 rfl (by kernel_rfl) (q_guard 7 rfl rfl rfl hg127 (q_fa fo_48_2 rfl)) hS rfl rfl ?_
      refine wa_q 13 rfl (by kernel_rfl) ((q_guard 7 rfl rfl rfl hg127 (q_ldb 0 Tryd.underlying21 rfl rfl rfl rfl)).mono fun _ h => h.1) hS rfl rfl ?_
      refine wa_q 14 rfl (by kernel_rfl) (q_guard 7 rfl rfl rfl hg127 (q_neq rfl rfl)) hS rfl rfl ?_
      refine wa_q 15 rfl (by kernel_rfl) (q_guard 3 rfl rfl rfl hg123 (q_pickT rfl hg127 rfl)) hS rfl rfl ?_
      refine wa_q 16 rfl (by kernel_rfl) (q_pickF rfl hg123 rfl) hS rfl rfl ?_
      refine wa_q 17 rfl (by kernel_rfl) (q_move rfl) hS rfl rfl ?_
      rcases Bool.eq_false_or_eq_true (!decide ((l.getD k8 0) = x6.inp)) with hg137 | hg137
      ·refine wa_q 18 rfl (by kernel_rfl) (q_off 17 rfl rfl rfl hg137) hS rfl rfl ?_
       refine wa_q 19 rfl (by kernel_rfl) (q_off 17 rfl rfl rfl hg137) hS rfl rfl ?_
       refine wa_q 20 rfl (by kernel_rfl) (q_off 17 rfl rfl rfl hg137) hS rfl rfl ?_
       refine wa_q 21 rfl (by kernel_rfl) (q_off 17 rfl rfl rfl hg137) hS rfl rfl ?_
       refine wa_q 22 rfl (by kernel_rfl) (q_off 17 rfl rfl rfl hg137) hS rfl rfl ?_
       refine wa_q 23 rfl (by kernel_rfl) (q_off 17 rfl rfl rfl hg137) hS rfl rfl ?_
       refine wa_q 24 rfl (by kernel_rfl) (q_off 17 rfl rfl rfl hg137) hS rfl rfl ?_
       refine wa_q 25 rfl (by kernel_rfl) (q_off 17 rfl rfl rfl hg137) hS rfl rfl ?_
       refine wa_q 26 rfl (by kernel_rfl) (q_off 17 rfl rfl rfl hg137) hS rfl rfl ?_
       refine wa_q 27 rfl (by kernel_rfl) (q_off 17 rfl rfl rfl hg137) hS rfl rfl ?_
       refine wa_q 28 rfl (by kernel_rfl) (q_pickT rfl hg137 rfl) hS rfl rfl ?_
       refine wa_q 29 rfl (by kernel_rfl) (q_move rfl) hS rfl rfl ?_
       refine wa_q 30 rfl (by kernel_rfl) (q_off 29 rfl rfl rfl rfl) hS rfl rfl ?_
       refine wa_q 31 rfl (by kernel_rfl) (q_off 29 rfl rfl rfl rfl) hS rfl rfl ?_
       refine wa_q 32 rfl (by kernel_rfl) (q_off 29 rfl rfl rfl rfl) hS rfl rfl ?_
       refine wa_q 33 rfl (by kernel_rfl) (q_off 29 rfl rfl rfl rfl) hS rfl rfl ?_
       refine wa_q 34 rfl (by kernel_rfl) (q_off 29 rfl rfl rfl rfl) hS rfl rfl ?_
       refine wa_q 35 rfl (by kernel_rfl) (q_off 29 rfl rfl rfl rfl) hS rfl rfl ?_
       refine wa_q 36 rfl (by kernel_rfl) (q_off 29 rfl rfl rfl rfl) hS rfl rfl ?_
       refine wa_q 37 rfl (by kernel_rfl) (q_off 29 rfl rfl rfl rfl) hS rfl rfl ?_
       refine wa_q 38 rfl (by kernel_rfl) (q_off 29 rfl rfl rfl rfl) hS rfl rfl ?_
       refine wa_q 39 rfl (by kernel_rfl) (q_off 29 rfl rfl rfl rfl) hS rfl rfl ?_
       refine wa_q 40 rfl (by kernel_rfl) (q_pickT rfl rfl rfl) hS rfl rfl ?_
       refine wa_done (by kernel_rfl) ?_
       exact ⟨(), M, ⟨(show some (Value.bool true) = some (Value.bool ((((decide (((l.length + 1 : Nat) : Int) ≤ (k8 : Int))) || ((!decide (x6.inp = 0)) && (!decide ((l.getD k8 0) = x6.inp)))) || (!(GS.getD (x6.src.toNat * (l.length + 1) + k8) false))) || (!(G48.getD (x6.dst.toNat * (l.length + 1) + k8) false)))) from by first | (simp only [hg123, hg127, hg137, Bool.true_or, Bool.false_or, Bool.true_and, Bool.false_and, Bool.or_true, Bool.or_false, Bool.and_true, Bool.and_false]; done) | (simp_all; done) | (simp_all; omega)), trivial⟩, unw_take 41 rfl rfl⟩
      refine wa_q 18 rfl (by kernel_rfl) (q_guard 17 rfl rfl rfl hg137 (q_move rfl)) hS rfl rfl ?_
      refine wa_q 19 rfl (by kernel_rfl) (q_guard 17 rfl rfl rfl hg137 (q_fa fo_48_0 rfl)) hS rfl rfl ?_
      refine wa_q 20 rfl (by kernel_rfl) ((q_guard 17 rfl rfl rfl hg137 (q_ldb 0 Tryd.underlying3 rfl rfl rfl rfl)).mono fun _ h => h.1) hS rfl rfl ?_
      refine wa_q 21 rfl (by kernel_rfl) (q_guard 17 rfl rfl rfl hg137 (q_move rfl)) hS rfl rfl ?_
      refine wa_q 22 rfl (by kernel_rfl) (q_guard 17 rfl rfl rfl hg137 (q_mul (z := ((x6.src.toNat * (l.length + 1) : Nat) : Int)) rfl rfl (by rw [show x6.src * ((l.length + 1 : Nat) : Int) = ((x6.src.toNat * (l.length + 1) : Nat) : Int) by rw [Int.natCast_mul, hsr]]; exact IntWalk.i64_in _ (by omega)))) hS rfl rfl ?_
      refine wa_q 23 rfl (by kernel_rfl) (q_guard 17 rfl rfl rfl hg137 (q_move rfl)) hS rfl rfl ?_
      refine wa_q 24 rfl (by kernel_rfl) (q_guard 17 rfl rfl rfl hg137 (q_add (z := ((x6.src.toNat * (l.length + 1) + k8 : Nat) : Int)) rfl rfl (by rw [show ((x6.src.toNat * (l.length + 1) : Nat) : Int) + (k8 : Int) = ((x6.src.toNat * (l.length + 1) + k8 : Nat) : Int) by simp]; exact IntWalk.i64_in _ (by omega)))) hS rfl rfl ?_
      refine wa_ixSG (j := (x6.src.toNat * (l.length + 1) + k8)) 17 rfl rfl rfl hg137 25 hS (fun _ h => RS.mono h.1.imm) rfl (by kernel_rfl) Tryd.underlying108 rfl rfl (getD_at (d := false) (by rw [hgl]; exact hj1)) rfl (fun b145 o145 p145 => ?_)
      refine wa_q 26 rfl (by kernel_rfl) (q_guard 17 rfl rfl rfl hg137 (q_ldp p145 rfl rfl)) hS rfl rfl ?_
      refine wa_q 27 rfl (by kernel_rfl) (q_guard 17 rfl rfl rfl hg137 (q_not rfl)) hS rfl rfl ?_
      refine wa_q 28 rfl (by kernel_rfl) (q_pickF rfl hg137 rfl) hS rfl rfl ?_
      refine wa_q 29 rfl (by kernel_rfl) (q_move rfl) hS rfl rfl ?_
      rcases Bool.eq_false_or_eq_true (!(GS.getD (x6.src.toNat * (l.length + 1) + k8) false)) with hg149 | hg149
      ·refine wa_q 30 rfl (by kernel_rfl) (q_off 29 rfl rfl rfl hg149) hS rfl rfl ?_
       refine wa_q 31 rfl (by kernel_rfl) (q_off 29 rfl rfl rfl hg149) hS rfl rfl ?_
       refine wa_q 32 rfl (by kernel_rfl) (q_off 29 rfl rfl rfl hg149) hS rfl rfl ?_
       refine wa_q 33 rfl (by kernel_rfl) (q_off 29 rfl rfl rfl hg149) hS rfl rfl ?_
       refine wa_q 34 rfl (by kernel_rfl) (q_off 29 rfl rfl rfl hg149) hS rfl rfl ?_
       refine wa_q 35 rfl (by kernel_rfl) (q_off 29 rfl rfl rfl hg149) hS rfl rfl ?_
       refine wa_q 36 rfl (by kernel_rfl) (q_off 29 rfl rfl rfl hg149) hS rfl rfl ?_
       refine wa_q 37 rfl (by kernel_rfl) (q_off 29 rfl rfl rfl hg149) hS rfl rfl ?_
       refine wa_q 38 rfl (by kernel_rfl) (q_off 29 rfl rfl rfl hg149) hS rfl rfl ?_
       refine wa_q 39 rfl (by kernel_rfl) (q_off 29 rfl rfl rfl hg149) hS rfl rfl ?_
       refine wa_q 40 rfl (by kernel_rfl) (q_pickT rfl hg149 rfl) hS rfl rfl ?_
       refine wa_done (by kernel_rfl) ?_
       exact ⟨(), M, ⟨(show some (Value.bool true) = some (Value.bool ((((decide (((l.length + 1 : Nat) : Int) ≤ (k8 : Int))) || ((!decide (x6.inp = 0)) && (!decide ((l.getD k8 0) = x6.inp)))) || (!(GS.getD (x6.src.toNat * (l.length + 1) + k8) false))) || (!(G48.getD (x6.dst.toNat * (l.length + 1) + k8) false)))) from by first | (simp only [hg123, hg127, hg137, hg149, Bool.true_or, Bool.false_or, Bool.true_and, Bool.false_and, Bool.or_true, Bool.or_false, Bool.and_true, Bool.and_false]; done) | (simp_all; done) | (simp_all; omega)), trivial⟩, unw_take 41 rfl rfl⟩
      refine wa_q 30 rfl (by kernel_rfl) (q_guard 29 rfl rfl rfl hg149 (q_move rfl)) hS rfl rfl ?_
      refine wa_q 31 rfl (by kernel_rfl) (q_guard 29 rfl rfl rfl hg149 (q_fa fo_48_1 rfl)) hS rfl rfl ?_
      refine wa_q 32 rfl (by kernel_rfl) ((q_guard 29 rfl rfl rfl hg149 (q_ldb 0 Tryd.underlying3 rfl rfl rfl rfl)).mono fun _ h => h.1) hS rfl rfl ?_
      refine wa_q 33 rfl (by kernel_rfl) (q_guard 29 rfl rfl rfl hg149 (q_move rfl)) hS rfl rfl ?_
      refine wa_q 34 rfl (by kernel_rfl) (q_guard 29 rfl rfl rfl hg149 (q_mul (z := ((x6.dst.toNat * (l.length + 1) : Nat) : Int)) rfl rfl (by rw [show x6.dst * ((l.length + 1 : Nat) : Int) = ((x6.dst.toNat * (l.length + 1) : Nat) : Int) by rw [Int.natCast_mul, hdr]]; exact IntWalk.i64_in _ (by omega)))) hS rfl rfl ?_
      refine wa_q 35 rfl (by kernel_rfl) (q_guard 29 rfl rfl rfl hg149 (q_move rfl)) hS rfl rfl ?_
      refine wa_q 36 rfl (by kernel_rfl) (q_guard 29 rfl rfl rfl hg149 (q_add (z := ((x6.dst.toNat * (l.length + 1) + k8 : Nat) : Int)) rfl rfl (by rw [show ((x6.dst.toNat * (l.length + 1) : Nat) : Int) + (k8 : Int) = ((x6.dst.toNat * (l.length + 1) + k8 : Nat) : Int) by simp]; exact IntWalk.i64_in _ (by omega)))) hS rfl rfl ?_
      have hj29 := nI_lt (w := l.length + 1) (i := k8) hd1 (by omega)
      refine wa_ixSG (j := (x6.dst.toNat * (l.length + 1) + k8)) 29 rfl rfl rfl hg149 37 hS (fun _ h => (((R48.mono hIS0).mono hJ63).mono hIc).mono h.1.imm) rfl (by kernel_rfl) Tryd.underlying108 rfl rfl (getD_at (d := false) (by rw [hGr48.len, hEl]; exact hj29)) rfl (fun b157 o157 p157 => ?_)
      refine wa_q 38 rfl (by kernel_rfl) (q_guard 29 rfl rfl rfl hg149 (q_ldp p157 rfl rfl)) hS rfl rfl ?_
      refine wa_q 39 rfl (by kernel_rfl) (q_guard 29 rfl rfl rfl hg149 (q_not rfl)) hS rfl rfl ?_
      refine wa_q 40 rfl (by kernel_rfl) (q_pickF rfl hg149 rfl) hS rfl rfl ?_
      refine wa_done (by kernel_rfl) ?_
      exact ⟨(), M, ⟨(show some (Value.bool (!(G48.getD (x6.dst.toNat * (l.length + 1) + k8) false))) = some (Value.bool ((((decide (((l.length + 1 : Nat) : Int) ≤ (k8 : Int))) || ((!decide (x6.inp = 0)) && (!decide ((l.getD k8 0) = x6.inp)))) || (!(GS.getD (x6.src.toNat * (l.length + 1) + k8) false))) || (!(G48.getD (x6.dst.toNat * (l.length + 1) + k8) false)))) from by first | (simp only [hg123, hg127, hg137, hg149, Bool.true_or, Bool.false_or, Bool.true_and, Bool.false_and, Bool.or_true, Bool.or_false, Bool.and_true, Bool.and_false]; done) | (simp_all; done) | (simp_all; omega)), trivial⟩, unw_take 41 rfl rfl⟩
     refine wa_q 8 rfl (by kernel_rfl) (q_off 7 rfl rfl rfl hg127) hS rfl rfl ?_
     refine wa_q 9 rfl (by kernel_rfl) (q_off 7 rfl rfl rfl hg127) hS rfl rfl ?_
     refine wa_q 10 rfl (by kernel_rfl) (q_off 7 rfl rfl rfl hg127) hS rfl rfl ?_
     refine wa_q 11 rfl (by kernel_rfl) (q_off 7 rfl rfl rfl hg127) hS rfl rfl ?_
     refine wa_q 12 rfl (by kernel_rfl) (q_off 7 rfl rfl rfl hg127) hS rfl rfl ?_
     refine wa_q 13 rfl (by kernel_rfl) (q_off 7 rfl rfl rfl hg127) hS rfl rfl ?_
     refine wa_q 14 rfl (by kernel_rfl) (q_off 7 rfl rfl rfl hg127) hS rfl rfl ?_
     refine wa_q 15 rfl (by kernel_rfl) (q_guard 3 rfl rfl rfl hg123 (q_pickF rfl hg127 rfl)) hS rfl rfl ?_
     refine wa_q 16 rfl (by kernel_rfl) (q_pickF rfl hg123 rfl) hS rfl rfl ?_
     refine wa_q 17 rfl (by kernel_rfl) (q_move rfl) hS rfl rfl ?_
     refine wa_q 18 rfl (by kernel_rfl) (q_guard 17 rfl rfl rfl rfl (q_move rfl)) hS rfl rfl ?_
     refine wa_q 19 rfl (by kernel_rfl) (q_guard 17 rfl rfl rfl rfl (q_fa fo_48_0 rfl)) hS rfl rfl ?_
     refine wa_q 20 rfl (by kernel_rfl) ((q_guard 17 rfl rfl rfl rfl (q_ldb 0 Tryd.underlying3 rfl rfl rfl rfl)).mono fun _ h => h.1) hS rfl rfl ?_
     refine wa_q 21 rfl (by kernel_rfl) (q_guard 17 rfl rfl rfl rfl (q_move rfl)) hS rfl rfl ?_
     refine wa_q 22 rfl (by kernel_rfl) (q_guard 17 rfl rfl rfl rfl (q_mul (z := ((x6.src.toNat * (l.length + 1) : Nat) : Int)) rfl rfl (by rw [show x6.src * ((l.length + 1 : Nat) : Int) = ((x6.src.toNat * (l.length + 1) : Nat) : Int) by rw [Int.natCast_mul, hsr]]; exact IntWalk.i64_in _ (by omega)))) hS rfl rfl ?_
     refine wa_q 23 rfl (by kernel_rfl) (q_guard 17 rfl rfl rfl rfl (q_move rfl)) hS rfl rfl ?_
     refine wa_q 24 rfl (by kernel_rfl) (q_guard 17 rfl rfl rfl rfl (q_add (z := ((x6.src.toNat * (l.length + 1) + k8 : Nat) : Int)) rfl rfl (by rw [show ((x6.src.toNat * (l.length + 1) : Nat) : Int) + (k8 : Int) = ((x6.src.toNat * (l.length + 1) + k8 : Nat) : Int) by simp]; exact IntWalk.i64_in _ (by omega)))) hS rfl rfl ?_
     refine wa_ixSG (j := (x6.src.toNat * (l.length + 1) + k8)) 17 rfl rfl rfl rfl 25 hS (fun _ h => RS.mono h.1.imm) rfl (by kernel_rfl) Tryd.underlying108 rfl rfl (getD_at (d := false) (by rw [hgl]; exact hj1)) rfl (fun b145 o145 p145 => ?_)
     refine wa_q 26 rfl (by kernel_rfl) (q_guard 17 rfl rfl rfl rfl (q_ldp p145 rfl rfl)) hS rfl rfl ?_
     refine wa_q 27 rfl (by kernel_rfl) (q_guard 17 rfl rfl rfl rfl (q_not rfl)) hS rfl rfl ?_
     refine wa_q 28 rfl (by kernel_rfl) (q_pickF rfl rfl rfl) hS rfl rfl ?_
     refine wa_q 29 rfl (by kernel_rfl) (q_move rfl) hS rfl rfl ?_
     rcases Bool.eq_false_or_eq_true (!(GS.getD (x6.src.toNat * (l.length + 1) + k8) false)) with hg149 | hg149
     ·refine wa_q 30 rfl (by kernel_rfl) (q_off 29 rfl rfl rfl hg149) hS rfl rfl ?_
      refine wa_q 31 rfl (by kernel_rfl) (q_off 29 rfl rfl rfl hg149) hS rfl rfl ?_
      refine wa_q 32 rfl (by kernel_rfl) (q_off 29 rfl rfl rfl hg149) hS rfl rfl ?_
      refine wa_q 33 rfl (by kernel_rfl) (q_off 29 rfl rfl rfl hg149) hS rfl rfl ?_
      refine wa_q 34 rfl (by kernel_rfl) (q_off 29 rfl rfl rfl hg149) hS rfl rfl ?_
      refine wa_q 35 rfl (by kernel_rfl) (q_off 29 rfl rfl rfl hg149) hS rfl rfl ?_
      refine wa_q 36 rfl (by kernel_rfl) (q_off 29 rfl rfl rfl hg149) hS rfl rfl ?_
      refine wa_q 37 rfl (by kernel_rfl) (q_off 29 rfl rfl rfl hg149) hS rfl rfl ?_
      refine wa_q 38 rfl (by kernel_rfl) (q_off 29 rfl rfl rfl hg149) hS rfl rfl ?_
      refine wa_q 39 rfl (by kernel_rfl) (q_off 29 rfl rfl rfl hg149) hS rfl rfl ?_
      refine wa_q 40 rfl (by kernel_rfl) (q_pickT rfl hg149 rfl) hS rfl rfl ?_
      refine wa_done (by kernel_rfl) ?_
      exact ⟨(), M, ⟨(show some (Value.bool true) = some (Value.bool ((((decide (((l.length + 1 : Nat) : Int) ≤ (k8 : Int))) || ((!decide (x6.inp = 0)) && (!decide ((l.getD k8 0) = x6.inp)))) || (!(GS.getD (x6.src.toNat * (l.length + 1) + k8) false))) || (!(G48.getD (x6.dst.toNat * (l.length + 1) + k8) false)))) from by first | (simp only [hg123, hg127, hg149, Bool.true_or, Bool.false_or, Bool.true_and, Bool.false_and, Bool.or_true, Bool.or_false, Bool.and_true, Bool.and_false]; done) | (simp_all; done) | (simp_all; omega)), trivial⟩, unw_take 41 rfl rfl⟩
     refine wa_q 30 rfl (by kernel_rfl) (q_guard 29 rfl rfl rfl hg149 (q_move rfl)) hS rfl rfl ?_
     refine wa_q 31 rfl (by kernel_rfl) (q_guard 29 rfl rfl rfl hg149 (q_fa fo_48_1 rfl)) hS rfl rfl ?_
     refine wa_q 32 rfl (by kernel_rfl) ((q_guard 29 rfl rfl rfl hg149 (q_ldb 0 Tryd.underlying3 rfl rfl rfl rfl)).mono fun _ h => h.1) hS rfl rfl ?_
     refine wa_q 33 rfl (by kernel_rfl) (q_guard 29 rfl rfl rfl hg149 (q_move rfl)) hS rfl rfl ?_
     refine wa_q 34 rfl (by kernel_rfl) (q_guard 29 rfl rfl rfl hg149 (q_mul (z := ((x6.dst.toNat * (l.length + 1) : Nat) : Int)) rfl rfl (by rw [show x6.dst * ((l.length + 1 : Nat) : Int) = ((x6.dst.toNat * (l.length + 1) : Nat) : Int) by rw [Int.natCast_mul, hdr]]; exact IntWalk.i64_in _ (by omega)))) hS rfl rfl ?_
     refine wa_q 35 rfl (by kernel_rfl) (q_guard 29 rfl rfl rfl hg149 (q_move rfl)) hS rfl rfl ?_
     refine wa_q 36 rfl (by kernel_rfl) (q_guard 29 rfl rfl rfl hg149 (q_add (z := ((x6.dst.toNat * (l.length + 1) + k8 : Nat) : Int)) rfl rfl (by rw [show ((x6.dst.toNat * (l.length + 1) : Nat) : Int) + (k8 : Int) = ((x6.dst.toNat * (l.length + 1) + k8 : Nat) : Int) by simp]; exact IntWalk.i64_in _ (by omega)))) hS rfl rfl ?_
     have hj29 := nI_lt (w := l.length + 1) (i := k8) hd1 (by omega)
     refine wa_ixSG (j := (x6.dst.toNat * (l.length + 1) + k8)) 29 rfl rfl rfl hg149 37 hS (fun _ h => (((R48.mono hIS0).mono hJ63).mono hIc).mono h.1.imm) rfl (by kernel_rfl) Tryd.underlying108 rfl rfl (getD_at (d := false) (by rw [hGr48.len, hEl]; exact hj29)) rfl (fun b157 o157 p157 => ?_)
     refine wa_q 38 rfl (by kernel_rfl) (q_guard 29 rfl rfl rfl hg149 (q_ldp p157 rfl rfl)) hS rfl rfl ?_
     refine wa_q 39 rfl (by kernel_rfl) (q_guard 29 rfl rfl rfl hg149 (q_not rfl)) hS rfl rfl ?_
     refine wa_q 40 rfl (by kernel_rfl) (q_pickF rfl hg149 rfl) hS rfl rfl ?_
     refine wa_done (by kernel_rfl) ?_
     exact ⟨(), M, ⟨(show some (Value.bool (!(G48.getD (x6.dst.toNat * (l.length + 1) + k8) false))) = some (Value.bool ((((decide (((l.length + 1 : Nat) : Int) ≤ (k8 : Int))) || ((!decide (x6.inp = 0)) && (!decide ((l.getD k8 0) = x6.inp)))) || (!(GS.getD (x6.src.toNat * (l.length + 1) + k8) false))) || (!(G48.getD (x6.dst.toNat * (l.length + 1) + k8) false)))) from by first | (simp only [hg123, hg127, hg149, Bool.true_or, Bool.false_or, Bool.true_and, Bool.false_and, Bool.or_true, Bool.or_false, Bool.and_true, Bool.and_false]; done) | (simp_all; done) | (simp_all; omega)), trivial⟩, unw_take 41 rfl rfl⟩
    rintro _ jr32 w21 M
    refine wc_cond rfl (fun ht160 => ?_) (fun ht160 => ?_)
    ·have hnh : ¬ HitP t l GS G48 x6 k8 := fun h9 => by
       obtain ⟨_, _, _, hf9, h91, h92⟩ := h9
       rcases Bool.or_eq_true_iff.1 ht160 with h160 | h160
       · rcases Bool.or_eq_true_iff.1 h160 with h160 | h160
         · rw [nd_f ht117] at h160; simp at h160; omega
         · rw [on_getD.1 h91] at h160; cases h160
       · rw [show (eatK k8 x6.inp).toNat = k8 from by rw [eatK, if_pos (nd_f ht117)]; rfl] at h92
         rw [on_getD.1 h92] at h160; cases h160
     refine wc_exit rfl ?_
     refine wc_region ?_
     refine wl_mv M rfl rfl ?_
     refine wl_m M (q_add rfl rfl (IntWalk.i64_in _ (by omega))) rfl rfl ?_
     refine wl_as M rfl rfl ?_
     refine wl_nil ?_
     refine ⟨(k8 + 1, nx8, l_96_8), ?_, ⟨(by omega), (by rw [pairsI_snoc, ← List.append_assoc]; exact hN8.skip _ (fun e_ he_ => by rw [List.mem_singleton.1 he_]; exact hnh)), hA8, M⟩, ⟨rfl, rfl, trivial⟩, unw_look rfl (unw_hav rfl (unw_look rfl (unw_hav rfl (unw_look rfl unw_base))))⟩
     show (l.length + 1) - (k8 + 1) < (l.length + 1) - k8
     omega
    obtain ⟨h12, h3⟩ := Bool.or_eq_false_iff.1 ht160
    obtain ⟨h1, h2⟩ := Bool.or_eq_false_iff.1 h12
    obtain ⟨hfit, heat⟩ := fit_eps2 (l := l) (i := k8) (nd_f ht117)
    have hP : HitP t l GS G48 x6 k8 := ⟨hxm, by omega, ho6, hfit, on_getD.2 (by simpa using h2), by rw [heat]; exact on_getD.2 (by simpa using h3)⟩
    have hj2 := nI_lt (w := l.length + 1) (i := k8) hd1 (by omega)
    refine wc_skip ?_
    refine wc_seq ?_
    refine wc_seq ?_
    refine wc_join (α := Unit) [161, 162, 163, 164, 165, 166, 167, 168, 169, 170, 171] (fun _ => [(171, .bool (d4 || ((!decide (nx8 = 0)) && (!decide (nx8 = x6.out)))))]) (fun _ w' => Mem w I Ic (box b18 48 [.int .i64 x6.src, .int .i64 x6.dst, .int .i32 x6.inp, .int .i32 x6.out] :: row EBool (sv u96) l_96_8 :: box b2 25 [.int .i64 t.states, .int .i64 t.start, sv fu1, sv au1] :: []) w') ?_ ?_
    ·refine wc_region ?_
     refine wl_mv M rfl rfl ?_
     refine wl_mv M rfl rfl ?_
     rcases Bool.eq_false_or_eq_true (d4) with hg162 | hg162
     ·refine wl_m M (q_off 1 rfl rfl rfl hg162) rfl rfl ?_
      refine wl_m M (q_off 1 rfl rfl rfl hg162) rfl rfl ?_
      refine wl_m M (q_off 1 rfl rfl rfl hg162) rfl rfl ?_
      refine wl_m M (q_offu 4 rfl rfl rfl) rfl rfl ?_
      refine wl_m M (q_offu 4 rfl rfl rfl) rfl rfl ?_
      refine wl_m M (q_offu 4 rfl rfl rfl) rfl rfl ?_
      refine wl_m M (q_offu 4 rfl rfl rfl) rfl rfl ?_
      refine wl_m M (q_off 1 rfl rfl rfl hg162) rfl rfl ?_
      refine wl_m M (q_pickT rfl hg162 rfl) rfl rfl ?_
      refine wl_nil ?_
      exact ⟨(), M, ⟨(show some (Value.bool true) = some (Value.bool (d4 || ((!decide (nx8 = 0)) && (!decide (nx8 = x6.out))))) from by first | (simp only [hg162, Bool.true_or, Bool.false_or, Bool.true_and, Bool.false_and, Bool.or_true, Bool.or_false, Bool.and_true, Bool.and_false]; done) | (simp_all; done) | (simp_all; omega)), trivial⟩, unw_take 11 rfl rfl⟩
     refine wl_m M (q_guard 1 rfl rfl rfl hg162 (q_move rfl)) rfl rfl ?_
     refine wl_m M (q_guard 1 rfl rfl rfl hg162 (q_neq rfl rfl)) rfl rfl ?_
     refine wl_m M (q_guard 1 rfl rfl rfl hg162 (q_move rfl)) rfl rfl ?_
     rcases Bool.eq_false_or_eq_true (!decide (nx8 = 0)) with hg165 | hg165
     ·refine wl_m M (q_guard 4 rfl rfl rfl hg165 (q_move rfl)) rfl rfl ?_
      refine wl_m M (q_guard 4 rfl rfl rfl hg165 (q_fa fo_48_3 rfl)) rfl rfl ?_
      refine wl_m M (q_guard 4 rfl rfl rfl hg165 (q_ldb 0 Tryd.underlying21 rfl rfl rfl rfl)) rfl rfl ?_
      refine wl_m M (q_guard 4 rfl rfl rfl hg165 (q_neq rfl rfl)) rfl rfl ?_
      refine wl_m M (q_guard 1 rfl rfl rfl hg162 (q_pickT rfl hg165 rfl)) rfl rfl ?_
      refine wl_m M (q_pickF rfl hg162 rfl) rfl rfl ?_
      refine wl_nil ?_
      exact ⟨(), M, ⟨(show some (Value.bool (!decide (nx8 = x6.out))) = some (Value.bool (d4 || ((!decide (nx8 = 0)) && (!decide (nx8 = x6.out))))) from by first | (simp only [hg162, hg165, Bool.true_or, Bool.false_or, Bool.true_and, Bool.false_and, Bool.or_true, Bool.or_false, Bool.and_true, Bool.and_false]; done) | (simp_all; done) | (simp_all; omega)), trivial⟩, unw_take 11 rfl rfl⟩
     refine wl_m M (q_off 4 rfl rfl rfl hg165) rfl rfl ?_
     refine wl_m M (q_off 4 rfl rfl rfl hg165) rfl rfl ?_
     refine wl_m M (q_off 4 rfl rfl rfl hg165) rfl rfl ?_
     refine wl_m M (q_off 4 rfl rfl rfl hg165) rfl rfl ?_
     refine wl_m M (q_guard 1 rfl rfl rfl hg162 (q_pickF rfl hg165 rfl)) rfl rfl ?_
     refine wl_m M (q_pickF rfl hg162 rfl) rfl rfl ?_
     refine wl_nil ?_
     exact ⟨(), M, ⟨(show some (Value.bool false) = some (Value.bool (d4 || ((!decide (nx8 = 0)) && (!decide (nx8 = x6.out))))) from by first | (simp only [hg162, hg165, Bool.true_or, Bool.false_or, Bool.true_and, Bool.false_and, Bool.or_true, Bool.or_false, Bool.and_true, Bool.and_false]; done) | (simp_all; done) | (simp_all; omega)), trivial⟩, unw_take 11 rfl rfl⟩
    rintro _ jr33 w22 M
    refine wc_cond rfl (fun ht171 => ?_) (fun ht171 => ?_)
    ·refine wc_seq ?_
     refine wc_region ?_
     refine wl_as M rfl rfl ?_
     refine wl_nil ?_
     refine wc_ret ?_
     have hns : ¬ Single t l := by
       rcases Bool.or_eq_true_iff.1 ht171 with h | h
       · exact ref_done ht hfin hE hGr48 hS hP (any_done.1 (hd4 ▸ h))
       · rw [Bool.and_eq_true] at h
         obtain ⟨⟨e, he0, he⟩, hall⟩ := hN8.som (by simpa using h.1)
         exact ref_two ht hfin hE hGr48 hS he hP (by rw [hall e he0 he]; simpa using h.2)
     exact out1 rfl rfl ⟨_, _, rfl, M.grow, by rw [sglB_false hns]⟩
    rw [Bool.or_eq_false_iff] at ht171
    obtain ⟨hd9, hn9a⟩ := ht171
    have hn9 : nx8 = 0 ∨ nx8 = x6.out := by
      by_cases h : nx8 = 0
      · exact .inl h
      · right; simpa [h] using hn9a
    refine wc_skip ?_
    refine wc_seq ?_
    refine wc_region ?_
    refine wl_m M (q_fa fo_48_3 rfl) rfl rfl ?_
    refine wl_m M (q_ldb 0 Tryd.underlying21 rfl rfl rfl rfl) rfl rfl ?_
    refine wl_as M rfl rfl ?_
    refine wl_nil ?_
    refine wc_region ?_
    refine wl_mv M rfl rfl ?_
    refine wl_m M (q_fa fo_48_1 rfl) rfl rfl ?_
    refine wl_m M (q_ldb 0 Tryd.underlying3 rfl rfl rfl rfl) rfl rfl ?_
    refine wl_mv M rfl rfl ?_
    refine wl_m M (q_mul (z := ((x6.dst.toNat * (l.length + 1) : Nat) : Int)) rfl rfl (by rw [show x6.dst * ((l.length + 1 : Nat) : Int) = ((x6.dst.toNat * (l.length + 1) : Nat) : Int) by rw [Int.natCast_mul, hdr]]; exact IntWalk.i64_in _ (by omega))) rfl rfl ?_
    refine wl_mv M rfl rfl ?_
    refine wl_m M (q_add (z := ((x6.dst.toNat * (l.length + 1) + k8 : Nat) : Int)) rfl rfl (by rw [show ((x6.dst.toNat * (l.length + 1) : Nat) : Int) + (k8 : Int) = ((x6.dst.toNat * (l.length + 1) + k8 : Nat) : Int) by simp]; exact IntWalk.i64_in _ (by omega))) rfl rfl ?_
    refine wl_ixw (j := (x6.dst.toNat * (l.length + 1) + k8)) 1 M rfl Tryd.underlying108 rfl rfl (by rw [hA8]; exact hj2) rfl (fun b181 o181 p181 => ?_)
    refine wl_e0 (e_str (u := true) 1 M rfl rfl rfl p181 (by rw [hA8]; exact hj2) rfl) rfl ?_
    intro _ w23 M
    simp only [sC0, sCS] at M
    refine wl_nil ?_
    refine wc_region ?_
    refine wl_mv M rfl rfl ?_
    refine wl_m M (q_add rfl rfl (IntWalk.i64_in _ (by omega))) rfl rfl ?_
    refine wl_as M rfl rfl ?_
    refine wl_nil ?_
    refine ⟨(k8 + 1, x6.out, l_96_8.set (x6.dst.toNat * (l.length + 1) + k8) true), ?_, ⟨(by omega), (by rw [pairsI_snoc, ← List.append_assoc]; exact hN8.hit hP hd9 hn9 ho6 (by rw [heat]) (by rw [hA8]; exact hj2)), (by simp [hA8]), M⟩, ⟨rfl, rfl, trivial⟩, unw_look rfl (unw_hav rfl (unw_look rfl (unw_hav rfl (unw_look rfl (unw_hav rfl (unw_look rfl unw_base))))))⟩
    show (l.length + 1) - (k8 + 1) < (l.length + 1) - k8
    omega
   have hk9 : k8 = l.length + 1 ∨ (x6.out = 0 ∧ k8 ≤ l.length + 1) := by
     rcases Bool.and_eq_false_iff.1 ht111 with h | h
     · have := of_decide_eq_false h; left; omega
     · exact .inr ⟨by simpa using h, hk8⟩
   refine wc_exit rfl ?_
   refine wc_region ?_
   refine wl_m M (q_add rfl rfl (IntWalk.i64_in _ (by omega))) rfl rfl ?_
   refine wl_mv M rfl rfl ?_
   refine wl_nil ?_
   replace M := M.drop 0
   refine ⟨(k6 + 1, nx8, l_96_8), ?_, ⟨(by omega), (by rw [take_flat hx6]; exact nxt_rest hN8 hk9), hA8, M⟩, ⟨rfl, rfl, trivial⟩, unw_look rfl (unw_hav rfl (unw_look rfl (unw_hav rfl (unw_look rfl unw_base))))⟩
   show t.arcs.length - (k6 + 1) < t.arcs.length - k6
   omega
  have hke6 : k6 = t.arcs.length := by omega
  rw [hke6, List.take_length] at hN6
  refine wc_exit rfl ?_
  refine wc_seq ?_
  refine wc_seq ?_
  refine wc_region ?_
  refine wl_mv M rfl rfl ?_
  refine wl_m M (q_eql rfl rfl) rfl rfl ?_
  refine wl_nil ?_
  refine wc_dec rfl (fun ht184 => ?_) (fun ht184 => ?_)
  ·refine wc_seq ?_
   refine wc_region ?_
   refine wl_as M rfl rfl ?_
   refine wl_nil ?_
   refine wc_ret ?_
   exact out1 rfl rfl ⟨_, _, rfl, M.grow, by rw [sglB_true (ref_stop ht hfin (fun _ _ => trivial) hE hGr48 hS (nxt_zero (ht184 ▸ hN6)) (fun w_ h_ => rel_nz h_))]⟩
  have hnd : ¬ ∃ f ∈ t.finals, on GS (f.toNat * (l.length + 1) + l.length) := fun h => (nxt_one hN6 ht184).2.2 (by rw [hd4]; exact any_done.2 h)
  refine wc_skip ?_
  obtain ⟨IA, M, hIA, RA⟩ := M.frzRow 0 rfl
  have hoIA := M.old
  refine wc_region ?_
  refine wl_m M (q_ldbA 0 Tryd.underlying25 rfl sz25 rfl rfl rfl rfl) rfl rfl ?_
  refine wl_mv M rfl rfl ?_
  refine wl_mv M rfl rfl ?_
  refine wl_e (e_callC M (growR_c ht hl hA6 false M.imm ⟨_, _, rfl, ((((((Rf1.mono hIE).mono hJ48).mono hIS0).mono hJ63).mono hIc).mono hIA), ((((((Ra1.mono hIE).mono hJ48).mono hIS0).mono hJ63).mono hIc).mono hIA)⟩ ((((((Rl.mono hIE).mono hJ48).mono hIS0).mono hJ63).mono hIc).mono hIA) RA) Tryd.func81 rfl rfl) rfl rfl ?_
  rintro v188 w24 ⟨J188, hJ188, ⟨G188, R188, hGr188⟩, M⟩
  obtain ⟨u188, rfl⟩ := rdSl_slice R188
  have hoJ188 := M.old
  refine wl_as M rfl rfl ?_
  refine wl_nil ?_
  refine wc_region ?_
  refine wl_mv M rfl rfl ?_
  refine wl_m M (q_add rfl rfl (IntWalk.i64_in _ (by omega))) rfl rfl ?_
  refine wl_as M rfl rfl ?_
  refine wl_nil ?_
  refine ⟨(J188, k2 + 1, u188, G188, uu ++ [nx6]), ?_, ⟨(hle.trans (hle.trans hIc hIA) hJ188), (by omega), R188, (ref_next ht hfin hE hGr48 hS ht184 (nxt_one hN6 ht184).1 (nxt_one hN6 ht184).2.1 hnd hGr188 (fun w_ h_ => rel_nz h_)), (by rw [hGr188.len, hA6]), (by simp [hul]), M⟩, ⟨rfl, rfl, trivial⟩, unw_look rfl (unw_hav rfl (unw_look rfl (unw_hav rfl (unw_look rfl unw_base))))⟩
  show m * (l.length + 1) + 1 - (k2 + 1) < m * (l.length + 1) + 1 - k2
  omega
 have hke2 : k2 = m * (l.length + 1) + 1 := by omega
 refine wc_exit rfl ?_
 refine wc_seq ?_
 refine wc_region ?_
 refine wl_as M rfl rfl ?_
 refine wl_nil ?_
 refine wc_ret ?_
 exact out1 rfl rfl ⟨_, _, rfl, M.grow, by rw [sglB_true (ref_long ht hfin hS (by rw [hul]; omega))]⟩
end Go.Proofs.YtmjieefhjmiagaaDoor.G
