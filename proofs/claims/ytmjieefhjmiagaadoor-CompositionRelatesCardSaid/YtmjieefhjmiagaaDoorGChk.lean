/- The references' ways of asking whether strings can be read. Plain Lean. -/
import Derived.Test.YtmjieefhjmiagaaDoorGUni
import Derived.Test.YtmjieefhjmiagaaDoorGThr
import Derived.Test.YtmjieefhjmiagaaDoorGPass
set_option linter.all false
namespace Go.Proofs.YtmjieefhjmiagaaDoor.G
open Go Go.RowKit
def okR (s : ByteArray) : Bool := Lib.validD s.data.toList && !decide ((0 : Int) ∈ runesL s)
theorem okR_S (s : ByteArray) : okR s = okS s := by
  unfold okR okS
  congr 2
  exact decide_eq_decide.2 (zero_runes s)
def okT (s : ByteArray) : Bool := decide (strL (runesL s) = s) && !decide ((0 : Int) ∈ runesL s)
theorem okT_S (s : ByteArray) : okT s = okS s := by
  unfold okT okS
  congr 1
  · rw [Bool.eq_iff_iff, decide_eq_true_eq, strL_valid]
  · congr 1
    exact decide_eq_decide.2 (zero_runes s)
def runesR (s : ByteArray) : List Int := if okR s = true then runesL s else []
/-- The reference's error of two transducers and two strings. -/
def chk5 (a b : Tra) (x z : ByteArray) : Int := if (((!(validT a) || !(validT b)) || !(okR x)) || !(okR z)) = true then 1 else if (decide (40 < ((runesR x).length : Int)) || decide (40 < ((runesR z).length : Int))) = true then 2 else 0
theorem chk5_E (a b : Tra) (x z : ByteArray) : chk5 a b x z = btwE a b x z := by
  unfold chk5 btwE chkS runesR longS
  rw [okR_S, okR_S]
  cases validT a <;> cases validT b <;> cases hx : okS x <;> cases hz : okS z <;> simp [hx, hz]
  split <;> split <;> first | rfl | (exfalso; omega)
theorem tgt_nat {xs ys : List Int} {x : Arc} {i j : Nat} (h : tgtB xs ys x i j = true) (hi : i ≤ xs.length) (hj : j ≤ ys.length) : ∃ p q : Nat, eatK i x.inp = (p : Int) ∧ eatK j x.out = (q : Int) ∧ p ≤ xs.length ∧ q ≤ ys.length ∧ tgtK xs ys x i j = ((p * (ys.length + 1) + q : Nat) : Int) := by
  have h' := h
  rw [tgtB, Bool.and_eq_true] at h'
  obtain ⟨p, e1, hp⟩ := eat_nat h'.1 hi
  obtain ⟨q, e2, hq⟩ := eat_nat h'.2 hj
  refine ⟨p, q, e1, e2, hp, hq, ?_⟩
  rw [tgtK, if_pos h, e1, e2]
  simp
theorem tg_rng {a b : Int} (h1 : 0 ≤ a) (h2 : a ≤ 8192) (h3 : 0 ≤ b) (h4 : b ≤ 8192) : 0 ≤ a * b ∧ a * b ≤ 67108864 := by
  refine ⟨Int.mul_nonneg h1 h3, ?_⟩
  have := Int.mul_le_mul h2 h4 h3 (by omega)
  omega
theorem fit_no {l : List Int} {i : Nat} {r : Int} (h0 : ¬ r = 0) (h : (decide ((l.length : Int) ≤ (i : Int)) || !decide (l.getD i 0 = r)) = true) : fitB l (i : Int) r = false := by
  rw [← eatB_fit]
  unfold eatB
  rw [if_neg h0]
  simp only [Bool.or_eq_true, decide_eq_true_eq, Bool.not_eq_true', decide_eq_false_iff_not] at h
  rw [Bool.and_eq_false_iff, decide_eq_false_iff_not, decide_eq_false_iff_not]
  rcases h with h | h
  · exact .inl (by omega)
  · exact .inr h
theorem fit_yes {l : List Int} {i : Nat} {r : Int} (h0 : ¬ r = 0) (h : (decide ((l.length : Int) ≤ (i : Int)) || !decide (l.getD i 0 = r)) = false) : fitB l (i : Int) r = true ∧ eatK i r = (i : Int) + 1 ∧ i < l.length := by
  simp only [Bool.or_eq_false_iff, decide_eq_false_iff_not, Bool.not_eq_false', decide_eq_true_eq] at h
  refine ⟨?_, by rw [eatK, if_neg h0], by omega⟩
  rw [← eatB_fit]
  unfold eatB
  rw [if_neg h0, Bool.and_eq_true, decide_eq_true_eq, decide_eq_true_eq]
  exact ⟨by omega, h.2⟩
theorem fit_eps {l : List Int} {i : Nat} {r : Int} (h0 : r = 0) : fitB l (i : Int) r = true ∧ eatK i r = (i : Int) := by
  subst h0
  exact ⟨fitB_zero, eatK_zero⟩
theorem thr5 {a b : Tra} {x z : ByteArray} : thrS a b x z = if btwE a b x z = 0 then (relB (rawT a b) (runesL x) (runesL z), 0) else (false, btwE a b x z) := by
  by_cases h : btwE a b x z = 0
  · rw [if_pos h]
    obtain ⟨⟨hva, hvb⟩, hc⟩ := btw_ok h
    obtain ⟨e1, e2⟩ := thr_val (x := x) (z := z) hva hvb
    obtain ⟨m, ha, hra⟩ := valid_rng hva
    obtain ⟨n, hb, hrb⟩ := valid_rng hvb
    refine thr_pair (by rw [e1, hc]) ?_
    rw [e2, relB_iff, rel_raw ha hb hra hrb]
    exact ⟨fun h => h.2, fun h => ⟨hc, h⟩⟩
  · rw [if_neg h, thr_err h]
end Go.Proofs.YtmjieefhjmiagaaDoor.G
