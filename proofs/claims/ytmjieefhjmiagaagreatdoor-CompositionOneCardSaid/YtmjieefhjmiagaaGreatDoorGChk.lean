/- Strings that can be read: three ways of asking are one. Plain Lean. -/
/- The references' ways of asking whether strings can be read. Plain Lean. -/
import Derived.Test.YtmjieefhjmiagaaGreatDoorGStr
import Derived.Lib.MapLaws
import Derived.Lib.ValidLaws
import Derived.Test.YtmjieefhjmiagaaGreatDoorGThr
set_option linter.all false
namespace Go.Proofs.YtmjieefhjmiagaaGreatDoor.G
open Go Go.RowKit
def rnD : Nat → List UInt8 → List Int
  | 0, _ => []
  | n + 1, l => if l = [] then [] else ((Lib.decodeL l).1 : Int) :: rnD n (l.drop (Lib.decodeL l).2)
theorem rnF_D (s : ByteArray) : ∀ (b i : Nat), rnF s b i = rnD b (s.data.toList.drop i)
  | 0, i => rfl
  | b + 1, i => by
    unfold rnF rnD
    have hsz : s.size = s.data.toList.length := by simp
    by_cases h : i < s.size
    · have hne : s.data.toList.drop i ≠ [] := by
        intro e
        have := congrArg List.length e
        rw [List.length_drop] at this
        simp only [List.length_nil] at this
        omega
      have hd : Lib.decodeL (s.data.toList.drop i) = Utf8.decode s i := by
        rw [Lib.decodeL_N, Lib.decode_N]
        simp only [List.length_drop, List.getD_eq_getElem?_getD, List.getElem?_drop, Nat.add_zero]
      rw [if_pos h, if_neg hne, hd, rnF_D s b, List.drop_drop]
    · rw [if_neg h, if_pos (List.drop_eq_nil_of_le (by omega))]
theorem runesL_D (s : ByteArray) : runesL s = rnD s.data.toList.length s.data.toList := by
  have hsz : s.size = s.data.toList.length := by simp
  rw [runesL, rnF_D, List.drop_zero, hsz]
theorem takeD : ∀ l : List UInt8, 3 < l.length → l.take 4 = [l.getD 0 0, l.getD 1 0, l.getD 2 0, l.getD 3 0]
  | [_], h => by simp at h
  | [_, _], h => by simp at h
  | [_, _, _], h => by simp at h
  | _ :: _ :: _ :: _ :: _, _ => by simp
theorem bad_high {n b0 b1 b2 b3 : Nat} (h0 : b0 < 256) (h : Lib.decodeN n b0 b1 b2 b3 = (65533, 1)) : 128 ≤ b0 := by
  by_cases hb : b0 < 128
  · unfold Lib.decodeN at h
    rw [if_pos hb] at h
    simp only [Prod.mk.injEq] at h
    omega
  · omega
theorem u8_zero {x : UInt8} (h : (0 : UInt8) = x) : x.toNat = 0 := by rw [← h]; rfl
/-- What one step of the decoder takes. -/
theorem chunk_zero (l : List UInt8) (hne : l ≠ []) : ((((Lib.decodeL l).1 : Nat) : Int) = 0 ↔ (0 : UInt8) ∈ l.take (Lib.decodeL l).2) ∧ (Lib.decodeL l).2 ≤ l.length ∧ 1 ≤ (Lib.decodeL l).2 := by
  have hl : 0 < l.length := List.length_pos_iff.2 hne
  rw [Lib.decodeL_N]
  have k0 := (l.getD 0 0).toNat_lt
  rcases Lib.decodeN_shape l.length (l.getD 0 0).toNat (l.getD 1 0).toNat (l.getD 2 0).toNat (l.getD 3 0).toNat with ⟨c, e⟩ | ⟨c1, c2, c3, cv, e⟩ | ⟨c1, c2, c3, c4, cv, cs, e⟩ | ⟨c1, c2, c3, c4, c5, cv, cw, e⟩ | e
  · rw [e]
    refine ⟨?_, by simp only []; omega, by simp⟩
    simp only []
    rw [Lib.takeA l hl, List.mem_singleton]
    constructor
    · intro h
      have : (l.getD 0 0).toNat = 0 := by omega
      exact (UInt8.toNat_inj.1 (by rw [this]; rfl)).symm
    · intro h; have := u8_zero h; omega
  · rw [e]
    refine ⟨?_, by simp only []; omega, by simp⟩
    simp only []
    rw [Lib.takeB l (by omega)]
    constructor
    · intro h; omega
    · intro h
      simp only [List.mem_cons, List.mem_nil_iff, or_false] at h
      rcases h with h | h <;> have := u8_zero h <;> omega
  · rw [e]
    refine ⟨?_, by simp only []; omega, by simp⟩
    simp only []
    rw [Lib.takeC l (by omega)]
    constructor
    · intro h; omega
    · intro h
      simp only [List.mem_cons, List.mem_nil_iff, or_false] at h
      rcases h with h | h | h <;> have := u8_zero h <;> omega
  · rw [e]
    refine ⟨?_, by simp only []; omega, by simp⟩
    simp only []
    rw [takeD l (by omega)]
    constructor
    · intro h; omega
    · intro h
      simp only [List.mem_cons, List.mem_nil_iff, or_false] at h
      rcases h with h | h | h | h <;> have := u8_zero h <;> omega
  · have hb := bad_high (by omega) e
    rw [e]
    refine ⟨?_, by simp only []; omega, by simp⟩
    simp only []
    rw [Lib.takeA l hl, List.mem_singleton]
    constructor
    · intro h; omega
    · intro h; have := u8_zero h; omega
theorem zero_D : ∀ (n : Nat) (l : List UInt8), l.length ≤ n → ((0 : Int) ∈ rnD n l ↔ (0 : UInt8) ∈ l)
  | 0, l, h => by
    have : l = [] := List.eq_nil_of_length_eq_zero (by omega)
    subst this; simp [rnD]
  | n + 1, l, h => by
    unfold rnD
    split
    · rename_i e; subst e; simp
    · rename_i hne
      obtain ⟨h1, h2, h3⟩ := chunk_zero l hne
      have ih := zero_D n (l.drop (Lib.decodeL l).2) (by rw [List.length_drop]; omega)
      rw [List.mem_cons, ih]
      have e : (0 : UInt8) ∈ l ↔ (0 : UInt8) ∈ l.take (Lib.decodeL l).2 ∨ (0 : UInt8) ∈ l.drop (Lib.decodeL l).2 := by rw [← List.mem_append, List.take_append_drop]
      rw [e, ← h1]
      constructor
      · rintro (h | h)
        · exact .inl h.symm
        · exact .inr h
      · rintro (h | h)
        · exact .inl h.symm
        · exact .inr h
theorem zero_runes (s : ByteArray) : (0 : Int) ∈ runesL s ↔ (0 : Int) ∈ bytesL s := by
  rw [runesL_D, zero_D _ _ (Nat.le_refl _), bytesL, List.mem_map]
  constructor
  · intro h; exact ⟨0, h, rfl⟩
  · rintro ⟨x, hx, e⟩
    have : x = 0 := UInt8.toNat_inj.1 (by have : x.toNat = 0 := by omega
                                          rw [this]; rfl)
    rw [← this]; exact hx
/-! encoding again -/
def strD (l : List Int) : List UInt8 := l.flatMap Lib.encodeRune
theorem enc_rune (r : Int) : (Utf8.encode r).data.toList = Lib.encodeRune r := by
  unfold Utf8.encode Lib.encodeRune
  by_cases hv : Utf8.valid r = true
  · simp only [hv, if_true]
    have hv' := hv
    simp only [Utf8.valid, Bool.or_eq_true, Bool.and_eq_true, decide_eq_true_eq] at hv'
    obtain ⟨c, rfl⟩ : ∃ c : Nat, r = (c : Int) := ⟨r.toNat, by omega⟩
    simp only [Int.toNat_natCast]
    by_cases h1 : c < 128
    · rw [if_pos h1, Lib.encodeRuneZ_one (by omega) (by omega)]; simp
    · rw [if_neg h1]
      by_cases h2 : c < 2048
      · rw [if_pos h2, Lib.encodeRuneZ_two (by omega) (by omega)]
        simp only [List.map_cons, List.map_nil]
        have e1 : (192 + (c : Int) / 64).toNat = 192 + c / 64 := by omega
        have e2 : (128 + (c : Int) % 64).toNat = 128 + c % 64 := by omega
        rw [e1, e2]
        all_goals rfl
      · rw [if_neg h2]
        by_cases h3 : c < 65536
        · rw [if_pos h3, Lib.encodeRuneZ_three (by omega)]
          simp only [List.map_cons, List.map_nil]
          have e1 : (224 + (c : Int) / 4096).toNat = 224 + c / 4096 := by omega
          have e2 : (128 + (c : Int) / 64 % 64).toNat = 128 + c / 64 % 64 := by omega
          have e3 : (128 + (c : Int) % 64).toNat = 128 + c % 64 := by omega
          rw [e1, e2, e3]
          all_goals rfl
        · rw [if_neg h3, Lib.encodeRuneZ_four (by omega) (by omega)]
          simp only [List.map_cons, List.map_nil]
          have e0 : (240 + (c : Int) / 262144).toNat = 240 + c / 262144 := by omega
          have e1 : (128 + (c : Int) / 4096 % 64).toNat = 128 + c / 4096 % 64 := by omega
          have e2 : (128 + (c : Int) / 64 % 64).toNat = 128 + c / 64 % 64 := by omega
          have e3 : (128 + (c : Int) % 64).toNat = 128 + c % 64 := by omega
          rw [e0, e1, e2, e3]
          all_goals rfl
  · have hv2 : Utf8.valid r = false := by simpa using hv
    have hv' := hv
    simp only [Utf8.valid, Bool.or_eq_true, Bool.and_eq_true, decide_eq_true_eq] at hv'
    rw [hv2, Lib.encodeRuneZ_bad (by omega)]
    simp only [Bool.false_eq_true, if_false]
    decide
theorem strL_fold (ns : List Int) : ∀ acc : ByteArray, (ns.foldl (fun r n => r ++ Utf8.encode n) acc).data.toList = acc.data.toList ++ strD ns := by
  induction ns with
  | nil => intro acc; simp [strD]
  | cons n ns ih =>
    intro acc
    rw [List.foldl_cons, ih]
    have : (acc ++ Utf8.encode n).data.toList = acc.data.toList ++ (Utf8.encode n).data.toList := by simp
    rw [this, enc_rune]
    simp [strD]
theorem strL_D (ns : List Int) : (strL ns).data.toList = strD ns := by
  unfold strL runesBytes
  rw [strL_fold]; rfl
theorem strD_len : ∀ (n : Nat) (l : List UInt8), l.length ≤ n → (Lib.validGoD n l = true → strD (rnD n l) = l) ∧ l.length ≤ (strD (rnD n l)).length ∧ (Lib.validGoD n l = false → l.length < (strD (rnD n l)).length)
  | 0, l, h => by
    have : l = [] := List.eq_nil_of_length_eq_zero (by omega)
    subst this
    refine ⟨fun _ => rfl, Nat.le_refl _, fun h => ?_⟩
    simp [Lib.validGoD] at h
  | n + 1, l, h => by
    unfold rnD Lib.validGoD
    split
    · rename_i e; subst e; exact ⟨fun _ => rfl, Nat.le_refl _, nofun⟩
    · rename_i hne
      obtain ⟨_, h2, h3⟩ := chunk_zero l hne
      obtain ⟨i1, i2, i3⟩ := strD_len n (l.drop (Lib.decodeL l).2) (by rw [List.length_drop]; omega)
      have hc : strD (((Lib.decodeL l).1 : Int) :: rnD n (l.drop (Lib.decodeL l).2)) = Lib.encodeRune ((Lib.decodeL l).1 : Int) ++ strD (rnD n (l.drop (Lib.decodeL l).2)) := by simp [strD]
      rw [List.length_drop] at i2 i3
      rw [hc]
      by_cases hb : (Lib.decodeL l).1 = 65533 ∧ (Lib.decodeL l).2 = 1
      · rw [if_pos hb]
        have h4 : (Lib.encodeRune ((Lib.decodeL l).1 : Int)).length = 3 := by rw [hb.1]; decide
        have h5 : (Lib.encodeRune ((Lib.decodeL l).1 : Int) ++ strD (rnD n (l.drop (Lib.decodeL l).2))).length = 3 + (strD (rnD n (l.drop (Lib.decodeL l).2))).length := by rw [List.length_append, h4]
        rw [h5]
        have h6 := hb.2
        refine ⟨nofun, ?_, fun _ => ?_⟩ <;> omega
      · rw [if_neg hb, Lib.encode_decode l hne hb]
        have h5 : (l.take (Lib.decodeL l).2 ++ strD (rnD n (l.drop (Lib.decodeL l).2))).length = (Lib.decodeL l).2 + (strD (rnD n (l.drop (Lib.decodeL l).2))).length := by rw [List.length_append, List.length_take, Nat.min_eq_left h2]
        rw [h5]
        refine ⟨fun hv => ?_, by omega, fun hv => ?_⟩
        · rw [i1 hv, List.take_append_drop]
        · have := i3 hv; omega
theorem strL_valid (s : ByteArray) : strL (runesL s) = s ↔ Lib.validD s.data.toList = true := by
  obtain ⟨h1, h2, h3⟩ := strD_len s.data.toList.length s.data.toList (Nat.le_refl _)
  rw [← runesL_D] at h1 h2 h3
  unfold Lib.validD
  constructor
  · intro h
    cases hv : Lib.validGoD s.data.toList.length s.data.toList with
    | true => rfl
    | false =>
      have := h3 hv
      rw [← strL_D, h] at this
      omega
  · intro h
    have := h1 h
    rw [← strL_D] at this
    have e : (strL (runesL s)).data = s.data := Array.toList_inj.1 this
    cases hs : strL (runesL s)
    cases s
    rw [hs] at e
    simp only at e
    rw [e]
end Go.Proofs.YtmjieefhjmiagaaGreatDoor.G

set_option linter.all false
namespace Go.Proofs.YtmjieefhjmiagaaGreatDoor.G
open Go Go.RowKit
def okR (s : ByteArray) : Bool := Lib.validD s.data.toList && !decide ((0 : Int) ∈ runesL s)
theorem okR_S (s : ByteArray) : okR s = okS s := by
  unfold okR okS
  congr 2
  exact decide_eq_decide.2 (zero_runes s)
def okT (s : ByteArray) : Bool := decide (strL (runesL s) = s) && !decide ((0 : Int) ∈ runesL s)
theorem okT_S (s : ByteArray) : okT s = okS s := by
  unfold okT okS
  congr 1
  · rw [Bool.eq_iff_iff, decide_eq_true_eq, strL_valid]
  · congr 1
    exact decide_eq_decide.2 (zero_runes s)
def runesR (s : ByteArray) : List Int := if okR s = true then runesL s else []
/-- The reference's error of two transducers and two strings. -/
def chk5 (a b : Tra) (x z : ByteArray) : Int := if (((!(validT a) || !(validT b)) || !(okR x)) || !(okR z)) = true then 1 else if (decide (40 < ((runesR x).length : Int)) || decide (40 < ((runesR z).length : Int))) = true then 2 else 0
theorem chk5_E (a b : Tra) (x z : ByteArray) : chk5 a b x z = btwE a b x z := by
  unfold chk5 btwE chkS runesR longS
  rw [okR_S, okR_S]
  cases validT a <;> cases validT b <;> cases hx : okS x <;> cases hz : okS z <;> simp [hx, hz]
  split <;> split <;> first | rfl | (exfalso; omega)
theorem tgt_nat {xs ys : List Int} {x : Arc} {i j : Nat} (h : tgtB xs ys x i j = true) (hi : i ≤ xs.length) (hj : j ≤ ys.length) : ∃ p q : Nat, eatK i x.inp = (p : Int) ∧ eatK j x.out = (q : Int) ∧ p ≤ xs.length ∧ q ≤ ys.length ∧ tgtK xs ys x i j = ((p * (ys.length + 1) + q : Nat) : Int) := by
  have h' := h
  rw [tgtB, Bool.and_eq_true] at h'
  obtain ⟨p, e1, hp⟩ := eat_nat h'.1 hi
  obtain ⟨q, e2, hq⟩ := eat_nat h'.2 hj
  refine ⟨p, q, e1, e2, hp, hq, ?_⟩
  rw [tgtK, if_pos h, e1, e2]
  simp
theorem tg_rng {a b : Int} (h1 : 0 ≤ a) (h2 : a ≤ 8192) (h3 : 0 ≤ b) (h4 : b ≤ 8192) : 0 ≤ a * b ∧ a * b ≤ 67108864 := by
  refine ⟨Int.mul_nonneg h1 h3, ?_⟩
  have := Int.mul_le_mul h2 h4 h3 (by omega)
  omega
theorem fit_no {l : List Int} {i : Nat} {r : Int} (h0 : ¬ r = 0) (h : (decide ((l.length : Int) ≤ (i : Int)) || !decide (l.getD i 0 = r)) = true) : fitB l (i : Int) r = false := by
  rw [← eatB_fit]
  unfold eatB
  rw [if_neg h0]
  simp only [Bool.or_eq_true, decide_eq_true_eq, Bool.not_eq_true', decide_eq_false_iff_not] at h
  rw [Bool.and_eq_false_iff, decide_eq_false_iff_not, decide_eq_false_iff_not]
  rcases h with h | h
  · exact .inl (by omega)
  · exact .inr h
theorem fit_yes {l : List Int} {i : Nat} {r : Int} (h0 : ¬ r = 0) (h : (decide ((l.length : Int) ≤ (i : Int)) || !decide (l.getD i 0 = r)) = false) : fitB l (i : Int) r = true ∧ eatK i r = (i : Int) + 1 ∧ i < l.length := by
  simp only [Bool.or_eq_false_iff, decide_eq_false_iff_not, Bool.not_eq_false', decide_eq_true_eq] at h
  refine ⟨?_, by rw [eatK, if_neg h0], by omega⟩
  rw [← eatB_fit]
  unfold eatB
  rw [if_neg h0, Bool.and_eq_true, decide_eq_true_eq, decide_eq_true_eq]
  exact ⟨by omega, h.2⟩
theorem fit_eps {l : List Int} {i : Nat} {r : Int} (h0 : r = 0) : fitB l (i : Int) r = true ∧ eatK i r = (i : Int) := by
  subst h0
  exact ⟨fitB_zero, eatK_zero⟩
theorem thr5 {a b : Tra} {x z : ByteArray} : thrS a b x z = if btwE a b x z = 0 then (relB (rawT a b) (runesL x) (runesL z), 0) else (false, btwE a b x z) := by
  by_cases h : btwE a b x z = 0
  · rw [if_pos h]
    obtain ⟨⟨hva, hvb⟩, hc⟩ := btw_ok h
    obtain ⟨e1, e2⟩ := thr_val (x := x) (z := z) hva hvb
    obtain ⟨m, ha, hra⟩ := valid_rng hva
    obtain ⟨n, hb, hrb⟩ := valid_rng hvb
    refine thr_pair (by rw [e1, hc]) ?_
    rw [e2, relB_iff, rel_raw ha hb hra hrb]
    exact ⟨fun h => h.2, fun h => ⟨hc, h⟩⟩
  · rw [if_neg h, thr_err h]
end Go.Proofs.YtmjieefhjmiagaaGreatDoor.G
