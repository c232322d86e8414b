/- Strings of valid runes: decoding what was encoded; cutting strings. Plain Lean. -/
import Derived.Test.YtmjieefhjmiagaaGreatDoorGChk
set_option linter.all false
namespace Go.Proofs.YtmjieefhjmiagaaGreatDoor.G
open Go Go.RowKit
theorem u8n {c : Nat} (h : c < 256) : (c.toUInt8).toNat = c := by
  simp only [Nat.toUInt8_eq, UInt8.toNat_ofNat']
  omega
theorem vRune_iff {r : Int} : vRune r = true ↔ (0 ≤ r ∧ r ≤ 1114111) ∧ (r < 55296 ∨ 57343 < r) := by
  simp only [vRune, Bool.and_eq_true, Bool.or_eq_true, decide_eq_true_eq]
theorem dec_enc {r : Int} (hv : vRune r = true) (rest : List UInt8) : Lib.decodeL (Lib.encodeRune r ++ rest) = (r.toNat, (Lib.encodeRune r).length) := by
  obtain ⟨⟨h0, h1⟩, h2⟩ := vRune_iff.1 hv
  obtain ⟨c, rfl⟩ : ∃ c : Nat, r = (c : Int) := ⟨r.toNat, by omega⟩
  unfold Lib.encodeRune
  rw [Lib.decodeL_N]
  simp only [Int.toNat_natCast]
  by_cases k1 : c < 128
  · rw [Lib.encodeRuneZ_one (by omega) (by omega)]
    simp only [List.map_cons, List.map_nil, List.cons_append, List.nil_append, List.getD_cons_zero, List.length_cons, List.length_nil, Int.toNat_natCast]
    rw [u8n (by omega)]
    unfold Lib.decodeN
    rw [if_pos k1]
  · by_cases k2 : c < 2048
    · rw [Lib.encodeRuneZ_two (by omega) (by omega)]
      have e1 : (192 + (c : Int) / 64).toNat = 192 + c / 64 := by omega
      have e2 : (128 + (c : Int) % 64).toNat = 128 + c % 64 := by omega
      simp only [List.map_cons, List.map_nil, List.cons_append, List.nil_append, List.getD_cons_zero, List.getD_cons_succ, List.length_cons, List.length_nil, e1, e2]
      rw [u8n (by omega), u8n (by omega)]
      unfold Lib.decodeN
      rw [if_neg (by omega), if_pos (by omega), if_pos (by omega)]
      congr 1; omega
    · by_cases k3 : c < 65536
      · rw [Lib.encodeRuneZ_three (by omega)]
        have e1 : (224 + (c : Int) / 4096).toNat = 224 + c / 4096 := by omega
        have e2 : (128 + (c : Int) / 64 % 64).toNat = 128 + c / 64 % 64 := by omega
        have e3 : (128 + (c : Int) % 64).toNat = 128 + c % 64 := by omega
        simp only [List.map_cons, List.map_nil, List.cons_append, List.nil_append, List.getD_cons_zero, List.getD_cons_succ, List.length_cons, List.length_nil, e1, e2, e3]
        rw [u8n (by omega), u8n (by omega), u8n (by omega)]
        unfold Lib.decodeN
        rw [if_neg (by omega), if_neg (by omega), if_pos (by omega), if_pos (by omega)]
        congr 1; omega
      · rw [Lib.encodeRuneZ_four (by omega) (by omega)]
        have e0 : (240 + (c : Int) / 262144).toNat = 240 + c / 262144 := by omega
        have e1 : (128 + (c : Int) / 4096 % 64).toNat = 128 + c / 4096 % 64 := by omega
        have e2 : (128 + (c : Int) / 64 % 64).toNat = 128 + c / 64 % 64 := by omega
        have e3 : (128 + (c : Int) % 64).toNat = 128 + c % 64 := by omega
        simp only [List.map_cons, List.map_nil, List.cons_append, List.nil_append, List.getD_cons_zero, List.getD_cons_succ, List.length_cons, List.length_nil, e0, e1, e2, e3]
        rw [u8n (by omega), u8n (by omega), u8n (by omega), u8n (by omega)]
        unfold Lib.decodeN
        rw [if_neg (by omega), if_neg (by omega), if_neg (by omega), if_pos (by omega), if_pos (by omega)]
        congr 1; omega
theorem strD_cons (r : Int) (l : List Int) : strD (r :: l) = Lib.encodeRune r ++ strD l := by simp [strD]
theorem enc_pos (r : Int) : 1 ≤ (Lib.encodeRune r).length := by
  have := (Lib.encodeRuneZ_length r).1
  simpa [Lib.encodeRune] using this
theorem rnD_strD : ∀ (l : List Int) (n : Nat), (∀ r ∈ l, vRune r = true) → (strD l).length ≤ n → rnD n (strD l) = l
  | [], n, _, _ => by cases n <;> simp [strD, rnD]
  | r :: l, n, h, hn => by
    have hp := enc_pos r
    rw [strD_cons, List.length_append] at hn
    obtain ⟨n, rfl⟩ : ∃ k, n = k + 1 := ⟨n - 1, by omega⟩
    have hr := h r (by simp)
    rw [strD_cons, rnD, if_neg (by intro e; have := congrArg List.length e; simp only [List.length_append, List.length_nil] at this; omega), dec_enc hr, List.drop_left]
    simp only []
    rw [rnD_strD l n (fun x hx => h x (List.mem_cons_of_mem _ hx)) (by omega)]
    have := (vRune_iff.1 hr).1.1
    congr 1; omega
theorem runes_str {l : List Int} (h : ∀ r ∈ l, vRune r = true) : runesL (strL l) = l := by
  rw [runesL_D, strL_D, rnD_strD l _ h (Nat.le_refl _)]
theorem dec_valid (l : List UInt8) : vRune ((Lib.decodeL l).1 : Int) = true := by
  rw [vRune_iff, Lib.decodeL_N]
  unfold Lib.decodeN
  repeat' split
  all_goals (simp only []; omega)
theorem rnD_valid : ∀ (n : Nat) (l : List UInt8), ∀ r ∈ rnD n l, vRune r = true
  | 0, _, r, h => by simp [rnD] at h
  | n + 1, l, r, h => by
    unfold rnD at h
    split at h
    · simp at h
    · rcases List.mem_cons.1 h with rfl | h
      · exact dec_valid l
      · exact rnD_valid n _ r h
theorem runes_vr (s : ByteArray) : ∀ r ∈ runesL s, vRune r = true := by rw [runesL_D]; exact rnD_valid _ _
theorem ba_ext {s t : ByteArray} (h : s.data.toList = t.data.toList) : s = t := by
  cases s with
  | mk a => cases t with
    | mk b =>
      have e : a = b := Array.toList_inj.1 h
      rw [e]
theorem app_list (s t : ByteArray) : (s ++ t).data.toList = s.data.toList ++ t.data.toList := by simp
theorem strL_app (l m : List Int) : strL (l ++ m) = strL l ++ strL m := by
  refine ba_ext ?_
  rw [app_list, strL_D, strL_D, strL_D, strD, List.flatMap_append]; rfl
theorem strL_inj {l m : List Int} (hl : ∀ r ∈ l, vRune r = true) (hm : ∀ r ∈ m, vRune r = true) (h : strL l = strL m) : l = m := by
  rw [← runes_str hl, ← runes_str hm, h]
/-- Runes that may stand in a string that is read. -/
def Good (l : List Int) : Prop := ∀ r ∈ l, vRune r = true ∧ r ≠ 0
theorem Good.v {l : List Int} (h : Good l) : ∀ r ∈ l, vRune r = true := fun r hr => (h r hr).1
theorem good_app {l m : List Int} : Good (l ++ m) ↔ Good l ∧ Good m := by
  constructor
  · intro h; exact ⟨fun r hr => h r (List.mem_append_left _ hr), fun r hr => h r (List.mem_append_right _ hr)⟩
  · rintro ⟨h1, h2⟩ r hr
    rcases List.mem_append.1 hr with h | h
    · exact h1 r h
    · exact h2 r h
theorem okT_str {l : List Int} (h : Good l) : okT (strL l) = true := by
  rw [okT, runes_str h.v]
  simp only [decide_true, Bool.true_and, Bool.not_eq_true', decide_eq_false_iff_not]
  exact fun h0 => (h 0 h0).2 rfl
theorem okT_good' {s : ByteArray} (h : okT s = true) : Good (runesL s) ∧ strL (runesL s) = s := by
  rw [okT, Bool.and_eq_true, decide_eq_true_eq, Bool.not_eq_true', decide_eq_false_iff_not] at h
  exact ⟨fun r hr => ⟨runes_vr s r hr, fun e => h.2 (e ▸ hr)⟩, h.1⟩
/-! cuts -/
theorem ext_list (s : ByteArray) (i j : Nat) : (s.extract i j).data.toList = (s.data.toList.take j).drop i := by
  rw [ByteArray.data_extract, Array.toList_extract]
  simp [List.extract_eq_take_drop, List.drop_take]
theorem ext_join (s : ByteArray) {i j k : Nat} (h1 : i ≤ j) (h2 : j ≤ k) : s.extract i j ++ s.extract j k = s.extract i k := by
  refine ba_ext ?_
  rw [app_list, ext_list, ext_list, ext_list]
  have e : ∀ l : List UInt8, (l.take j).drop i ++ (l.take k).drop j = (l.take k).drop i := fun l => by
    have e1 : l.take j = (l.take k).take j := by rw [List.take_take, Nat.min_eq_left h2]
    rw [e1]
    generalize l.take k = m
    have h := List.take_append_drop (j - i) (m.drop i)
    rw [List.drop_drop, show i + (j - i) = j by omega] at h
    rw [List.drop_take]
    exact h
  exact e _
theorem ext_all (s : ByteArray) : s.extract 0 s.size = s := by
  refine ba_ext ?_
  rw [ext_list, List.drop_zero, List.take_of_length_le (by simp)]
theorem ext_left (s t : ByteArray) : (s ++ t).extract 0 s.size = s := by
  refine ba_ext ?_
  rw [ext_list, app_list, List.drop_zero]
  exact List.take_left' (by simp)
theorem ext_right (s t : ByteArray) : (s ++ t).extract s.size (s ++ t).size = t := by
  refine ba_ext ?_
  rw [ext_list, app_list, List.take_of_length_le (by simp)]
  exact List.drop_left' (by simp)
theorem app_size (s t : ByteArray) : (s ++ t).size = s.size + t.size := by simp
theorem strL_one (r : Int) : strL [r] = Utf8.encode r := by
  refine ba_ext ?_
  rw [strL_D, strD_cons, enc_rune]; simp [strD]
theorem strL_snoc (w : List Int) (r : Int) : strL (w ++ [r]) = strL w ++ Utf8.encode r := by rw [strL_app, strL_one]
theorem enc_le (r : Int) : (Lib.encodeRune r).length ≤ 4 := by
  have := (Lib.encodeRuneZ_length r).2
  simpa [Lib.encodeRune] using this
theorem strD_4 : ∀ l : List Int, (strD l).length ≤ 4 * l.length
  | [] => by simp [strD]
  | r :: l => by
    rw [strD_cons, List.length_append, List.length_cons]
    have := strD_4 l
    have := enc_le r
    omega
theorem strL_size (l : List Int) : (strL l).size ≤ 4 * l.length := by
  have h1 := strD_4 l
  rw [← strL_D] at h1
  simpa using h1
theorem enc_sz (r : Int) : (Utf8.encode r).size ≤ 4 := by
  have := strL_size [r]
  rw [strL_one] at this
  simpa using this
end Go.Proofs.YtmjieefhjmiagaaGreatDoor.G
