/- Strings of valid runes: decoding what was encoded; cutting strings. Plain Lean. -/
/- All strings over a list of runes, in order; the runes of a transducer. Plain Lean. -/
import Derived.Test.YtfepjcmjkaolgaaGRls
import Derived.Test.YtfepjcmjkaolgaaGMov
import Derived.Test.YtfepjcmjkaolgaaGOpn
set_option linter.all false
namespace Go.Proofs.Ytfepjcmjkaolgaa.G
open Go Go.RowKit
theorem u8n {c : Nat} (h : c < 256) : (c.toUInt8).toNat = c := by
  simp only [Nat.toUInt8_eq, UInt8.toNat_ofNat']
  omega
theorem vRune_iff {r : Int} : vRune r = true ↔ (0 ≤ r ∧ r ≤ 1114111) ∧ (r < 55296 ∨ 57343 < r) := by
  simp only [vRune, Bool.and_eq_true, Bool.or_eq_true, decide_eq_true_eq]
theorem dec_enc {r : Int} (hv : vRune r = true) (rest : List UInt8) : Lib.decodeL (Lib.encodeRune r ++ rest) = (r.toNat, (Lib.encodeRune r).length) := by
  obtain ⟨⟨h0, h1⟩, h2⟩ := vRune_iff.1 hv
  obtain ⟨c, rfl⟩ : ∃ c : Nat, r = (c : Int) := ⟨r.toNat, by omega⟩
  unfold Lib.encodeRune
  rw [Lib.decodeL_N]
  simp only [Int.toNat_natCast]
  by_cases k1 : c < 128
  · rw [Lib.encodeRuneZ_one (by omega) (by omega)]
    simp only [List.map_cons, List.map_nil, List.cons_append, List.nil_append, List.getD_cons_zero, List.length_cons, List.length_nil, Int.toNat_natCast]
    rw [u8n (by omega)]
    unfold Lib.decodeN
    rw [if_pos k1]
  · by_cases k2 : c < 2048
    · rw [Lib.encodeRuneZ_two (by omega) (by omega)]
      have e1 : (192 + (c : Int) / 64).toNat = 192 + c / 64 := by omega
      have e2 : (128 + (c : Int) % 64).toNat = 128 + c % 64 := by omega
      simp only [List.map_cons, List.map_nil, List.cons_append, List.nil_append, List.getD_cons_zero, List.getD_cons_succ, List.length_cons, List.length_nil, e1, e2]
      rw [u8n (by omega), u8n (by omega)]
      unfold Lib.decodeN
      rw [if_neg (by omega), if_pos (by omega), if_pos (by omega)]
      congr 1; omega
    · by_cases k3 : c < 65536
      · rw [Lib.encodeRuneZ_three (by omega)]
        have e1 : (224 + (c : Int) / 4096).toNat = 224 + c / 4096 := by omega
        have e2 : (128 + (c : Int) / 64 % 64).toNat = 128 + c / 64 % 64 := by omega
        have e3 : (128 + (c : Int) % 64).toNat = 128 + c % 64 := by omega
        simp only [List.map_cons, List.map_nil, List.cons_append, List.nil_append, List.getD_cons_zero, List.getD_cons_succ, List.length_cons, List.length_nil, e1, e2, e3]
        rw [u8n (by omega), u8n (by omega), u8n (by omega)]
        unfold Lib.decodeN
        rw [if_neg (by omega), if_neg (by omega), if_pos (by omega), if_pos (by omega)]
        congr 1; omega
      · rw [Lib.encodeRuneZ_four (by omega) (by omega)]
        have e0 : (240 + (c : Int) / 262144).toNat = 240 + c / 262144 := by omega
        have e1 : (128 + (c : Int) / 4096 % 64).toNat = 128 + c / 4096 % 64 := by omega
        have e2 : (128 + (c : Int) / 64 % 64).toNat = 128 + c / 64 % 64 := by omega
        have e3 : (128 + (c : Int) % 64).toNat = 128 + c % 64 := by omega
        simp only [List.map_cons, List.map_nil, List.cons_append, List.nil_append, List.getD_cons_zero, List.getD_cons_succ, List.length_cons, List.length_nil, e0, e1, e2, e3]
        rw [u8n (by omega), u8n (by omega), u8n (by omega), u8n (by omega)]
        unfold Lib.decodeN
        rw [if_neg (by omega), if_neg (by omega), if_neg (by omega), if_pos (by omega), if_pos (by omega)]
        congr 1; omega
theorem strD_cons (r : Int) (l : List Int) : strD (r :: l) = Lib.encodeRune r ++ strD l := by simp [strD]
theorem enc_pos (r : Int) : 1 ≤ (Lib.encodeRune r).length := by
  have := (Lib.encodeRuneZ_length r).1
  simpa [Lib.encodeRune] using this
theorem rnD_strD : ∀ (l : List Int) (n : Nat), (∀ r ∈ l, vRune r = true) → (strD l).length ≤ n → rnD n (strD l) = l
  | [], n, _, _ => by cases n <;> simp [strD, rnD]
  | r :: l, n, h, hn => by
    have hp := enc_pos r
    rw [strD_cons, List.length_append] at hn
    obtain ⟨n, rfl⟩ : ∃ k, n = k + 1 := ⟨n - 1, by omega⟩
    have hr := h r (by simp)
    rw [strD_cons, rnD, if_neg (by intro e; have := congrArg List.length e; simp only [List.length_append, List.length_nil] at this; omega), dec_enc hr, List.drop_left]
    simp only []
    rw [rnD_strD l n (fun x hx => h x (List.mem_cons_of_mem _ hx)) (by omega)]
    have := (vRune_iff.1 hr).1.1
    congr 1; omega
theorem runes_str {l : List Int} (h : ∀ r ∈ l, vRune r = true) : runesL (strL l) = l := by
  rw [runesL_D, strL_D, rnD_strD l _ h (Nat.le_refl _)]
/-- Runes that may stand in a string that is read. -/
def Good (l : List Int) : Prop := ∀ r ∈ l, vRune r = true ∧ r ≠ 0
theorem Good.v {l : List Int} (h : Good l) : ∀ r ∈ l, vRune r = true := fun r hr => (h r hr).1
theorem okT_str {l : List Int} (h : Good l) : okT (strL l) = true := by
  rw [okT, runes_str h.v]
  simp only [decide_true, Bool.true_and, Bool.not_eq_true', decide_eq_false_iff_not]
  exact fun h0 => (h 0 h0).2 rfl
/-! cuts -/
theorem enc_le (r : Int) : (Lib.encodeRune r).length ≤ 4 := by
  have := (Lib.encodeRuneZ_length r).2
  simpa [Lib.encodeRune] using this
theorem strD_4 : ∀ l : List Int, (strD l).length ≤ 4 * l.length
  | [] => by simp [strD]
  | r :: l => by
    rw [strD_cons, List.length_append, List.length_cons]
    have := strD_4 l
    have := enc_le r
    omega
theorem strL_size (l : List Int) : (strL l).size ≤ 4 * l.length := by
  have h1 := strD_4 l
  rw [← strL_D] at h1
  simpa using h1
end Go.Proofs.Ytfepjcmjkaolgaa.G

set_option linter.all false
namespace Go.Proofs.Ytfepjcmjkaolgaa.G
open Go Go.RowKit
theorem q_to {P : Program} {n : Nat} {ops : Array Oper} {S : World → Prop} {o : Oper} {e : Env} {v v' : Value} (h : v = v') (q : Quiet P n ops S o e v) : Quiet P n ops S o e v' := h ▸ q
theorem validT_lab {t : Tra} (h : validT t = true) : ∀ x ∈ t.arcs, vRune x.inp = true ∧ vRune x.out = true := fun x hx => by
  simp only [validT, Bool.and_eq_true] at h
  have := List.all_eq_true.1 h.2.1.2 x hx
  simp only [arcOk, Bool.not_eq_true', Bool.or_eq_false_iff, Bool.not_eq_false'] at this
  exact ⟨this.1.2, this.2⟩
theorem bool_to {f : Nat} {args : Array Value} {w : World} {I : Heap} {b b' : Bool} (e : b = b') (h : Calls A f args w (Ret w I fun r _ => r = .bool b)) : Calls A f args w (Ret w I fun r _ => r = .bool b') := e ▸ h
def strs (l : List Int) : Nat → List (List Int)
  | 0 => [[]]
  | n + 1 => (strs l n).flatMap fun w => l.map fun r => w ++ [r]
theorem mem_strs {l : List Int} : ∀ {n : Nat} {w : List Int}, w ∈ strs l n ↔ w.length = n ∧ ∀ r ∈ w, r ∈ l
  | 0, w => by
    rw [strs, List.mem_singleton]
    constructor
    · rintro rfl; exact ⟨rfl, by simp⟩
    · rintro ⟨h, _⟩; exact List.eq_nil_of_length_eq_zero h
  | n + 1, w => by
    rw [strs, List.mem_flatMap]
    constructor
    · rintro ⟨u, hu, hw⟩
      obtain ⟨r, hr, rfl⟩ := List.mem_map.1 hw
      obtain ⟨h1, h2⟩ := mem_strs.1 hu
      refine ⟨by simp [h1], fun x hx => ?_⟩
      rcases List.mem_append.1 hx with hx | hx
      · exact h2 x hx
      · rw [List.mem_singleton.1 hx]; exact hr
    · rintro ⟨h1, h2⟩
      have hne : w ≠ [] := by intro e; subst e; simp at h1
      have e := List.dropLast_concat_getLast hne
      refine ⟨w.dropLast, mem_strs.2 ⟨by rw [List.length_dropLast]; omega, fun r hr => h2 r (List.dropLast_subset _ hr)⟩, List.mem_map.2 ⟨w.getLast hne, h2 _ (List.getLast_mem hne), e⟩⟩
theorem strs_sorted {l : List Int} (h : l.Pairwise (· < ·)) : ∀ n, (strs l n).Pairwise lexL
  | 0 => by simp [strs]
  | n + 1 => by
    rw [strs, List.pairwise_flatMap]
    refine ⟨fun w _ => ?_, (strs_sorted h n).imp_of_mem fun {a b} ha hb hab x hx y hy => ?_⟩
    · rw [List.pairwise_map]; exact h.imp fun k => lexL_last _ k
    · obtain ⟨r, _, rfl⟩ := List.mem_map.1 hx
      obtain ⟨r', _, rfl⟩ := List.mem_map.1 hy
      exact lexL_snoc _ _ (by rw [(mem_strs.1 ha).1, (mem_strs.1 hb).1]) hab
/-- The runes that arcs read, or write. -/
def labA (wr : Bool) (x : Arc) : Int := if wr = true then x.out else x.inp
def IsAlph (t : Tra) (wr : Bool) (l : List Int) : Prop := l.Pairwise (· < ·) ∧ ∀ r, r ∈ l ↔ r ≠ 0 ∧ ∃ x ∈ t.arcs, labA wr x = r
theorem run_out {t : Tra} {p q : Int} {xs ys : List Int} (h : Run t p xs ys q) : (∀ r ∈ xs, r ≠ 0 ∧ ∃ x ∈ t.arcs, x.inp = r) ∧ ∀ r ∈ ys, r ≠ 0 ∧ ∃ x ∈ t.arcs, x.out = r := by
  induction h with
  | nil => exact ⟨by simp, by simp⟩
  | @cons x us vs q hx _ ih =>
    constructor
    · intro r hr
      rcases List.mem_append.1 hr with hr | hr
      · unfold lab at hr
        split at hr
        · simp at hr
        · rename_i h0; rw [List.mem_singleton.1 hr]; exact ⟨h0, x, hx, rfl⟩
      · exact ih.1 r hr
    · intro r hr
      rcases List.mem_append.1 hr with hr | hr
      · unfold lab at hr
        split at hr
        · simp at hr
        · rename_i h0; rw [List.mem_singleton.1 hr]; exact ⟨h0, x, hx, rfl⟩
      · exact ih.2 r hr
end Go.Proofs.Ytfepjcmjkaolgaa.G
