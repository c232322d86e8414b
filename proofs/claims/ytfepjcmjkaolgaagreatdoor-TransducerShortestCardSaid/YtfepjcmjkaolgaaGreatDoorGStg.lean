/- Strings of valid runes: decoding what was encoded; cutting strings. Plain Lean. -/
/- All strings over a list of runes, in order; the words of a net, one by one. Plain Lean. -/
/- Alphabet and Strings of the reference. Plain Lean. -/
/- The first places of a slice that is read; a load that counts as an effect. Plain theorems over any program. -/
/- Relates of the reference against the program's. Plain Lean. -/
import Derived.Test.YtfepjcmjkaolgaaGreatDoorGChk
import Derived.Test.YtfepjcmjkaolgaaGreatDoorGOuu
import Derived.Test.YtfepjcmjkaolgaaGreatDoorGLw3
import Derived.Test.YtfepjcmjkaolgaaGreatDoorGEps
import Derived.Test.YtfepjcmjkaolgaaGreatDoorGRls
set_option linter.all false
namespace Go.Proofs.YtfepjcmjkaolgaaGreatDoor.G
open Go Go.RowKit
theorem u8n {c : Nat} (h : c < 256) : (c.toUInt8).toNat = c := by
  simp only [Nat.toUInt8_eq, UInt8.toNat_ofNat']
  omega
theorem vRune_iff {r : Int} : vRune r = true ↔ (0 ≤ r ∧ r ≤ 1114111) ∧ (r < 55296 ∨ 57343 < r) := by
  simp only [vRune, Bool.and_eq_true, Bool.or_eq_true, decide_eq_true_eq]
theorem dec_enc {r : Int} (hv : vRune r = true) (rest : List UInt8) : Lib.decodeL (Lib.encodeRune r ++ rest) = (r.toNat, (Lib.encodeRune r).length) := by
  obtain ⟨⟨h0, h1⟩, h2⟩ := vRune_iff.1 hv
  obtain ⟨c, rfl⟩ : ∃ c : Nat, r = (c : Int) := ⟨r.toNat, by omega⟩
  unfold Lib.encodeRune
  rw [Lib.decodeL_N]
  simp only [Int.toNat_natCast]
  by_cases k1 : c < 128
  · rw [Lib.encodeRuneZ_one (by omega) (by omega)]
    simp only [List.map_cons, List.map_nil, List.cons_append, List.nil_append, List.getD_cons_zero, List.length_cons, List.length_nil, Int.toNat_natCast]
    rw [u8n (by omega)]
    unfold Lib.decodeN
    rw [if_pos k1]
  · by_cases k2 : c < 2048
    · rw [Lib.encodeRuneZ_two (by omega) (by omega)]
      have e1 : (192 + (c : Int) / 64).toNat = 192 + c / 64 := by omega
      have e2 : (128 + (c : Int) % 64).toNat = 128 + c % 64 := by omega
      simp only [List.map_cons, List.map_nil, List.cons_append, List.nil_append, List.getD_cons_zero, List.getD_cons_succ, List.length_cons, List.length_nil, e1, e2]
      rw [u8n (by omega), u8n (by omega)]
      unfold Lib.decodeN
      rw [if_neg (by omega), if_pos (by omega), if_pos (by omega)]
      congr 1; omega
    · by_cases k3 : c < 65536
      · rw [Lib.encodeRuneZ_three (by omega)]
        have e1 : (224 + (c : Int) / 4096).toNat = 224 + c / 4096 := by omega
        have e2 : (128 + (c : Int) / 64 % 64).toNat = 128 + c / 64 % 64 := by omega
        have e3 : (128 + (c : Int) % 64).toNat = 128 + c % 64 := by omega
        simp only [List.map_cons, List.map_nil, List.cons_append, List.nil_append, List.getD_cons_zero, List.getD_cons_succ, List.length_cons, List.length_nil, e1, e2, e3]
        rw [u8n (by omega), u8n (by omega), u8n (by omega)]
        unfold Lib.decodeN
        rw [if_neg (by omega), if_neg (by omega), if_pos (by omega), if_pos (by omega)]
        congr 1; omega
      · rw [Lib.encodeRuneZ_four (by omega) (by omega)]
        have e0 : (240 + (c : Int) / 262144).toNat = 240 + c / 262144 := by omega
        have e1 : (128 + (c : Int) / 4096 % 64).toNat = 128 + c / 4096 % 64 := by omega
        have e2 : (128 + (c : Int) / 64 % 64).toNat = 128 + c / 64 % 64 := by omega
        have e3 : (128 + (c : Int) % 64).toNat = 128 + c % 64 := by omega
        simp only [List.map_cons, List.map_nil, List.cons_append, List.nil_append, List.getD_cons_zero, List.getD_cons_succ, List.length_cons, List.length_nil, e0, e1, e2, e3]
        rw [u8n (by omega), u8n (by omega), u8n (by omega), u8n (by omega)]
        unfold Lib.decodeN
        rw [if_neg (by omega), if_neg (by omega), if_neg (by omega), if_pos (by omega), if_pos (by omega)]
        congr 1; omega
theorem strD_cons (r : Int) (l : List Int) : strD (r :: l) = Lib.encodeRune r ++ strD l := by simp [strD]
theorem enc_pos (r : Int) : 1 ≤ (Lib.encodeRune r).length := by
  have := (Lib.encodeRuneZ_length r).1
  simpa [Lib.encodeRune] using this
theorem rnD_strD : ∀ (l : List Int) (n : Nat), (∀ r ∈ l, vRune r = true) → (strD l).length ≤ n → rnD n (strD l) = l
  | [], n, _, _ => by cases n <;> simp [strD, rnD]
  | r :: l, n, h, hn => by
    have hp := enc_pos r
    rw [strD_cons, List.length_append] at hn
    obtain ⟨n, rfl⟩ : ∃ k, n = k + 1 := ⟨n - 1, by omega⟩
    have hr := h r (by simp)
    rw [strD_cons, rnD, if_neg (by intro e; have := congrArg List.length e; simp only [List.length_append, List.length_nil] at this; omega), dec_enc hr, List.drop_left]
    simp only []
    rw [rnD_strD l n (fun x hx => h x (List.mem_cons_of_mem _ hx)) (by omega)]
    have := (vRune_iff.1 hr).1.1
    congr 1; omega
theorem runes_str {l : List Int} (h : ∀ r ∈ l, vRune r = true) : runesL (strL l) = l := by
  rw [runesL_D, strL_D, rnD_strD l _ h (Nat.le_refl _)]
theorem ba_ext {s t : ByteArray} (h : s.data.toList = t.data.toList) : s = t := by
  cases s with
  | mk a => cases t with
    | mk b =>
      have e : a = b := Array.toList_inj.1 h
      rw [e]
theorem app_list (s t : ByteArray) : (s ++ t).data.toList = s.data.toList ++ t.data.toList := by simp
theorem strL_app (l m : List Int) : strL (l ++ m) = strL l ++ strL m := by
  refine ba_ext ?_
  rw [app_list, strL_D, strL_D, strL_D, strD, List.flatMap_append]; rfl
/-- Runes that may stand in a string that is read. -/
def Good (l : List Int) : Prop := ∀ r ∈ l, vRune r = true ∧ r ≠ 0
theorem Good.v {l : List Int} (h : Good l) : ∀ r ∈ l, vRune r = true := fun r hr => (h r hr).1
theorem okT_str {l : List Int} (h : Good l) : okT (strL l) = true := by
  rw [okT, runes_str h.v]
  simp only [decide_true, Bool.true_and, Bool.not_eq_true', decide_eq_false_iff_not]
  exact fun h0 => (h 0 h0).2 rfl
/-! cuts -/
end Go.Proofs.YtfepjcmjkaolgaaGreatDoor.G

set_option linter.all false
namespace Go.Proofs.YtfepjcmjkaolgaaGreatDoor.G
open Go Go.RowKit
def strs (l : List Int) : Nat → List (List Int)
  | 0 => [[]]
  | n + 1 => (strs l n).flatMap fun w => l.map fun r => w ++ [r]
theorem mem_strs {l : List Int} : ∀ {n : Nat} {w : List Int}, w ∈ strs l n ↔ w.length = n ∧ ∀ r ∈ w, r ∈ l
  | 0, w => by
    rw [strs, List.mem_singleton]
    constructor
    · rintro rfl; exact ⟨rfl, by simp⟩
    · rintro ⟨h, _⟩; exact List.eq_nil_of_length_eq_zero h
  | n + 1, w => by
    rw [strs, List.mem_flatMap]
    constructor
    · rintro ⟨u, hu, hw⟩
      obtain ⟨r, hr, rfl⟩ := List.mem_map.1 hw
      obtain ⟨h1, h2⟩ := mem_strs.1 hu
      refine ⟨by simp [h1], fun x hx => ?_⟩
      rcases List.mem_append.1 hx with hx | hx
      · exact h2 x hx
      · rw [List.mem_singleton.1 hx]; exact hr
    · rintro ⟨h1, h2⟩
      have hne : w ≠ [] := by intro e; subst e; simp at h1
      have e := List.dropLast_concat_getLast hne
      refine ⟨w.dropLast, mem_strs.2 ⟨by rw [List.length_dropLast]; omega, fun r hr => h2 r (List.dropLast_subset _ hr)⟩, List.mem_map.2 ⟨w.getLast hne, h2 _ (List.getLast_mem hne), e⟩⟩
theorem strs_len (l : List Int) : ∀ n, (strs l n).length = l.length ^ n
  | 0 => rfl
  | n + 1 => by
    rw [strs, flat_len_eq (B := l.length) (fun w => by rw [List.length_map]), strs_len l n, Nat.pow_succ]
theorem strs_sorted {l : List Int} (h : l.Pairwise (· < ·)) : ∀ n, (strs l n).Pairwise lexL
  | 0 => by simp [strs]
  | n + 1 => by
    rw [strs, List.pairwise_flatMap]
    refine ⟨fun w _ => ?_, (strs_sorted h n).imp_of_mem fun {a b} ha hb hab x hx y hy => ?_⟩
    · rw [List.pairwise_map]; exact h.imp fun k => lexL_last _ k
    · obtain ⟨r, _, rfl⟩ := List.mem_map.1 hx
      obtain ⟨r', _, rfl⟩ := List.mem_map.1 hy
      exact lexL_snoc _ _ (by rw [(mem_strs.1 ha).1, (mem_strs.1 hb).1]) hab
/-- The runes that arcs read, or write. -/
def labA (wr : Bool) (x : Arc) : Int := if wr = true then x.out else x.inp
def IsAlph (t : Tra) (wr : Bool) (l : List Int) : Prop := l.Pairwise (· < ·) ∧ ∀ r, r ∈ l ↔ r ≠ 0 ∧ ∃ x ∈ t.arcs, labA wr x = r
theorem isAlph_uniq {t : Tra} {wr : Bool} {l l' : List Int} (h : IsAlph t wr l) (k : IsAlph t wr l') : l = l' := isorted_ext h.1 k.1 fun r => by rw [h.2, k.2]
theorem run_out {t : Tra} {p q : Int} {xs ys : List Int} (h : Run t p xs ys q) : (∀ r ∈ xs, r ≠ 0 ∧ ∃ x ∈ t.arcs, x.inp = r) ∧ ∀ r ∈ ys, r ≠ 0 ∧ ∃ x ∈ t.arcs, x.out = r := by
  induction h with
  | nil => exact ⟨by simp, by simp⟩
  | @cons x us vs q hx _ ih =>
    constructor
    · intro r hr
      rcases List.mem_append.1 hr with hr | hr
      · unfold lab at hr
        split at hr
        · simp at hr
        · rename_i h0; rw [List.mem_singleton.1 hr]; exact ⟨h0, x, hx, rfl⟩
      · exact ih.1 r hr
    · intro r hr
      rcases List.mem_append.1 hr with hr | hr
      · unfold lab at hr
        split at hr
        · simp at hr
        · rename_i h0; rw [List.mem_singleton.1 hr]; exact ⟨h0, x, hx, rfl⟩
      · exact ih.2 r hr
theorem strL_one (r : Int) : strL [r] = Utf8.encode r := by
  refine ba_ext ?_
  rw [strL_D, strD_cons, enc_rune]; simp [strD]
theorem strL_snoc (w : List Int) (r : Int) : strL (w ++ [r]) = strL w ++ Utf8.encode r := by rw [strL_app, strL_one]
theorem alph_good {t : Tra} {wr : Bool} {l : List Int} (hv : validT t = true) (hl : IsAlph t wr l) {n : Nat} {w : List Int} (hw : w ∈ strs l n) : Good w := fun r hr => by
  obtain ⟨h0, x, hx, e⟩ := (hl.2 r).1 ((mem_strs.1 hw).2 r hr)
  refine ⟨?_, h0⟩
  have := validT_lab hv x hx
  rw [← e]; unfold labA; split
  · exact this.2
  · exact this.1
theorem enc_le (r : Int) : (Lib.encodeRune r).length ≤ 4 := by
  have := (Lib.encodeRuneZ_length r).2
  simpa [Lib.encodeRune] using this
theorem strD_4 : ∀ l : List Int, (strD l).length ≤ 4 * l.length
  | [] => by simp [strD]
  | r :: l => by
    rw [strD_cons, List.length_append, List.length_cons]
    have := strD_4 l
    have := enc_le r
    omega
theorem strL_size (l : List Int) : (strL l).size ≤ 4 * l.length := by
  have h1 := strD_4 l
  rw [← strL_D] at h1
  simpa using h1
/-! Outputs of the reference against the program's -/
end Go.Proofs.YtfepjcmjkaolgaaGreatDoor.G

set_option linter.all false
namespace Go.Proofs.YtfepjcmjkaolgaaGreatDoor.G
open Go Go.RowKit
def alphL (t : Tra) (wr : Bool) : List Int := (canon (((t.arcs.map (labA wr)).filter fun r => !decide (r = 0)).map fun r => (⟨r, 0, 0, 0⟩ : Arc))).map (·.src)
theorem alphL_is (t : Tra) (wr : Bool) : IsAlph t wr (alphL t wr) := by
  have hform : ∀ a ∈ canon (((t.arcs.map (labA wr)).filter fun r => !decide (r = 0)).map fun r => (⟨r, 0, 0, 0⟩ : Arc)), a = ⟨a.src, 0, 0, 0⟩ := fun a ha => by
    obtain ⟨r, _, rfl⟩ := List.mem_map.1 (mem_canon.1 ha)
    rfl
  refine ⟨?_, fun r => ?_⟩
  · rw [alphL, List.pairwise_map]
    refine (canon_sorted _).imp_of_mem fun {a b} ha hb h => ?_
    rw [hform a ha, hform b hb] at h
    unfold ltArc at h
    simp only [] at h
    omega
  · simp only [alphL, List.mem_map, mem_canon, List.mem_filter, Bool.not_eq_true', decide_eq_false_iff_not]
    constructor
    · rintro ⟨a, ⟨r', ⟨⟨x, hx, e⟩, h0⟩, rfl⟩, rfl⟩; exact ⟨h0, x, hx, e⟩
    · rintro ⟨h0, x, hx, e⟩; exact ⟨⟨r, 0, 0, 0⟩, ⟨r, ⟨⟨x, hx, e⟩, h0⟩, rfl⟩, rfl⟩
/-- While the arcs are gone through. -/
def AlphI (t : Tra) (wr : Bool) (k : Nat) (l : List Int) : Prop := l.Pairwise (· < ·) ∧ ∀ r, r ∈ l ↔ r ≠ 0 ∧ ∃ x ∈ t.arcs.take k, labA wr x = r
theorem alphI_fin {t : Tra} {wr : Bool} {l : List Int} (h : AlphI t wr t.arcs.length l) : l = alphL t wr := by
  unfold AlphI at h
  rw [List.take_length] at h
  exact isAlph_uniq h (alphL_is t wr)
section
variable {t : Tra} {wr : Bool} {k kk : Nat} {l : List Int} {x : Arc} {r : Int}
theorem alphI_mem (h : AlphI t wr k l) (hx : t.arcs[k]? = some x) {s : Int} : (s ≠ 0 ∧ ∃ y ∈ t.arcs.take (k + 1), labA wr y = s) ↔ s ∈ l ∨ (s ≠ 0 ∧ labA wr x = s) := by
  rw [h.2, take_snoc hx]
  constructor
  · rintro ⟨h0, y, hy, e⟩
    rcases List.mem_append.1 hy with hy | hy
    · exact .inl ⟨h0, y, hy, e⟩
    · rw [List.mem_singleton.1 hy] at e; exact .inr ⟨h0, e⟩
  · rintro (⟨h0, y, hy, e⟩ | ⟨h0, e⟩)
    · exact ⟨h0, y, List.mem_append_left _ hy, e⟩
    · exact ⟨h0, x, by simp, e⟩
theorem alph_ins (h : AlphI t wr k l) (hx : t.arcs[k]? = some x) (hr : labA wr x = r) (hk : kk ≤ l.length) (hlo : ∀ y ∈ l.take kk, y < r) (hst : (decide ((kk : Int) < (l.length : Int)) && decide (l.getD kk 0 < r)) = false)
    (hc : (!decide (r = 0) && (decide ((kk : Int) = (l.length : Int)) || !decide (l.getD kk 0 = r))) = true) : AlphI t wr (k + 1) ([] ++ l.take kk ++ [r] ++ l.drop kk) := by
  rw [Bool.and_eq_true] at hc
  have h0 := nd_t hc.1
  have hhi : ∀ y ∈ l.drop kk, r < y := fun y hy => by
    by_cases e : kk = l.length
    · subst e; simp at hy
    · have hz := getD_at (xs := l) (k := kk) (d := 0) (by omega)
      have h1 : ¬ l.getD kk 0 < r := by
        rw [decide_eq_true (by omega), Bool.true_and] at hst; exact of_decide_eq_false hst
      have h2 : ¬ l.getD kk 0 = r := by
        have := hc.2
        rw [decide_eq_false (by omega), Bool.false_or] at this; exact nd_t this
      rw [drop_cons hz] at hy
      rcases List.mem_cons.1 hy with rfl | hy
      · omega
      · have hs := h.1
        rw [← List.take_append_drop kk l, drop_cons hz] at hs
        have := (List.pairwise_cons.1 (List.pairwise_append.1 hs).2.1).1 y hy
        omega
  have hs := h.1
  rw [← List.take_append_drop kk l] at hs
  obtain ⟨s1, s2, s3⟩ := List.pairwise_append.1 hs
  rw [List.nil_append]
  refine ⟨List.pairwise_append.2 ⟨List.pairwise_append.2 ⟨s1, by simp, fun a ha b hb => by rw [List.mem_singleton.1 hb]; exact hlo a ha⟩, s2, fun a ha b hb => ?_⟩, fun s => ?_⟩
  · rcases List.mem_append.1 ha with ha | ha
    · exact s3 a ha b hb
    · rw [List.mem_singleton.1 ha]; exact hhi b hb
  · rw [alphI_mem h hx, List.mem_append, List.mem_append, List.mem_singleton]
    have e : s ∈ l ↔ s ∈ l.take kk ∨ s ∈ l.drop kk := by rw [← List.mem_append, List.take_append_drop]
    rw [e, hr]
    constructor
    · rintro ((h1 | h1) | h1)
      · exact .inl (.inl h1)
      · exact .inr ⟨h1 ▸ h0, h1.symm⟩
      · exact .inl (.inr h1)
    · rintro ((h1 | h1) | h1)
      · exact .inl (.inl h1)
      · exact .inr h1
      · exact .inl (.inr h1.2.symm)
theorem alph_skip (h : AlphI t wr k l) (hx : t.arcs[k]? = some x) (hr : labA wr x = r) (hk : kk ≤ l.length) (hc : (!decide (r = 0) && (decide ((kk : Int) = (l.length : Int)) || !decide (l.getD kk 0 = r))) = false) : AlphI t wr (k + 1) l := by
  refine ⟨h.1, fun s => ?_⟩
  rw [alphI_mem h hx, hr]
  constructor
  · exact .inl
  · rintro (h1 | ⟨h0, rfl⟩)
    · exact h1
    · rw [decide_eq_false h0, Bool.not_false, Bool.true_and, Bool.or_eq_false_iff] at hc
      have h3 := of_decide_eq_false hc.1
      rw [← nd_f hc.2]
      exact List.mem_of_getElem? (getD_at (by omega))
theorem alph_stp {y : Int} (hy : l[kk]? = some y) (h : ∀ y ∈ l.take kk, y < r) (hl : y < r) : ∀ y ∈ l.take (kk + 1), y < r := fun z hz => by
  rw [take_snoc hy] at hz
  rcases List.mem_append.1 hz with hz | hz
  · exact h z hz
  · rw [List.mem_singleton.1 hz]; exact hl
end
def smallB3 (t : Tra) : Bool := (((decide (t.states ≤ 5) && decide ((t.arcs.length : Int) ≤ 16)) && validT t) && decide (((alphL t false).length : Int) ≤ 2)) && decide (((alphL t true).length : Int) ≤ 2)
theorem small3 {t : Tra} (h : smallB3 t = true) : t.states ≤ 5 ∧ t.arcs.length ≤ 16 ∧ validT t = true ∧ (alphL t false).length ≤ 2 ∧ (alphL t true).length ≤ 2 := by
  simp only [smallB3, Bool.and_eq_true, decide_eq_true_eq] at h
  obtain ⟨⟨⟨⟨h1, h2⟩, h3⟩, h4⟩, h5⟩ := h
  exact ⟨h1, by omega, h3, by omega, by omega⟩
theorem alph_hal {t : Tra} (h : (alphL t true).length ≤ 2) : ∀ ks : List Int, ks.Nodup → (∀ r ∈ ks, r ≠ 0 ∧ ∃ z ∈ t.arcs, z.out = r) → ks.length ≤ 12 := fun ks h1 h2 => by
  have := h1.length_le_of_subset (l₂ := alphL t true) fun r hr => ((alphL_is t true).2 r).2 (h2 r hr)
  omega
/-! Strings -/
def nxB (l : List Int) (w : List Int) : List ByteArray := l.map fun r => strL w ++ Utf8.encode r
theorem nxB_len (l : List Int) (w : List Int) : (nxB l w).length ≤ l.length := by rw [nxB, List.length_map]; exact Nat.le_refl _
theorem strs_map {l : List Int} {n : Nat} : (strs l (n + 1)).map strL = (strs l n).flatMap (nxB l) := by
  rw [strs, List.map_flatMap]
  congr 1
  funext w
  rw [nxB, List.map_map]
  refine List.map_congr_left fun r _ => ?_
  exact strL_snoc w r
theorem strs_64 {l : List Int} (hl : l.length ≤ 2) {n : Nat} (hn : n ≤ 6) : (strs l n).length ≤ 64 := by
  rw [strs_len]
  exact Nat.le_trans (Nat.pow_le_pow_left hl n) (Nat.le_trans (Nat.pow_le_pow_right (by decide) hn) (by decide))
theorem enc_sz (r : Int) : (Utf8.encode r).size ≤ 4 := by
  have := strL_size [r]
  rw [strL_one] at this
  simpa using this
end Go.Proofs.YtfepjcmjkaolgaaGreatDoor.G

set_option linter.all false
namespace Go.Proofs.YtfepjcmjkaolgaaGreatDoor.G
open Go Go.RowKit
section
variable {P : Program} {α : Type} {E : ET P α}
theorem rd_cap3 {h : Heap} {u : SV} {xs : List α} (r : rdSl E h (sv u) xs) : xs.length ≤ u.2.2 := by
  obtain ⟨A, c, hv, h1, _⟩ := r
  obtain ⟨a, m, c'⟩ := u
  simp only [sv, Value.slice.injEq] at hv
  obtain ⟨_, _, rfl⟩ := hv
  exact h1
theorem rdTake {h : Heap} {u : SV} {xs : List α} {k : Nat} (r : rdSl E h (sv u) xs) (hk : k ≤ xs.length) : rdSl E h (sv (takeV u k)) (xs.take k) := by
  obtain ⟨A, c, hv, h1, h2, h3⟩ := r
  obtain ⟨a, m, c'⟩ := u
  simp only [sv, Value.slice.injEq] at hv
  obtain ⟨rfl, rfl, rfl⟩ := hv
  have hl : (xs.take k).length = k := by rw [List.length_take]; omega
  refine ⟨a, c', by rw [hl]; rfl, by omega, h2, fun hne => ?_⟩
  obtain ⟨b, o, rfl, hp⟩ := h3 (fun e => hne (by rw [e]; simp))
  have e1 : E.all xs = [] ++ E.all (xs.take k) ++ E.all (xs.drop k) := by rw [List.nil_append, ← E.all_append, List.take_append_drop]
  rw [e1] at hp
  exact ⟨b, o, rfl, hp.part⟩
end
end Go.Proofs.YtfepjcmjkaolgaaGreatDoor.G

set_option linter.all false
namespace Go.Proofs.YtfepjcmjkaolgaaGreatDoor.G
open Go Go.RowKit
theorem okR_T (s : ByteArray) : okR s = okT s := by rw [okR_S, okT_S]
theorem relS_bad3 {t : Tra} {x z : ByteArray} (h : ((!(okR x) || !(okR z)) || !(validT t)) = true) : relS t x z = false := by
  rw [okR_T, okR_T] at h
  unfold relS
  cases h1 : okT x <;> cases h2 : okT z <;> cases h3 : validT t <;> simp_all
theorem relS_ok3 {t : Tra} {x z : ByteArray} (hx : okR x = true) (hz : okR z = true) (hv : validT t = true) : relS t x z = relB t (runesL x) (runesL z) := by
  rw [okR_T] at hx hz
  rw [relS, hx, hz, hv]; rfl
end Go.Proofs.YtfepjcmjkaolgaaGreatDoor.G
