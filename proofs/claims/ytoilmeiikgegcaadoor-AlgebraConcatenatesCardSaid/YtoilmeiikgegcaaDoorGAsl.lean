/- Strings of valid runes: decoding what was encoded; cutting strings. Plain Lean. -/
/- The algebra's operations: what they answer, and the laws on related strings. Plain Lean. -/
import Derived.Test.YtoilmeiikgegcaaDoorGChk
import Derived.Test.YtoilmeiikgegcaaDoorGAlg
set_option linter.all false
namespace Go.Proofs.YtoilmeiikgegcaaDoor.G
open Go Go.RowKit
theorem u8n {c : Nat} (h : c < 256) : (c.toUInt8).toNat = c := by
  simp only [Nat.toUInt8_eq, UInt8.toNat_ofNat']
  omega
theorem vRune_iff {r : Int} : vRune r = true ↔ (0 ≤ r ∧ r ≤ 1114111) ∧ (r < 55296 ∨ 57343 < r) := by
  simp only [vRune, Bool.and_eq_true, Bool.or_eq_true, decide_eq_true_eq]
theorem dec_enc {r : Int} (hv : vRune r = true) (rest : List UInt8) : Lib.decodeL (Lib.encodeRune r ++ rest) = (r.toNat, (Lib.encodeRune r).length) := by
  obtain ⟨⟨h0, h1⟩, h2⟩ := vRune_iff.1 hv
  obtain ⟨c, rfl⟩ : ∃ c : Nat, r = (c : Int) := ⟨r.toNat, by omega⟩
  unfold Lib.encodeRune
  rw [Lib.decodeL_N]
  simp only [Int.toNat_natCast]
  by_cases k1 : c < 128
  · rw [Lib.encodeRuneZ_one (by omega) (by omega)]
    simp only [List.map_cons, List.map_nil, List.cons_append, List.nil_append, List.getD_cons_zero, List.length_cons, List.length_nil, Int.toNat_natCast]
    rw [u8n (by omega)]
    unfold Lib.decodeN
    rw [if_pos k1]
  · by_cases k2 : c < 2048
    · rw [Lib.encodeRuneZ_two (by omega) (by omega)]
      have e1 : (192 + (c : Int) / 64).toNat = 192 + c / 64 := by omega
      have e2 : (128 + (c : Int) % 64).toNat = 128 + c % 64 := by omega
      simp only [List.map_cons, List.map_nil, List.cons_append, List.nil_append, List.getD_cons_zero, List.getD_cons_succ, List.length_cons, List.length_nil, e1, e2]
      rw [u8n (by omega), u8n (by omega)]
      unfold Lib.decodeN
      rw [if_neg (by omega), if_pos (by omega), if_pos (by omega)]
      congr 1; omega
    · by_cases k3 : c < 65536
      · rw [Lib.encodeRuneZ_three (by omega)]
        have e1 : (224 + (c : Int) / 4096).toNat = 224 + c / 4096 := by omega
        have e2 : (128 + (c : Int) / 64 % 64).toNat = 128 + c / 64 % 64 := by omega
        have e3 : (128 + (c : Int) % 64).toNat = 128 + c % 64 := by omega
        simp only [List.map_cons, List.map_nil, List.cons_append, List.nil_append, List.getD_cons_zero, List.getD_cons_succ, List.length_cons, List.length_nil, e1, e2, e3]
        rw [u8n (by omega), u8n (by omega), u8n (by omega)]
        unfold Lib.decodeN
        rw [if_neg (by omega), if_neg (by omega), if_pos (by omega), if_pos (by omega)]
        congr 1; omega
      · rw [Lib.encodeRuneZ_four (by omega) (by omega)]
        have e0 : (240 + (c : Int) / 262144).toNat = 240 + c / 262144 := by omega
        have e1 : (128 + (c : Int) / 4096 % 64).toNat = 128 + c / 4096 % 64 := by omega
        have e2 : (128 + (c : Int) / 64 % 64).toNat = 128 + c / 64 % 64 := by omega
        have e3 : (128 + (c : Int) % 64).toNat = 128 + c % 64 := by omega
        simp only [List.map_cons, List.map_nil, List.cons_append, List.nil_append, List.getD_cons_zero, List.getD_cons_succ, List.length_cons, List.length_nil, e0, e1, e2, e3]
        rw [u8n (by omega), u8n (by omega), u8n (by omega), u8n (by omega)]
        unfold Lib.decodeN
        rw [if_neg (by omega), if_neg (by omega), if_neg (by omega), if_pos (by omega), if_pos (by omega)]
        congr 1; omega
theorem strD_cons (r : Int) (l : List Int) : strD (r :: l) = Lib.encodeRune r ++ strD l := by simp [strD]
theorem enc_pos (r : Int) : 1 ≤ (Lib.encodeRune r).length := by
  have := (Lib.encodeRuneZ_length r).1
  simpa [Lib.encodeRune] using this
theorem rnD_strD : ∀ (l : List Int) (n : Nat), (∀ r ∈ l, vRune r = true) → (strD l).length ≤ n → rnD n (strD l) = l
  | [], n, _, _ => by cases n <;> simp [strD, rnD]
  | r :: l, n, h, hn => by
    have hp := enc_pos r
    rw [strD_cons, List.length_append] at hn
    obtain ⟨n, rfl⟩ : ∃ k, n = k + 1 := ⟨n - 1, by omega⟩
    have hr := h r (by simp)
    rw [strD_cons, rnD, if_neg (by intro e; have := congrArg List.length e; simp only [List.length_append, List.length_nil] at this; omega), dec_enc hr, List.drop_left]
    simp only []
    rw [rnD_strD l n (fun x hx => h x (List.mem_cons_of_mem _ hx)) (by omega)]
    have := (vRune_iff.1 hr).1.1
    congr 1; omega
theorem runes_str {l : List Int} (h : ∀ r ∈ l, vRune r = true) : runesL (strL l) = l := by
  rw [runesL_D, strL_D, rnD_strD l _ h (Nat.le_refl _)]
theorem dec_valid (l : List UInt8) : vRune ((Lib.decodeL l).1 : Int) = true := by
  rw [vRune_iff, Lib.decodeL_N]
  unfold Lib.decodeN
  repeat' split
  all_goals (simp only []; omega)
theorem rnD_valid : ∀ (n : Nat) (l : List UInt8), ∀ r ∈ rnD n l, vRune r = true
  | 0, _, r, h => by simp [rnD] at h
  | n + 1, l, r, h => by
    unfold rnD at h
    split at h
    · simp at h
    · rcases List.mem_cons.1 h with rfl | h
      · exact dec_valid l
      · exact rnD_valid n _ r h
theorem runes_vr (s : ByteArray) : ∀ r ∈ runesL s, vRune r = true := by rw [runesL_D]; exact rnD_valid _ _
theorem ba_ext {s t : ByteArray} (h : s.data.toList = t.data.toList) : s = t := by
  cases s with
  | mk a => cases t with
    | mk b =>
      have e : a = b := Array.toList_inj.1 h
      rw [e]
theorem app_list (s t : ByteArray) : (s ++ t).data.toList = s.data.toList ++ t.data.toList := by simp
theorem strL_app (l m : List Int) : strL (l ++ m) = strL l ++ strL m := by
  refine ba_ext ?_
  rw [app_list, strL_D, strL_D, strL_D, strD, List.flatMap_append]; rfl
theorem strL_inj {l m : List Int} (hl : ∀ r ∈ l, vRune r = true) (hm : ∀ r ∈ m, vRune r = true) (h : strL l = strL m) : l = m := by
  rw [← runes_str hl, ← runes_str hm, h]
/-- Runes that may stand in a string that is read. -/
def Good (l : List Int) : Prop := ∀ r ∈ l, vRune r = true ∧ r ≠ 0
theorem Good.v {l : List Int} (h : Good l) : ∀ r ∈ l, vRune r = true := fun r hr => (h r hr).1
theorem good_app {l m : List Int} : Good (l ++ m) ↔ Good l ∧ Good m := by
  constructor
  · intro h; exact ⟨fun r hr => h r (List.mem_append_left _ hr), fun r hr => h r (List.mem_append_right _ hr)⟩
  · rintro ⟨h1, h2⟩ r hr
    rcases List.mem_append.1 hr with h | h
    · exact h1 r h
    · exact h2 r h
theorem okT_str {l : List Int} (h : Good l) : okT (strL l) = true := by
  rw [okT, runes_str h.v]
  simp only [decide_true, Bool.true_and, Bool.not_eq_true', decide_eq_false_iff_not]
  exact fun h0 => (h 0 h0).2 rfl
theorem okT_good' {s : ByteArray} (h : okT s = true) : Good (runesL s) ∧ strL (runesL s) = s := by
  rw [okT, Bool.and_eq_true, decide_eq_true_eq, Bool.not_eq_true', decide_eq_false_iff_not] at h
  exact ⟨fun r hr => ⟨runes_vr s r hr, fun e => h.2 (e ▸ hr)⟩, h.1⟩
/-! cuts -/
theorem ext_list (s : ByteArray) (i j : Nat) : (s.extract i j).data.toList = (s.data.toList.take j).drop i := by
  rw [ByteArray.data_extract, Array.toList_extract]
  simp [List.extract_eq_take_drop, List.drop_take]
theorem ext_join (s : ByteArray) {i j k : Nat} (h1 : i ≤ j) (h2 : j ≤ k) : s.extract i j ++ s.extract j k = s.extract i k := by
  refine ba_ext ?_
  rw [app_list, ext_list, ext_list, ext_list]
  have e : ∀ l : List UInt8, (l.take j).drop i ++ (l.take k).drop j = (l.take k).drop i := fun l => by
    have e1 : l.take j = (l.take k).take j := by rw [List.take_take, Nat.min_eq_left h2]
    rw [e1]
    generalize l.take k = m
    have h := List.take_append_drop (j - i) (m.drop i)
    rw [List.drop_drop, show i + (j - i) = j by omega] at h
    rw [List.drop_take]
    exact h
  exact e _
theorem ext_all (s : ByteArray) : s.extract 0 s.size = s := by
  refine ba_ext ?_
  rw [ext_list, List.drop_zero, List.take_of_length_le (by simp)]
theorem ext_left (s t : ByteArray) : (s ++ t).extract 0 s.size = s := by
  refine ba_ext ?_
  rw [ext_list, app_list, List.drop_zero]
  exact List.take_left' (by simp)
theorem ext_right (s t : ByteArray) : (s ++ t).extract s.size (s ++ t).size = t := by
  refine ba_ext ?_
  rw [ext_list, app_list, List.take_of_length_le (by simp)]
  exact List.drop_left' (by simp)
theorem app_size (s t : ByteArray) : (s ++ t).size = s.size + t.size := by simp
end Go.Proofs.YtoilmeiikgegcaaDoor.G

set_option linter.all false
namespace Go.Proofs.YtoilmeiikgegcaaDoor.G
open Go Go.RowKit
noncomputable def UniS (a b : Tra) : Tra × Int := if (validT a && validT b) = true then FinS (uniT a b) (1 + a.states.toNat + b.states.toNat) else (zeroTra, 1)
noncomputable def ConS (a b : Tra) : Tra × Int := if (validT a && validT b) = true then FinS (conT a b) (a.states.toNat + b.states.toNat) else (zeroTra, 1)
noncomputable def StaS (a : Tra) : Tra × Int := if validT a = true then FinS (staT a) (1 + a.states.toNat) else (zeroTra, 1)
noncomputable def RevS (a : Tra) : Tra × Int := if validT a = true then FinS (revT a) (1 + a.states.toNat) else (zeroTra, 1)
noncomputable def DomS (a : Tra) : Tra × Int := if validT a = true then FinS (domT a) a.states.toNat else (zeroTra, 1)
noncomputable def RanS (a : Tra) : Tra × Int := if validT a = true then FinS (ranT a) a.states.toNat else (zeroTra, 1)
theorem uni_bad {a b : Tra} (h : (!(validT a) || !(validT b)) = true) : UniS a b = (zeroTra, 1) := by
  rw [UniS, if_neg]; revert h; cases validT a <;> cases validT b <;> simp
theorem uni_ok {a b : Tra} {m n : Nat} (ha : validT a = true) (hb : validT b = true) (hm : a.states = m) (hn : b.states = n) : UniS a b = FinS (uniT a b) (1 + m + n) := by rw [UniS, ha, hb, hm, hn]; rfl
theorem con_bad {a b : Tra} (h : (!(validT a) || !(validT b)) = true) : ConS a b = (zeroTra, 1) := by
  rw [ConS, if_neg]; revert h; cases validT a <;> cases validT b <;> simp
theorem con_ok {a b : Tra} {m n : Nat} (ha : validT a = true) (hb : validT b = true) (hm : a.states = m) (hn : b.states = n) : ConS a b = FinS (conT a b) (m + n) := by rw [ConS, ha, hb, hm, hn]; rfl
theorem sta_bad {a : Tra} (h : (!(validT a)) = true) : StaS a = (zeroTra, 1) := by rw [StaS, if_neg (by simpa using h)]
theorem sta_ok {a : Tra} {m : Nat} (ha : validT a = true) (hm : a.states = m) : StaS a = FinS (staT a) (1 + m) := by rw [StaS, if_pos ha, hm]; rfl
theorem rev_bad {a : Tra} (h : (!(validT a)) = true) : RevS a = (zeroTra, 1) := by rw [RevS, if_neg (by simpa using h)]
theorem rev_ok {a : Tra} {m : Nat} (ha : validT a = true) (hm : a.states = m) : RevS a = FinS (revT a) (1 + m) := by rw [RevS, if_pos ha, hm]; rfl
theorem dom_bad {a : Tra} (h : (!(validT a)) = true) : DomS a = (zeroTra, 1) := by rw [DomS, if_neg (by simpa using h)]
theorem dom_ok {a : Tra} {m : Nat} (ha : validT a = true) (hm : a.states = m) : DomS a = FinS (domT a) m := by rw [DomS, if_pos ha, hm]; rfl
theorem ran_bad {a : Tra} (h : (!(validT a)) = true) : RanS a = (zeroTra, 1) := by rw [RanS, if_neg (by simpa using h)]
theorem ran_ok {a : Tra} {m : Nat} (ha : validT a = true) (hm : a.states = m) : RanS a = FinS (ranT a) m := by rw [RanS, if_pos ha, hm]; rfl
/-! what finish answers -/
def Labs (t : Tra) : Prop := ∀ x ∈ t.arcs, vRune x.inp = true ∧ vRune x.out = true
theorem fin_good {t : Tra} {m : Nat} (hr : t.Rng m) (hl : Labs t) (hm : m ≤ 512) (ha : t.arcs.length ≤ 4096) : FinS t m = (TrimS t m, 0) ∧ validT (TrimS t m) = true := by
  have h1 : (TrimS t m).states ≤ 512 := by
    unfold TrimS
    split
    · have := rk_bound (kpS t) m; simp only []; omega
    · decide
  have h2 : (TrimS t m).arcs.length ≤ 4096 := by
    unfold TrimS
    split
    · refine Nat.le_trans (canon_len _) ?_
      have hB : ∀ x, (arcS t x).length ≤ 1 := fun x => by unfold arcS; split <;> simp
      have := flat_len hB t.arcs
      omega
    · decide
  refine ⟨?_, valid_trim hr hl h1 h2⟩
  rw [FinS, limS, if_neg]
  simp only [Bool.or_eq_true, decide_eq_true_eq]
  omega
theorem fin_e {t u : Tra} {m : Nat} {e : Int} (hr : t.Rng m) (hl : Labs t) (h : (u, e) = FinS t m) (he : e = 0) : u = TrimS t m ∧ validT u = true := by
  subst he
  rw [FinS, limS] at h
  split at h
  · cases h
  · rename_i hc
    simp only [Bool.or_eq_true, decide_eq_true_eq, not_or] at hc
    cases h
    exact ⟨rfl, valid_trim hr hl (by omega) (by omega)⟩
theorem vRune_zero : vRune 0 = true := by decide
theorem valid_labs {t : Tra} (h : validT t = true) : Labs t := valid_lab h
theorem uni_labs {a b : Tra} (ha : Labs a) (hb : Labs b) : Labs (uniT a b) := fun z hz => by
  rcases mem_uniA.1 hz with rfl | rfl | ⟨x, hx, rfl⟩ | ⟨x, hx, rfl⟩
  · exact ⟨vRune_zero, vRune_zero⟩
  · exact ⟨vRune_zero, vRune_zero⟩
  · exact ha x hx
  · exact hb x hx
theorem con_labs {a b : Tra} (ha : Labs a) (hb : Labs b) : Labs (conT a b) := fun z hz => by
  rcases mem_conA.1 hz with ⟨x, hx, rfl⟩ | ⟨x, hx, rfl⟩ | ⟨f, hf, rfl⟩
  · exact ha x hx
  · exact hb x hx
  · exact ⟨vRune_zero, vRune_zero⟩
theorem sta_labs {a : Tra} (ha : Labs a) : Labs (staT a) := fun z hz => by
  rcases mem_staA.1 hz with rfl | ⟨x, hx, rfl⟩ | ⟨f, hf, rfl⟩
  · exact ⟨vRune_zero, vRune_zero⟩
  · exact ha x hx
  · exact ⟨vRune_zero, vRune_zero⟩
theorem rev_labs {a : Tra} (ha : Labs a) : Labs (revT a) := fun z hz => by
  rcases mem_revA.1 hz with ⟨f, hf, rfl⟩ | ⟨x, hx, rfl⟩
  · exact ⟨vRune_zero, vRune_zero⟩
  · exact ha x hx
theorem relab_labs {f : Int → Int → Int × Int} {a : Tra} (hf : ∀ x y, vRune x = true → vRune y = true → vRune (f x y).1 = true ∧ vRune (f x y).2 = true) (ha : Labs a) : Labs (relab f a) := fun z hz => by
  obtain ⟨x, hx, rfl⟩ := List.mem_map.1 hz
  exact hf _ _ (ha x hx).1 (ha x hx).2
theorem dom_labs {a : Tra} (ha : Labs a) : Labs (domT a) := relab_labs (fun x y h _ => ⟨h, h⟩) ha
theorem ran_labs {a : Tra} (ha : Labs a) : Labs (ranT a) := relab_labs (fun x y _ h => ⟨h, h⟩) ha
theorem inv_labs {a : Tra} (ha : Labs a) : Labs (invT a) := by rw [inv_relab]; exact relab_labs (fun x y h k => ⟨k, h⟩) ha
theorem valid_all {t : Tra} (h : validT t = true) : ∃ m : Nat, t.states = m ∧ m ≤ 512 ∧ t.arcs.length ≤ 4096 ∧ t.Rng m ∧ Labs t := by
  obtain ⟨m, ha, hf⟩ := valid_rng h
  exact ⟨m, ha.st, ha.le, ha.alen, ha.rng hf, valid_labs h⟩
theorem valid_fin {a : Tra} (h : validT a = true) : a.finals.length ≤ 512 := by
  obtain ⟨_, _, _, h1⟩ := validT_ok h
  exact h1
/-! related strings -/
theorem relS_iff {t : Tra} {x y : ByteArray} : relS t x y = true ↔ validT t = true ∧ (okT x = true ∧ okT y = true) ∧ Rel t (runesL x) (runesL y) := by
  unfold relS
  rw [Bool.and_eq_true, Bool.and_eq_true, Bool.and_eq_true, relB_iff, and_assoc, and_assoc, and_assoc]
theorem relS_v {t : Tra} (h : validT t = true) {x y : ByteArray} : relS t x y = true ↔ (okT x = true ∧ okT y = true) ∧ Rel t (runesL x) (runesL y) := by
  rw [relS_iff]; exact ⟨fun k => k.2, fun k => ⟨h, k⟩⟩
theorem uni_val {a b : Tra} (ha : validT a = true) (hb : validT b = true) (h1 : a.states + b.states ≤ 511) (h2 : a.arcs.length + b.arcs.length ≤ 4094) : ∃ u, UniS a b = (u, 0) ∧ validT u = true ∧ ∀ xs ys, Rel u xs ys ↔ Rel a xs ys ∨ Rel b xs ys := by
  obtain ⟨m, hm, hm5, hma, ra, la⟩ := valid_all ha
  obtain ⟨n, hn, hn5, hna, rb, lb⟩ := valid_all hb
  have hr := uni_rng ra rb hm hn
  have hlen : (uniT a b).arcs.length = 2 + a.arcs.length + b.arcs.length := by simp [uniT]; omega
  obtain ⟨e, hv⟩ := fin_good hr (uni_labs la lb) (by omega) (by omega)
  exact ⟨_, by rw [uni_ok ha hb hm hn, e], hv, fun xs ys => by rw [rel_trim hr, rel_uni ra rb hm]⟩
theorem unites_law {a b u : Tra} {e : Int} {x y : ByteArray} (ha : validT a = true) (hb : validT b = true) (h1 : a.states + b.states ≤ 511) (h2 : a.arcs.length + b.arcs.length ≤ 4094) (h : (u, e) = UniS a b) : e = 0 ∧ relS u x y = (relS a x y || relS b x y) := by
  obtain ⟨u', e1, hv, hrel⟩ := uni_val ha hb h1 h2
  rw [e1] at h
  cases h
  refine ⟨rfl, ?_⟩
  rw [Bool.eq_iff_iff, Bool.or_eq_true, relS_v hv, relS_v ha, relS_v hb, hrel]
  constructor
  · rintro ⟨k, h | h⟩
    · exact .inl ⟨k, h⟩
    · exact .inr ⟨k, h⟩
  · rintro (⟨k, h⟩ | ⟨k, h⟩)
    · exact ⟨k, .inl h⟩
    · exact ⟨k, .inr h⟩
/-! cutting strings -/
theorem ok_cut {x : ByteArray} {l1 l2 : List Int} (h : okT x = true) (e : runesL x = l1 ++ l2) : ∃ i, i ≤ x.size ∧ x.extract 0 i = strL l1 ∧ x.extract i x.size = strL l2 ∧ Good l1 ∧ Good l2 := by
  obtain ⟨h1, h2⟩ := okT_good' h
  rw [e] at h1 h2
  obtain ⟨g1, g2⟩ := good_app.1 h1
  rw [strL_app] at h2
  refine ⟨(strL l1).size, by rw [← h2, app_size]; omega, ?_, ?_, g1, g2⟩
  · rw [← h2, ext_left]
  · rw [← h2, ext_right]
theorem ok_join {x : ByteArray} {i : Nat} (hi : i ≤ x.size) (h1 : okT (x.extract 0 i) = true) (h2 : okT (x.extract i x.size) = true) : okT x = true ∧ runesL x = runesL (x.extract 0 i) ++ runesL (x.extract i x.size) := by
  obtain ⟨g1, e1⟩ := okT_good' h1
  obtain ⟨g2, e2⟩ := okT_good' h2
  have e : x = strL (runesL (x.extract 0 i) ++ runesL (x.extract i x.size)) := by
    rw [strL_app, e1, e2, ext_join x (Nat.zero_le _) hi, ext_all]
  have hg := good_app.2 ⟨g1, g2⟩
  refine ⟨by rw [e]; exact okT_str hg, ?_⟩
  have := runes_str hg.v
  rw [← e] at this
  exact this
/-! concatenations -/
noncomputable def conAt (a b : Tra) (x y : ByteArray) (i k : Nat) : Bool := relS a (x.extract 0 i) (y.extract 0 k) && relS b (x.extract i x.size) (y.extract k y.size)
noncomputable def conRow (a b : Tra) (x y : ByteArray) (i : Nat) (k : Nat) : Bool := (List.range k).any fun k => conAt a b x y i k
noncomputable def conB (a b : Tra) (x y : ByteArray) (i : Nat) : Bool := (List.range i).any fun i => conRow a b x y i (y.size + 1)
theorem con_val {a b : Tra} (ha : validT a = true) (hb : validT b = true) (h1 : a.states + b.states ≤ 512) (h2 : a.arcs.length + b.arcs.length + a.finals.length ≤ 4096) : ∃ u, ConS a b = (u, 0) ∧ validT u = true ∧ ∀ xs ys, Rel u xs ys ↔ ∃ x1 x2 y1 y2, xs = x1 ++ x2 ∧ ys = y1 ++ y2 ∧ Rel a x1 y1 ∧ Rel b x2 y2 := by
  obtain ⟨m, hm, hm5, hma, ra, la⟩ := valid_all ha
  obtain ⟨n, hn, hn5, hna, rb, lb⟩ := valid_all hb
  have hr := con_rng ra rb hm hn
  have hlen : (conT a b).arcs.length = a.arcs.length + b.arcs.length + a.finals.length := by simp [conT]; omega
  obtain ⟨e, hv⟩ := fin_good hr (con_labs la lb) (by omega) (by omega)
  exact ⟨_, by rw [con_ok ha hb hm hn, e], hv, fun xs ys => by rw [rel_trim hr, rel_con ra rb hm]⟩
theorem concats_law {a b u : Tra} {e : Int} {x y : ByteArray} (ha : validT a = true) (hb : validT b = true) (h1 : a.states + b.states ≤ 512) (h2 : a.arcs.length + b.arcs.length + a.finals.length ≤ 4096) (h : (u, e) = ConS a b) : e = 0 ∧ relS u x y = conB a b x y (x.size + 1) := by
  obtain ⟨u', e1, hv, hrel⟩ := con_val ha hb h1 h2
  rw [e1] at h
  cases h
  refine ⟨rfl, ?_⟩
  rw [Bool.eq_iff_iff, relS_v hv, hrel]
  simp only [conB, conRow, List.any_eq_true, List.mem_range, conAt, Bool.and_eq_true]
  constructor
  · rintro ⟨⟨hx, hy⟩, x1, x2, y1, y2, ex, ey, r1, r2⟩
    obtain ⟨i, hi, i1, i2, g1, g2⟩ := ok_cut hx ex
    obtain ⟨k, hk, k1, k2, g3, g4⟩ := ok_cut hy ey
    refine ⟨i, by omega, k, by omega, (relS_v ha).2 ?_, (relS_v hb).2 ?_⟩
    · rw [i1, k1, runes_str g1.v, runes_str g3.v]; exact ⟨⟨okT_str g1, okT_str g3⟩, r1⟩
    · rw [i2, k2, runes_str g2.v, runes_str g4.v]; exact ⟨⟨okT_str g2, okT_str g4⟩, r2⟩
  · rintro ⟨i, hi, k, hk, h1, h2⟩
    obtain ⟨⟨x1, y1⟩, r1⟩ := (relS_v ha).1 h1
    obtain ⟨⟨x2, y2⟩, r2⟩ := (relS_v hb).1 h2
    obtain ⟨hx, ex⟩ := ok_join (by omega) x1 x2
    obtain ⟨hy, ey⟩ := ok_join (by omega) y1 y2
    exact ⟨⟨hx, hy⟩, _, _, _, _, ex, ey, r1, r2⟩
/-! reversals -/
def revS (s : ByteArray) : ByteArray := strL (runesL s).reverse
theorem good_rev {l : List Int} : Good l.reverse ↔ Good l := ⟨fun h r hr => h r (List.mem_reverse.2 hr), fun h r hr => h r (List.mem_reverse.1 hr)⟩
theorem okT_rev {s : ByteArray} : okT (revS s) = true ↔ (0 : Int) ∉ runesL s := by
  have hv : ∀ r ∈ (runesL s).reverse, vRune r = true := fun r hr => runes_vr s r (List.mem_reverse.1 hr)
  rw [revS, okT, runes_str hv]
  simp
theorem runes_rev {s : ByteArray} : runesL (revS s) = (runesL s).reverse := runes_str fun r hr => runes_vr s r (List.mem_reverse.1 hr)
theorem okT_val {s : ByteArray} (h : strL (runesL s) = s) : okT s = true ↔ (0 : Int) ∉ runesL s := by
  rw [okT, decide_eq_true h]; simp
theorem rev_val {a : Tra} (ha : validT a = true) (h1 : a.states ≤ 511) (h2 : a.arcs.length + a.finals.length ≤ 4096) : ∃ u, RevS a = (u, 0) ∧ validT u = true ∧ ∀ xs ys, Rel u xs ys ↔ Rel a xs.reverse ys.reverse := by
  obtain ⟨m, hm, hm5, hma, ra, la⟩ := valid_all ha
  have hr := rev_rng ra hm
  have hlen : (revT a).arcs.length = a.finals.length + a.arcs.length := by simp [revT]
  obtain ⟨e, hv⟩ := fin_good hr (rev_labs la) (by omega) (by omega)
  exact ⟨_, by rw [rev_ok ha hm, e], hv, fun xs ys => by rw [rel_trim hr, rel_rev ra]⟩
theorem inverts4_law {a i r : Tra} {e f : Int} {x y : ByteArray} (ha : validT a = true) (h1 : a.states ≤ 511) (h2 : a.arcs.length + a.finals.length ≤ 4096) (hx : strL (runesL x) = x) (hy : strL (runesL y) = y) (hi : (i, e) = InvS a) (hr : (r, f) = RevS a) :
    (e = 0 ∧ f = 0) ∧ relS i y x = relS a x y ∧ relS r (revS x) (revS y) = relS a x y := by
  obtain ⟨i', e1, hv1, hrel1⟩ := inv_val ha
  obtain ⟨r', e2, hv2, hrel2⟩ := rev_val ha h1 h2
  rw [e1] at hi
  rw [e2] at hr
  cases hi
  cases hr
  refine ⟨⟨rfl, rfl⟩, ?_, ?_⟩
  · rw [Bool.eq_iff_iff, relS_v hv1, relS_v ha, hrel1]
    exact and_congr and_comm Iff.rfl
  · rw [Bool.eq_iff_iff, relS_v hv2, relS_v ha, hrel2, okT_rev, okT_rev, okT_val hx, okT_val hy, runes_rev, runes_rev, List.reverse_reverse, List.reverse_reverse]
/-! projections -/
theorem dom_val {a : Tra} (ha : validT a = true) : ∃ u, DomS a = (u, 0) ∧ validT u = true ∧ ∀ xs ys, Rel u xs ys ↔ xs = ys ∧ ∃ zs, Rel a xs zs := by
  obtain ⟨m, hm, hm5, hma, ra, la⟩ := valid_all ha
  obtain ⟨e, hv⟩ := fin_good (relab_rng ra) (dom_labs la) hm5 (by simp only [relab, List.length_map]; exact hma)
  exact ⟨_, by rw [dom_ok ha hm]; exact e, hv, fun xs ys => by rw [rel_trim (relab_rng ra)]; exact rel_dom⟩
theorem ran_val {a : Tra} (ha : validT a = true) : ∃ u, RanS a = (u, 0) ∧ validT u = true ∧ ∀ xs ys, Rel u xs ys ↔ xs = ys ∧ ∃ zs, Rel a zs xs := by
  obtain ⟨m, hm, hm5, hma, ra, la⟩ := valid_all ha
  obtain ⟨e, hv⟩ := fin_good (relab_rng ra) (ran_labs la) hm5 (by simp only [relab, List.length_map]; exact hma)
  exact ⟨_, by rw [ran_ok ha hm]; exact e, hv, fun xs ys => by rw [rel_trim (relab_rng ra)]; exact rel_ran⟩
theorem empty_rel {t : Tra} (h : validT t = true) : emptyS t = false ↔ ∃ xs ys, Rel t xs ys := by
  unfold emptyS
  rw [h, ← dn_rel]
  cases dnB t <;> simp
theorem empty_eq {t u : Tra} (ht : validT t = true) (hu : validT u = true) (h : (∃ xs ys, Rel t xs ys) ↔ ∃ xs ys, Rel u xs ys) : emptyS t = emptyS u := by
  rw [← empty_rel ht, ← empty_rel hu] at h
  cases h1 : emptyS t <;> cases h2 : emptyS u <;> simp_all
theorem str_runes_inj {x y : ByteArray} (hx : okT x = true) (hy : okT y = true) (h : runesL x = runesL y) : x = y := by
  rw [← (okT_good' hx).2, ← (okT_good' hy).2, h]
theorem projects_law {a d r : Tra} {e f : Int} {x y : ByteArray} (ha : validT a = true) (hd : (d, e) = DomS a) (hr : (r, f) = RanS a) :
    (e = 0 ∧ f = 0) ∧ (x ≠ y → relS d x y = false ∧ relS r x y = false) ∧ (relS a x y = true → relS d x x = true ∧ relS r y y = true) ∧ emptyS a = emptyS d ∧ emptyS a = emptyS r := by
  obtain ⟨d', e1, hv1, hrel1⟩ := dom_val ha
  obtain ⟨r', e2, hv2, hrel2⟩ := ran_val ha
  rw [e1] at hd
  rw [e2] at hr
  cases hd
  cases hr
  refine ⟨⟨rfl, rfl⟩, fun hne => ?_, fun hR => ?_, empty_eq ha hv1 ?_, empty_eq ha hv2 ?_⟩
  · constructor
    · rw [Bool.eq_false_iff]; intro h
      obtain ⟨⟨h1, h2⟩, h3⟩ := (relS_v hv1).1 h
      exact hne (str_runes_inj h1 h2 ((hrel1 _ _).1 h3).1)
    · rw [Bool.eq_false_iff]; intro h
      obtain ⟨⟨h1, h2⟩, h3⟩ := (relS_v hv2).1 h
      exact hne (str_runes_inj h1 h2 ((hrel2 _ _).1 h3).1)
  · obtain ⟨⟨h1, h2⟩, h3⟩ := (relS_v ha).1 hR
    exact ⟨(relS_v hv1).2 ⟨⟨h1, h1⟩, (hrel1 _ _).2 ⟨rfl, _, h3⟩⟩, (relS_v hv2).2 ⟨⟨h2, h2⟩, (hrel2 _ _).2 ⟨rfl, _, h3⟩⟩⟩
  · constructor
    · rintro ⟨xs, ys, h⟩; exact ⟨xs, xs, (hrel1 _ _).2 ⟨rfl, ys, h⟩⟩
    · rintro ⟨xs, ys, h⟩; obtain ⟨_, zs, h1⟩ := (hrel1 _ _).1 h; exact ⟨xs, zs, h1⟩
  · constructor
    · rintro ⟨xs, ys, h⟩; exact ⟨ys, ys, (hrel2 _ _).2 ⟨rfl, xs, h⟩⟩
    · rintro ⟨xs, ys, h⟩; obtain ⟨_, zs, h1⟩ := (hrel2 _ _).1 h; exact ⟨zs, xs, h1⟩
end Go.Proofs.YtoilmeiikgegcaaDoor.G
