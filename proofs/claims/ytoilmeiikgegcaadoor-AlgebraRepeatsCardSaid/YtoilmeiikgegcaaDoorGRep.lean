/- Repetitions over strings: the table of places. Plain Lean. -/
import Derived.Test.YtoilmeiikgegcaaDoorGAsl
set_option linter.all false
namespace Go.Proofs.YtoilmeiikgegcaaDoor.G
open Go Go.RowKit
theorem StarR.snoc {R : List Int → List Int → Prop} {us vs xs ys : List Int} (h : StarR R us vs) (k : R xs ys) : StarR R (us ++ xs) (vs ++ ys) := by
  induction h with
  | nil => have := StarR.cons k StarR.nil; simpa using this
  | cons h1 _ ih => rw [List.append_assoc, List.append_assoc]; exact .cons h1 ih
theorem okT_app {u v : ByteArray} (hu : okT u = true) (hv : okT v = true) : okT (u ++ v) = true ∧ runesL (u ++ v) = runesL u ++ runesL v := by
  obtain ⟨g1, e1⟩ := okT_good' hu
  obtain ⟨g2, e2⟩ := okT_good' hv
  have e : u ++ v = strL (runesL u ++ runesL v) := by rw [strL_app, e1, e2]
  have hg := good_app.2 ⟨g1, g2⟩
  rw [e]
  exact ⟨okT_str hg, runes_str hg.v⟩
theorem ext_nil (s : ByteArray) (i : Nat) : s.extract i i = ⟨#[]⟩ := by
  refine ba_ext ?_
  rw [ext_list]
  simp
theorem okT_nil : okT ⟨#[]⟩ = true := by decide +kernel
theorem runes_nil : runesL ⟨#[]⟩ = [] := by decide +kernel
theorem ext_split {x u v : ByteArray} {p : Nat} (hp : p ≤ x.size) (h : x.extract p x.size = u ++ v) : p + u.size ≤ x.size ∧ x.extract p (p + u.size) = u ∧ x.extract (p + u.size) x.size = v := by
  have h1 : x.data.toList.drop p = u.data.toList ++ v.data.toList := by
    rw [← app_list, ← h, ext_list, List.take_of_length_le (by simp)]
  have hu : u.size = u.data.toList.length := by simp
  have hx : x.size = x.data.toList.length := by simp
  have hl := congrArg List.length h1
  rw [List.length_drop, List.length_append] at hl
  refine ⟨by omega, ba_ext ?_, ba_ext ?_⟩
  · rw [ext_list, List.drop_take, h1, show p + u.size - p = u.size by omega, hu, List.take_left']
    rfl
  · rw [ext_list, List.take_of_length_le (by omega), ← List.drop_drop, h1, hu, List.drop_left']
    rfl
/-- The places that related pieces lead to. -/
inductive Rch (a : Tra) (x y : ByteArray) : Nat → Nat → Prop
  | zero : Rch a x y 0 0
  | step {p q i k : Nat} : Rch a x y p q → p ≤ i → q ≤ k → i ≤ x.size → k ≤ y.size → (p < i ∨ q < k) → relS a (x.extract p i) (y.extract q k) = true → Rch a x y i k
theorem Rch.le {a : Tra} {x y : ByteArray} {i k : Nat} (h : Rch a x y i k) : i ≤ x.size ∧ k ≤ y.size := by
  cases h with
  | zero => exact ⟨Nat.zero_le _, Nat.zero_le _⟩
  | step _ _ _ h1 h2 => exact ⟨h1, h2⟩
theorem rch_star {a : Tra} (ha : validT a = true) {x y : ByteArray} {i k : Nat} (h : Rch a x y i k) : (okT (x.extract 0 i) = true ∧ okT (y.extract 0 k) = true) ∧ StarR (Rel a) (runesL (x.extract 0 i)) (runesL (y.extract 0 k)) := by
  induction h with
  | zero => rw [ext_nil, ext_nil, runes_nil]; exact ⟨⟨okT_nil, okT_nil⟩, .nil⟩
  | @step p q i k _ h1 h2 _ _ _ hr ih =>
    obtain ⟨⟨o1, o2⟩, s⟩ := ih
    obtain ⟨⟨o3, o4⟩, r⟩ := (relS_v ha).1 hr
    rw [← ext_join x (Nat.zero_le p) h1, ← ext_join y (Nat.zero_le q) h2]
    obtain ⟨a1, a2⟩ := okT_app o1 o3
    obtain ⟨b1, b2⟩ := okT_app o2 o4
    rw [a2, b2]
    exact ⟨⟨a1, b1⟩, s.snoc r⟩
theorem star_rch {a : Tra} (ha : validT a = true) {x y : ByteArray} {us vs : List Int} (h : StarR (Rel a) us vs) : ∀ {p q : Nat}, p ≤ x.size → q ≤ y.size → x.extract p x.size = strL us → y.extract q y.size = strL vs → Good us → Good vs → Rch a x y p q → Rch a x y x.size y.size := by
  have key : ∀ {s : ByteArray} {p : Nat}, p ≤ s.size → s.extract p s.size = strL [] → p = s.size := fun {s p} hp h => by
    have := congrArg (fun t => t.data.toList.length) h
    simp only [ext_list] at this
    rw [List.take_of_length_le (by simp), List.length_drop, strL_D] at this
    have hs : s.size = s.data.toList.length := by simp
    simp only [strD, List.flatMap_nil, List.length_nil] at this
    omega
  induction h with
  | nil =>
    intro p q hp hq h1 h2 _ _ hr
    have e1 := key hp h1
    have e2 := key hq h2
    subst e1 e2
    exact hr
  | @cons x1 y1 x2 y2 hR _ ih =>
    intro p q hp hq h1 h2 g1 g2 hr
    obtain ⟨gx1, gx2⟩ := good_app.1 g1
    obtain ⟨gy1, gy2⟩ := good_app.1 g2
    rw [strL_app] at h1 h2
    obtain ⟨l1, u1, u2⟩ := ext_split hp h1
    obtain ⟨l2, v1, v2⟩ := ext_split hq h2
    refine ih l1 l2 u2 v2 gx2 gy2 ?_
    by_cases hc : p < p + (strL x1).size ∨ q < q + (strL y1).size
    · refine .step hr (by omega) (by omega) l1 l2 hc ((relS_v ha).2 ?_)
      rw [u1, v1, runes_str gx1.v, runes_str gy1.v]
      exact ⟨⟨okT_str gx1, okT_str gy1⟩, hR⟩
    · have e1 : p + (strL x1).size = p := by omega
      have e2 : q + (strL y1).size = q := by omega
      rw [e1, e2]; exact hr
theorem sta_val {a : Tra} (ha : validT a = true) (h1 : a.states ≤ 511) (h2 : a.arcs.length + a.finals.length ≤ 4095) : ∃ u, StaS a = (u, 0) ∧ validT u = true ∧ ∀ xs ys, Rel u xs ys ↔ StarR (Rel a) xs ys := by
  obtain ⟨m, hm, hm5, hma, ra, la⟩ := valid_all ha
  have hr := sta_rng ra hm
  have hlen : (staT a).arcs.length = 1 + a.arcs.length + a.finals.length := by simp [staT]; omega
  obtain ⟨e, hv⟩ := fin_good hr (sta_labs la) (by omega) (by omega)
  exact ⟨_, by rw [sta_ok ha hm, e], hv, fun xs ys => by rw [rel_trim hr, rel_sta ra]⟩
open Classical in
noncomputable def rchB (a : Tra) (x y : ByteArray) (i k : Nat) : Bool := decide (Rch a x y i k)
theorem repeats_law {a u : Tra} {e : Int} {x y : ByteArray} (ha : validT a = true) (h1 : a.states ≤ 511) (h2 : a.arcs.length + a.finals.length ≤ 4095) (h : (u, e) = StaS a) : e = 0 ∧ relS u x y = rchB a x y x.size y.size := by
  obtain ⟨u', e1, hv, hrel⟩ := sta_val ha h1 h2
  rw [e1] at h
  cases h
  refine ⟨rfl, ?_⟩
  rw [Bool.eq_iff_iff, relS_v hv, hrel]
  simp only [rchB, decide_eq_true_eq]
  constructor
  · rintro ⟨⟨hx, hy⟩, hs⟩
    obtain ⟨gx, ex⟩ := okT_good' hx
    obtain ⟨gy, ey⟩ := okT_good' hy
    exact star_rch ha hs (Nat.zero_le _) (Nat.zero_le _) (by rw [ext_all, ex]) (by rw [ext_all, ey]) gx gy .zero
  · intro hr
    have := rch_star ha hr
    rw [ext_all, ext_all] at this
    exact this
/-! the table -/
theorem rch_iff {a : Tra} {x y : ByteArray} {i k : Nat} (hi : i ≤ x.size) (hk : k ≤ y.size) : Rch a x y i k ↔ (i = 0 ∧ k = 0) ∨ ∃ p q : Nat, (p ≤ i ∧ q ≤ k) ∧ (p < i ∨ q < k) ∧ Rch a x y p q ∧ relS a (x.extract p i) (y.extract q k) = true := by
  constructor
  · intro h
    cases h with
    | zero => exact .inl ⟨rfl, rfl⟩
    | step h h1 h2 _ _ h3 h4 => exact .inr ⟨_, _, ⟨h1, h2⟩, h3, h, h4⟩
  · rintro (⟨rfl, rfl⟩ | ⟨p, q, ⟨h1, h2⟩, h3, h, h4⟩)
    · exact .zero
    · exact .step h h1 h2 hi hk h3 h4
/-- What stands in the table while place (i, k) is worked on; C tells what its entry means. -/
structure Tab (a : Tra) (x y : ByteArray) (bs : List Bool) (i k : Nat) (C : Prop) : Prop where
  len : bs.length = 49
  old : ∀ i' k', i' ≤ x.size → k' ≤ y.size → (i' < i ∨ (i' = i ∧ k' < k)) → (bs[i' * 7 + k']? = some true ↔ Rch a x y i' k')
  cur : bs[i * 7 + k]? = some true ↔ C
  new : ∀ i' k', i' ≤ x.size → k' ≤ y.size → (i < i' ∨ (i' = i ∧ k < k')) → bs[i' * 7 + k']? = some false
section
variable {a : Tra} {x y : ByteArray} {bs : List Bool} {i k : Nat} {C : Prop}
/-- The part of the places (p, q) that have been looked at. -/
def Seen (a : Tra) (x y : ByteArray) (i k p q : Nat) : Prop := (i = 0 ∧ k = 0) ∨ ∃ p' q' : Nat, (p' < p ∨ (p' = p ∧ q' < q)) ∧ (p' ≤ i ∧ q' ≤ k) ∧ (p' < i ∨ q' < k) ∧ Rch a x y p' q' ∧ relS a (x.extract p' i) (y.extract q' k) = true
theorem Tab.init (hx : x.size ≤ 6) (hy : y.size ≤ 6) : Tab a x y ((List.replicate 49 false).set 0 true) 0 0 (Seen a x y 0 0 0 0) := by
  refine ⟨by simp, fun i' k' _ _ h => by omega, ⟨fun _ => .inl ⟨rfl, rfl⟩, fun _ => rfl⟩, fun i' k' h1 h2 h => ?_⟩
  rw [List.getElem?_set, if_neg (by omega), List.getElem?_replicate, if_pos (by omega)]
theorem Tab.congr {C' : Prop} (h : Tab a x y bs i k C) (e : C ↔ C') : Tab a x y bs i k C' := ⟨h.len, h.old, h.cur.trans e, h.new⟩
theorem Tab.at_ (h : Tab a x y bs i k C) {p q : Nat} (hp : p ≤ x.size) (hq : q ≤ y.size) (hx : x.size ≤ 6) (hy : y.size ≤ 6) : ∃ b, bs[p * 7 + q]? = some b := by
  have := h.len
  exact ⟨_, List.getElem?_eq_getElem (by omega)⟩
/-- The next place of a row. -/
theorem Tab.next (hx : x.size ≤ 6) (hy : y.size ≤ 6) (hi : i ≤ x.size) (hk : k + 1 ≤ y.size) (h : Tab a x y bs i k (Rch a x y i k)) : Tab a x y bs i (k + 1) (Seen a x y i (k + 1) 0 0) := by
  refine ⟨h.len, fun i' k' h1 h2 h3 => ?_, ?_, fun i' k' h1 h2 h3 => h.new i' k' h1 h2 (by omega)⟩
  · by_cases e : i' = i ∧ k' = k
    · rw [e.1, e.2]; exact h.cur
    · exact h.old i' k' h1 h2 (by omega)
  · have := h.new i (k + 1) hi hk (.inr ⟨rfl, by omega⟩)
    rw [this]
    constructor
    · intro h; cases h
    · rintro (⟨_, h⟩ | ⟨p', q', h, _⟩) <;> omega
theorem Tab.row (hx : x.size ≤ 6) (hy : y.size ≤ 6) (hi : i + 1 ≤ x.size) (h : Tab a x y bs i y.size (Rch a x y i y.size)) : Tab a x y bs (i + 1) 0 (Seen a x y (i + 1) 0 0 0) := by
  refine ⟨h.len, fun i' k' h1 h2 h3 => ?_, ?_, fun i' k' h1 h2 h3 => h.new i' k' h1 h2 (by omega)⟩
  · by_cases e : i' = i ∧ k' = y.size
    · rw [e.1, e.2]; exact h.cur
    · exact h.old i' k' h1 h2 (by omega)
  · have := h.new (i + 1) 0 hi (Nat.zero_le _) (.inl (by omega))
    rw [this]
    constructor
    · intro h; cases h
    · rintro (⟨h, _⟩ | ⟨p', q', h, _⟩) <;> omega
theorem Seen.full (hi : i ≤ x.size) (hk : k ≤ y.size) : Seen a x y i k (i + 1) 0 ↔ Rch a x y i k := by
  rw [rch_iff hi hk]
  refine or_congr Iff.rfl (exists_congr fun p => exists_congr fun q => ⟨fun h => ⟨h.2.1, h.2.2⟩, fun h => ⟨by omega, h⟩⟩)
theorem Seen.row {p : Nat} : Seen a x y i k p (k + 1) ↔ Seen a x y i k (p + 1) 0 := by
  refine or_congr Iff.rfl (exists_congr fun p' => exists_congr fun q' => ⟨fun h => ⟨by omega, h.2⟩, fun h => ⟨by omega, h.2⟩⟩)
theorem Seen.step {p q : Nat} (hp : p ≤ i) (hq : q ≤ k) : Seen a x y i k p (q + 1) ↔ Seen a x y i k p q ∨ ((p < i ∨ q < k) ∧ Rch a x y p q ∧ relS a (x.extract p i) (y.extract q k) = true) := by
  constructor
  · rintro (h | ⟨p', q', h, h2, h3⟩)
    · exact .inl (.inl h)
    · by_cases e : p' = p ∧ q' = q
      · rw [e.1, e.2] at h3; exact .inr h3
      · exact .inl (.inr ⟨p', q', by omega, h2, h3⟩)
  · rintro ((h | ⟨p', q', h, h2⟩) | h)
    · exact .inl h
    · exact .inr ⟨p', q', by omega, h2⟩
    · exact .inr ⟨p, q, by omega, ⟨hp, hq⟩, h⟩
/-- The entry is marked. -/
theorem Tab.mark (hx : x.size ≤ 6) (hy : y.size ≤ 6) (hi : i ≤ x.size) (hk : k ≤ y.size) {C' : Prop} (hc : C') (h : Tab a x y bs i k C) : Tab a x y (bs.set (i * 7 + k) true) i k C' := by
  have hl := h.len
  refine ⟨by simp [hl], fun i' k' h1 h2 h3 => ?_, ?_, fun i' k' h1 h2 h3 => ?_⟩
  · rw [List.getElem?_set, if_neg (by omega)]; exact h.old i' k' h1 h2 h3
  · rw [List.getElem?_set, if_pos rfl, if_pos (by omega)]; exact ⟨fun _ => hc, fun _ => rfl⟩
  · rw [List.getElem?_set, if_neg (by omega)]; exact h.new i' k' h1 h2 h3
/-- What is read at an earlier place. -/
theorem Tab.read (h : Tab a x y bs i k C) {p q : Nat} (hi : i ≤ x.size) (hk : k ≤ y.size) (hp : p ≤ i) (hq : q ≤ k) (hlt : p < i ∨ q < k) {b : Bool} (hb : bs[p * 7 + q]? = some b) : b = true ↔ Rch a x y p q := by
  rw [← h.old p q (by omega) (by omega) (by omega), hb]
  simp
end
end Go.Proofs.YtoilmeiikgegcaaDoor.G
