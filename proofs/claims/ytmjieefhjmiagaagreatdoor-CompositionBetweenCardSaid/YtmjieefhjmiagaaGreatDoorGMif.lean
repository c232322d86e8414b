/- The laws on Middle. Plain Lean. -/
import Derived.Test.YtmjieefhjmiagaaGreatDoorGMid
import Derived.Test.YtmjieefhjmiagaaGreatDoorGAlp
import Derived.Test.YtmjieefhjmiagaaGreatDoorGRls
set_option linter.all false
namespace Go.Proofs.YtmjieefhjmiagaaGreatDoor.G
open Go Go.RowKit
noncomputable def midB (a b : Tra) (xs zs ys : List Int) : Bool := relB a xs ys && relB b ys zs
theorem midB_iff {a b : Tra} {xs zs ys : List Int} : midB a b xs zs ys = true ↔ Rel a xs ys ∧ Rel b ys zs := by rw [midB, Bool.and_eq_true, relB_iff, relB_iff]
noncomputable def wrdM (a b : Tra) (xs zs l : List Int) (n : Nat) : List (List Int) := (List.range n).flatMap fun k => (strs l k).filter (midB a b xs zs)
theorem wrdM_succ {a b : Tra} {xs zs l : List Int} {n : Nat} : wrdM a b xs zs l (n + 1) = wrdM a b xs zs l n ++ (strs l n).filter (midB a b xs zs) := by
  rw [wrdM, List.range_succ, List.flatMap_append]; simp [wrdM]
theorem wrdM_wds {a b : Tra} {m n' : Nat} (ha : a.Ok m) (hb : b.Ok n') {xs zs l : List Int} (hl : IsAlph a true l) (n : Nat) : Wds (bnet a b xs zs) ⟨a.start, 0, b.start, 0⟩ n (wrdM a b xs zs l (n + 1)) := by
  refine ⟨?_, fun w => ?_⟩
  · rw [wrdM, List.pairwise_flatMap]
    refine ⟨fun k _ => ((strs_sorted hl.1 k).filter _).imp_of_mem fun {u v} hu hv huv => ?_, ?_⟩
    · have h1 := (mem_strs.1 (List.mem_filter.1 hu).1).1
      have h2 := (mem_strs.1 (List.mem_filter.1 hv).1).1
      exact .inr ⟨by omega, huv⟩
    · refine (List.pairwise_lt_range (n := n + 1)).imp_of_mem fun {u v} _ _ huv x hx y hy => .inl ?_
      have h1 := (mem_strs.1 (List.mem_filter.1 hx).1).1
      have h2 := (mem_strs.1 (List.mem_filter.1 hy).1).1
      omega
  · rw [acc_mid ha hb, wrdM, List.mem_flatMap]
    constructor
    · rintro ⟨k, hk, hw⟩
      obtain ⟨h1, h2⟩ := List.mem_filter.1 hw
      exact ⟨by have := (mem_strs.1 h1).1; have := List.mem_range.1 hk; omega, midB_iff.1 h2⟩
    · rintro ⟨h1, h2⟩
      refine ⟨w.length, List.mem_range.2 (by omega), List.mem_filter.2 ⟨mem_strs.2 ⟨rfl, fun r hr => ?_⟩, midB_iff.2 h2⟩⟩
      obtain ⟨f, _, hr2⟩ := h2.1
      obtain ⟨h0, x, hx, e⟩ := (run_out hr2).2 r hr
      exact (hl.2 r).2 ⟨h0, x, hx, e⟩
section
variable {a b : Tra} {x y z : ByteArray} {nI e e' : Int} {o o' : List ByteArray}
theorem mid_ok2 (h0 : btwE a b x z = 0) : ∃ m n, a.Ok m ∧ b.Ok n ∧ validT a = true ∧ validT b = true ∧ okT x = true ∧ okT z = true := by
  obtain ⟨⟨hva, hvb⟩, hc⟩ := btw_ok h0
  obtain ⟨m, ha, _⟩ := valid_rng hva
  obtain ⟨n, hb, _⟩ := valid_rng hvb
  unfold chkS at hc
  split at hc
  · rename_i h1
    simp only [List.all_cons, List.all_nil, Bool.and_true, Bool.and_eq_true] at h1
    exact ⟨m, n, ha, hb, hva, hvb, by rw [okT_S]; exact h1.1, by rw [okT_S]; exact h1.2⟩
  · cases hc
theorem mid_law (h : MidOut a b x z nI o e) (k : MidOut a b x z nI o' e') : o = o' ∧ e = e' := by
  by_cases hn : nI < 0 ∨ 40 < nI
  · obtain ⟨rfl, rfl⟩ := h.1 hn; obtain ⟨rfl, rfl⟩ := k.1 hn; exact ⟨rfl, rfl⟩
  · by_cases h0 : btwE a b x z = 0
    · obtain ⟨m, n, ha, hb, _⟩ := mid_ok2 h0
      have hW := wrdM_wds ha hb (alphL_is a true) nI.toNat (xs := runesL x) (zs := runesL z)
      obtain ⟨h1, h2⟩ := (h.2 hn).2 h0 _ hW
      obtain ⟨k1, k2⟩ := (k.2 hn).2 h0 _ hW
      by_cases hc : (wrdM a b (runesL x) (runesL z) (alphL a true) (nI.toNat + 1)).length ≤ 256
      · obtain ⟨rfl, rfl⟩ := h1 hc; obtain ⟨rfl, rfl⟩ := k1 hc; exact ⟨rfl, rfl⟩
      · obtain ⟨rfl, rfl⟩ := h2 (by omega); obtain ⟨rfl, rfl⟩ := k2 (by omega); exact ⟨rfl, rfl⟩
    · obtain ⟨rfl, rfl⟩ := (h.2 hn).1 h0; obtain ⟨rfl, rfl⟩ := (k.2 hn).1 h0; exact ⟨rfl, rfl⟩
/-- The reference's answers. -/
theorem midR_bad (h : ((decide (btwE a b x z = 1) || decide (nI < 0)) || decide (40 < nI)) = true) : MidOut a b x z nI [] 1 := by
  simp only [Bool.or_eq_true, decide_eq_true_eq] at h
  refine ⟨fun _ => ⟨rfl, rfl⟩, fun hn => ⟨fun _ => ⟨rfl, ?_⟩, fun h0 => ?_⟩⟩
  · rcases h with (h | h) | h
    · exact h.symm
    · exact absurd (.inl h) hn
    · exact absurd (.inr h) hn
  · rcases h with (h | h) | h
    · rw [h0] at h; cases h
    · exact absurd (.inl h) hn
    · exact absurd (.inr h) hn
theorem midR_err (h : ((decide (btwE a b x z = 1) || decide (nI < 0)) || decide (40 < nI)) = false) (he : btwE a b x z ≠ 0) : MidOut a b x z nI [] (btwE a b x z) := by
  simp only [Bool.or_eq_false_iff, decide_eq_false_iff_not] at h
  exact ⟨fun k => absurd k (by omega), fun _ => ⟨fun _ => ⟨rfl, rfl⟩, fun k => absurd k he⟩⟩
theorem midR_big (h : ((decide (btwE a b x z = 1) || decide (nI < 0)) || decide (40 < nI)) = false) (h0 : btwE a b x z = 0) (hl : 256 < (wrdM a b (runesL x) (runesL z) (alphL a true) (nI.toNat + 1)).length) : MidOut a b x z nI [] 2 := by
  simp only [Bool.or_eq_false_iff, decide_eq_false_iff_not] at h
  obtain ⟨m, n, ha, hb, _⟩ := mid_ok2 h0
  refine ⟨fun k => absurd k (by omega), fun _ => ⟨fun k => absurd h0 k, fun _ W hW => ?_⟩⟩
  have e := hW.uniq (wrdM_wds ha hb (alphL_is a true) nI.toNat)
  rw [e]
  exact ⟨fun k => absurd hl (by omega), fun _ => ⟨rfl, rfl⟩⟩
theorem midR_ok (h : ((decide (btwE a b x z = 1) || decide (nI < 0)) || decide (40 < nI)) = false) (h0 : btwE a b x z = 0) (hl : ¬ 256 < (wrdM a b (runesL x) (runesL z) (alphL a true) (nI.toNat + 1)).length) : MidOut a b x z nI ((wrdM a b (runesL x) (runesL z) (alphL a true) (nI.toNat + 1)).map strL) 0 := by
  simp only [Bool.or_eq_false_iff, decide_eq_false_iff_not] at h
  obtain ⟨m, n, ha, hb, _⟩ := mid_ok2 h0
  refine ⟨fun k => absurd k (by omega), fun _ => ⟨fun k => absurd h0 k, fun _ W hW => ?_⟩⟩
  have e := hW.uniq (wrdM_wds ha hb (alphL_is a true) nI.toNat)
  rw [e]
  exact ⟨fun _ => ⟨rfl, rfl⟩, fun k => absurd k hl⟩
/-! Given -/
theorem relS_parts (h : relS a x y = true) : validT a = true ∧ okT x = true ∧ okT y = true ∧ Rel a (runesL x) (runesL y) := by
  unfold relS at h
  simp only [Bool.and_eq_true] at h
  exact ⟨h.1.1.1, h.1.1.2, h.1.2, relB_iff.1 h.2⟩
theorem short20 (h : x.size ≤ 20) : longS x = false := by
  have := runesL_le x
  simp only [longS, decide_eq_false_iff_not]
  omega
theorem given_thr (h1 : relS a x y = true) (h2 : relS b y z = true) (hx : x.size ≤ 20) (hz : z.size ≤ 20) : thrS a b x z = (true, 0) ∧ btwE a b x z = 0 := by
  obtain ⟨v1, o1, o2, r1⟩ := relS_parts h1
  obtain ⟨v2, _, o3, r2⟩ := relS_parts h2
  have hc : chkS [x, z] = 0 := by
    rw [chkS, if_pos (by simp only [List.all_cons, List.all_nil, Bool.and_true, Bool.and_eq_true]; exact ⟨by rw [← okT_S]; exact o1, by rw [← okT_S]; exact o3⟩), if_pos (by simp [short20 hx, short20 hz])]
  obtain ⟨k1, k2⟩ := thr_val (x := x) (z := z) v1 v2
  refine ⟨Prod.ext (k2.2 ⟨hc, _, r1, r2⟩) (by rw [k1, hc]), ?_⟩
  rw [btwE, if_neg (by simp [v1, v2])]; exact hc
theorem mid_codes (h : MidOut a b x z nI o e) (h0 : btwE a b x z = 0) (hn : ¬ (nI < 0 ∨ 40 < nI)) : (∃ W, Wds (bnet a b (runesL x) (runesL z)) ⟨a.start, 0, b.start, 0⟩ nI.toNat W ∧ o = W.map strL ∧ e = 0) ∨ (o = [] ∧ e = 2) := by
  obtain ⟨m, n, ha, hb, _⟩ := mid_ok2 h0
  have hW := wrdM_wds ha hb (alphL_is a true) nI.toNat (xs := runesL x) (zs := runesL z)
  obtain ⟨h1, h2⟩ := (h.2 hn).2 h0 _ hW
  by_cases hc : (wrdM a b (runesL x) (runesL z) (alphL a true) (nI.toNat + 1)).length ≤ 256
  · exact .inl ⟨_, hW, h1 hc⟩
  · exact .inr (h2 (by omega))
theorem given_bad (h : MidOut a b x z nI o e) (h0 : btwE a b x z = 0) (he : e = 1) : (decide (nI < 0) || decide (40 < nI)) = true := by
  by_cases hn : nI < 0 ∨ 40 < nI
  · simpa using hn
  · rcases mid_codes h h0 hn with ⟨W, _, _, rfl⟩ | ⟨_, rfl⟩ <;> cases he
theorem word_good {a : Tra} {xs w : List Int} (hv : validT a = true) (h : Rel a xs w) : Good w := fun r hr => by
  obtain ⟨f, _, hr2⟩ := h
  obtain ⟨h0, x, hx, e⟩ := (run_out hr2).2 r hr
  exact ⟨e ▸ (validT_lab hv x hx).2, h0⟩
theorem runes_str' {w : List Int} (h : Good w) : runesL (strL w) = w := runes_str fun r hr => (h r hr).1
theorem given_fin (h1 : relS a x y = true) (h2 : relS b y z = true) (hx : x.size ≤ 20) (hz : z.size ≤ 20) (h : MidOut a b x z nI o e) (he : ¬ e = 1) : (decide (e = 2) || ((o.any fun s => decide (s = y)) == decide (((runesL y).length : Int) ≤ nI))) = true := by
  obtain ⟨_, h0⟩ := given_thr h1 h2 hx hz
  obtain ⟨v1, o1, o2, r1⟩ := relS_parts h1
  obtain ⟨v2, _, o3, r2⟩ := relS_parts h2
  have hn : ¬ (nI < 0 ∨ 40 < nI) := fun hn => he (h.1 hn).2
  rcases mid_codes h h0 hn with ⟨W, hW, rfl, rfl⟩ | ⟨_, rfl⟩
  · obtain ⟨m, n, ha, hb, _⟩ := mid_ok2 h0
    have hy : strL (runesL y) = y := (okT_good' o2).2
    have hm : runesL y ∈ W ↔ (runesL y).length ≤ nI.toNat := by
      rw [hW.mem, acc_mid ha hb]
      exact ⟨fun k => k.1, fun k => ⟨k, r1, r2⟩⟩
    have e1 : ((W.map strL).any fun s => decide (s = y)) = decide (((runesL y).length : Int) ≤ nI) := by
      rw [Bool.eq_iff_iff, List.any_eq_true, decide_eq_true_eq]
      constructor
      · rintro ⟨s, hs, e⟩
        obtain ⟨w, hw, rfl⟩ := List.mem_map.1 hs
        have e : strL w = y := of_decide_eq_true e
        have hg := word_good v1 ((acc_mid ha hb).1 ((hW.mem w).1 hw).2).1
        have : runesL y = w := by rw [← e, runes_str' hg]
        rw [← this] at hw
        have := hm.1 hw; omega
      · intro k
        exact ⟨y, List.mem_map.2 ⟨_, hm.2 (by omega), hy⟩, by simp⟩
    rw [e1]; simp
  · rfl
/-! Between -/
open Classical in
noncomputable def slxB (u v : List Int) : Bool := decide (slx u v)
theorem slxB_iff {u v : List Int} : slxB u v = true ↔ slx u v := by simp [slxB]
theorem slxB_ne {u v : List Int} (h : ¬ (u.length : Int) = (v.length : Int)) : slxB u v = decide ((u.length : Int) < (v.length : Int)) := by
  rw [Bool.eq_iff_iff, slxB_iff, decide_eq_true_eq]
  constructor
  · rintro (k | ⟨k, _⟩) <;> omega
  · intro k; exact .inl (by omega)
theorem lexL_pre : ∀ {p u v : List Int}, lexL (p ++ u) (p ++ v) ↔ lexL u v
  | [], u, v => Iff.rfl
  | a :: p, u, v => by
    show (a < a ∨ (a = a ∧ lexL (p ++ u) (p ++ v))) ↔ _
    rw [lexL_pre]
    constructor
    · rintro (h | ⟨_, h⟩)
      · omega
      · exact h
    · intro h; exact .inr ⟨rfl, h⟩
theorem slxB_at {u v : List Int} {k : Nat} {p q : Int} (hl : (u.length : Int) = (v.length : Int)) (hu : u[k]? = some p) (hv : v[k]? = some q) (ht : u.take k = v.take k) (hn : ¬ p = q) : slxB u v = decide (p < q) := by
  rw [Bool.eq_iff_iff, slxB_iff, decide_eq_true_eq]
  have e1 : u = u.take k ++ p :: u.drop (k + 1) := by rw [← drop_cons hu, List.take_append_drop]
  have e2 : v = u.take k ++ q :: v.drop (k + 1) := by rw [ht, ← drop_cons hv, List.take_append_drop]
  have key : lexL u v ↔ p < q := by
    rw [e1, e2, lexL_pre]
    constructor
    · rintro (h | ⟨h, _⟩)
      · exact h
      · exact absurd h hn
    · intro h; exact .inl h
  constructor
  · rintro (k | ⟨_, k⟩)
    · omega
    · exact key.1 k
  · intro h; exact .inr ⟨by omega, key.2 h⟩
theorem slxB_eq {u v : List Int} (hl : (u.length : Int) = (v.length : Int)) (ht : u.take u.length = v.take u.length) : slxB u v = false := by
  have : u = v := by
    rw [List.take_length] at ht
    rw [ht, List.take_of_length_le (by omega)]
  subst this
  rw [Bool.eq_false_iff]
  intro h; exact slx_irrefl (slxB_iff.1 h)
theorem betw_err (h : MidOut a b x z nI o e) (he : ¬ e = 0) : o = [] := by
  by_cases hn : nI < 0 ∨ 40 < nI
  · exact (h.1 hn).1
  · by_cases h0 : btwE a b x z = 0
    · rcases mid_codes h h0 hn with ⟨_, _, _, rfl⟩ | ⟨h1, _⟩
      · exact absurd rfl he
      · exact h1
    · exact ((h.2 hn).1 h0).1
/-- What Between asks of the strings between. -/
structure BtwOk (a b : Tra) (x z : ByteArray) (nI : Int) (o : List ByteArray) : Prop where
  rel : ∀ s ∈ o, relS a x s = true ∧ relS b s z = true
  len : ∀ s ∈ o, ((runesL s).length : Int) ≤ nI ∧ s.size ≤ 160
  srt : ∀ (i : Nat) s t, o[i]? = some s → o[i + 1]? = some t → slxB (runesL s) (runesL t) = true
theorem betw_ok (h : MidOut a b x z nI o e) (he : e = 0) : BtwOk a b x z nI o := by
  subst he
  have hn : ¬ (nI < 0 ∨ 40 < nI) := fun hn => by have := (h.1 hn).2; cases this
  have h0 : btwE a b x z = 0 := by
    apply Classical.byContradiction
    intro h0
    exact h0 ((h.2 hn).1 h0).2.symm
  rcases mid_codes h h0 hn with ⟨W, hW, rfl, _⟩ | ⟨_, hc⟩
  · obtain ⟨m, n, ha, hb, v1, v2, o1, o3⟩ := mid_ok2 h0
    have hw : ∀ w ∈ W, Rel a (runesL x) w ∧ Rel b w (runesL z) ∧ w.length ≤ nI.toNat ∧ Good w := fun w hw => by
      obtain ⟨k1, k2⟩ := (hW.mem w).1 hw
      obtain ⟨k3, k4⟩ := (acc_mid ha hb).1 k2
      exact ⟨k3, k4, k1, word_good v1 k3⟩
    refine ⟨fun s hs => ?_, fun s hs => ?_, fun i s t hs ht => ?_⟩
    · obtain ⟨w, hw', rfl⟩ := List.mem_map.1 hs
      obtain ⟨k1, k2, _, k4⟩ := hw w hw'
      have ok := okT_str k4
      constructor
      · rw [relS, v1, o1, ok, runes_str' k4, relB_iff.2 k1]; rfl
      · rw [relS, v2, o3, ok, runes_str' k4, relB_iff.2 k2]; rfl
    · obtain ⟨w, hw', rfl⟩ := List.mem_map.1 hs
      obtain ⟨_, _, k3, k4⟩ := hw w hw'
      rw [runes_str' k4]
      have := strL_size w
      exact ⟨by omega, by omega⟩
    · rw [List.getElem?_map] at hs ht
      obtain ⟨w, hw1, rfl⟩ := Option.map_eq_some_iff.1 hs
      obtain ⟨w', hw2, rfl⟩ := Option.map_eq_some_iff.1 ht
      have g1 := (hw w (List.mem_of_getElem? hw1)).2.2.2
      have g2 := (hw w' (List.mem_of_getElem? hw2)).2.2.2
      rw [runes_str' g1, runes_str' g2, slxB_iff]
      obtain ⟨l1, e1⟩ := List.getElem?_eq_some_iff.1 hw1
      obtain ⟨l2, e2⟩ := List.getElem?_eq_some_iff.1 hw2
      have := List.pairwise_iff_getElem.1 hW.sorted i (i + 1) l1 l2 (by omega)
      rw [e1, e2] at this
      exact this
  · cases hc
end
theorem few_mid {a b : Tra} (ha : fewB a = true) (hb : fewB b = true) : a.states ≤ 5 ∧ a.arcs.length ≤ 12 ∧ b.states ≤ 5 ∧ b.arcs.length ≤ 12 := by
  simp [fewB] at ha hb
  omega
theorem relS_strsL {t : Tra} {z : ByteArray} {w : List Int} (hv : validT t = true) (hz : okT z = true) (hg : Good w) : relS t (strL w) z = relB t w (runesL z) := by
  rw [relS, hv, hz, okT_str hg, runes_str' hg]; rfl
end Go.Proofs.YtmjieefhjmiagaaGreatDoor.G
