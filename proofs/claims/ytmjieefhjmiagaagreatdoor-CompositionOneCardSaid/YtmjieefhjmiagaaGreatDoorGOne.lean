/- A word of a functional transducer has one output at most: the law One. Plain Lean. -/
import Derived.Test.YtmjieefhjmiagaaGreatDoorGFnc
import Derived.Test.YtmjieefhjmiagaaGreatDoorGOuu
import Derived.Test.YtmjieefhjmiagaaGreatDoorGStg
import Derived.Test.YtmjieefhjmiagaaGreatDoorGAlp
set_option linter.all false
namespace Go.Proofs.YtmjieefhjmiagaaGreatDoor.G
open Go Go.RowKit
theorem alph_fewO {t : Tra} (h : t.arcs.length ≤ 12) : ∀ ks : List Int, ks.Nodup → (∀ r ∈ ks, r ≠ 0 ∧ ∃ z ∈ t.arcs, z.out = r) → ks.length ≤ 12 := fun ks h1 h2 => by
  have := h1.length_le_of_subset (l₂ := t.arcs.map (·.out)) fun r hr => by
    obtain ⟨_, z, hz, rfl⟩ := h2 r hr
    exact List.mem_map.2 ⟨z, hz, rfl⟩
  rw [List.length_map] at this; omega
theorem one_codes {t : Tra} {x : ByteArray} {n e : Int} {o : List ByteArray} (h : OutP t x n o e) (hg : goodO t x n = true) : ∃ W, Wds (tnet t (runesL x)) ⟨t.start, 0⟩ n.toNat W ∧ ((W.length ≤ 256 ∧ o = W.map strL ∧ e = 0) ∨ (256 < W.length ∧ o = [] ∧ e = 2)) := by
  have hW := wrdS_wds (t := t) (xs := runesL x) (alphL_is t true) n.toNat
  refine ⟨_, hW, ?_⟩
  obtain ⟨h1, h2⟩ := h.2 hg _ hW
  by_cases hc : (wrdS t (runesL x) (alphL t true) (n.toNat + 1)).length ≤ 256
  · exact .inl ⟨hc, h1 hc⟩
  · exact .inr ⟨by omega, h2 (by omega)⟩
theorem fnc_one {a : Tra} {x : ByteArray} (hx : x.size ≤ 20) : FncS a [x] = if (validT a && okS x) = true then (sglB a (runesL x), 0) else (false, 1) := by
  have hr := runesL_le x
  have hl : longS x = false := by rw [longS, decide_eq_false]; omega
  unfold FncS
  cases hv : validT a
  · simp
  · have hc : chkS [x] = if okS x = true then 0 else 1 := by
      unfold chkS
      cases ho : okS x <;> simp [ho, hl]
    cases ho : okS x <;> simp [hc, ho]
theorem good_one {a : Tra} {x : ByteArray} {n : Int} (hn : ¬ n < 0) (hn6 : ¬ 6 < n) : goodO a x n = (validT a && okS x) := by
  have h1 : ¬ 4096 < n := by omega
  rw [goodO, decide_eq_false hn, decide_eq_false h1, ← okT_S]
  simp
theorem one_err {a : Tra} {x : ByteArray} {n e : Int} {o : List ByteArray} (h : OutP a x n o e) (hx : x.size ≤ 20) (hn : ¬ n < 0) (hn6 : ¬ 6 < n) (hc : (!decide ((FncS a [x]).2 = 0) || decide (e = 1)) = true) : (decide ((FncS a [x]).2 = 1) && decide (e = 1)) = true := by
  rw [fnc_one hx] at hc ⊢
  have hg := good_one (a := a) (x := x) hn hn6
  cases hv : (validT a && okS x)
  · rw [hv] at hg
    obtain ⟨_, rfl⟩ := h.1 hg
    simp
  · rw [hv] at hg hc
    obtain ⟨W, _, ⟨_, _, rfl⟩ | ⟨_, _, rfl⟩⟩ := one_codes h hg <;> simp at hc
theorem one_ok {a : Tra} {x : ByteArray} {n e : Int} {o : List ByteArray} (h : OutP a x n o e) (hx : x.size ≤ 20) (hn : ¬ n < 0) (hn6 : ¬ 6 < n) (hc : (!decide ((FncS a [x]).2 = 0) || decide (e = 1)) = false) : (!(FncS a [x]).1 || (decide (e = 0) && decide ((o.length : Int) ≤ 1))) = true := by
  rw [fnc_one hx] at hc ⊢
  have hg := good_one (a := a) (x := x) hn hn6
  cases hv : (validT a && okS x)
  · simp
  · rw [hv] at hg
    cases hs : sglB a (runesL x)
    · simp [hs]
    · have hS := sglB_iff.1 hs
      obtain ⟨W, hW, hcase⟩ := one_codes h hg
      have hl : W.length ≤ 1 := by
        match W, hW with
        | [], _ => simp
        | [_], _ => simp
        | u :: v :: W, hW =>
          have hu := acc_rel.1 ((hW.mem u).1 (by simp)).2
          have hv := acc_rel.1 ((hW.mem v).1 (by simp)).2
          have hp := List.pairwise_cons.1 hW.sorted
          have := hp.1 v (by simp)
          rw [hS u v hu hv] at this
          exact absurd this slx_irrefl
      rcases hcase with ⟨_, rfl, rfl⟩ | ⟨h1, _, _⟩
      · simp [hs]; omega
      · omega
end Go.Proofs.YtmjieefhjmiagaaGreatDoor.G
