/- All strings over a list of runes, in order; the words of a net, one by one. Plain Lean. -/
/- Alphabet and Strings of the reference. Plain Lean. -/
/- Which string comes first; the outputs in order. Plain Lean. -/
/- Reading an input rune by rune; the shortest pair. Plain Lean. -/
import Derived.Test.YtfepjcmjkaolgaaGOuu
import Derived.Test.YtfepjcmjkaolgaaGSts
import Derived.Test.YtfepjcmjkaolgaaGRls
import Derived.Test.YtfepjcmjkaolgaaWSc
import Derived.Test.YtfepjcmjkaolgaaGShl
set_option linter.all false
namespace Go.Proofs.Ytfepjcmjkaolgaa.G
open Go Go.RowKit
noncomputable def wrdS (t : Tra) (xs l : List Int) (n : Nat) : List (List Int) := (List.range n).flatMap fun k => (strs l k).filter (relB t xs)
theorem wrdS_wds {t : Tra} {xs l : List Int} (hl : IsAlph t true l) (n : Nat) : Wds (tnet t xs) ⟨t.start, 0⟩ n (wrdS t xs l (n + 1)) := by
  refine ⟨?_, fun w => ?_⟩
  · rw [wrdS, List.pairwise_flatMap]
    refine ⟨fun k _ => ((strs_sorted hl.1 k).filter _).imp_of_mem fun {a b} ha hb hab => ?_, ?_⟩
    · have h1 := (mem_strs.1 (List.mem_filter.1 ha).1).1
      have h2 := (mem_strs.1 (List.mem_filter.1 hb).1).1
      exact .inr ⟨by omega, hab⟩
    · refine (List.pairwise_lt_range (n := n + 1)).imp_of_mem fun {a b} _ _ hab x hx y hy => .inl ?_
      have h1 := (mem_strs.1 (List.mem_filter.1 hx).1).1
      have h2 := (mem_strs.1 (List.mem_filter.1 hy).1).1
      omega
  · rw [acc_rel, wrdS, List.mem_flatMap]
    constructor
    · rintro ⟨k, hk, hw⟩
      obtain ⟨h1, h2⟩ := List.mem_filter.1 hw
      exact ⟨by have := (mem_strs.1 h1).1; have := List.mem_range.1 hk; omega, relB_iff.1 h2⟩
    · rintro ⟨h1, h2⟩
      refine ⟨w.length, List.mem_range.2 (by omega), List.mem_filter.2 ⟨mem_strs.2 ⟨rfl, fun r hr => ?_⟩, relB_iff.2 h2⟩⟩
      obtain ⟨f, _, hr2⟩ := h2
      obtain ⟨h0, x, hx, e⟩ := (run_out hr2).2 r hr
      exact (hl.2 r).2 ⟨h0, x, hx, e⟩
/-! Outputs of the reference against the program's -/
end Go.Proofs.Ytfepjcmjkaolgaa.G

set_option linter.all false
namespace Go.Proofs.Ytfepjcmjkaolgaa.G
open Go Go.RowKit
def alphL (t : Tra) (wr : Bool) : List Int := (canon (((t.arcs.map (labA wr)).filter fun r => !decide (r = 0)).map fun r => (⟨r, 0, 0, 0⟩ : Arc))).map (·.src)
theorem alphL_is (t : Tra) (wr : Bool) : IsAlph t wr (alphL t wr) := by
  have hform : ∀ a ∈ canon (((t.arcs.map (labA wr)).filter fun r => !decide (r = 0)).map fun r => (⟨r, 0, 0, 0⟩ : Arc)), a = ⟨a.src, 0, 0, 0⟩ := fun a ha => by
    obtain ⟨r, _, rfl⟩ := List.mem_map.1 (mem_canon.1 ha)
    rfl
  refine ⟨?_, fun r => ?_⟩
  · rw [alphL, List.pairwise_map]
    refine (canon_sorted _).imp_of_mem fun {a b} ha hb h => ?_
    rw [hform a ha, hform b hb] at h
    unfold ltArc at h
    simp only [] at h
    omega
  · simp only [alphL, List.mem_map, mem_canon, List.mem_filter, Bool.not_eq_true', decide_eq_false_iff_not]
    constructor
    · rintro ⟨a, ⟨r', ⟨⟨x, hx, e⟩, h0⟩, rfl⟩, rfl⟩; exact ⟨h0, x, hx, e⟩
    · rintro ⟨h0, x, hx, e⟩; exact ⟨⟨r, 0, 0, 0⟩, ⟨r, ⟨⟨x, hx, e⟩, h0⟩, rfl⟩, rfl⟩
/-! Strings -/
end Go.Proofs.Ytfepjcmjkaolgaa.G

set_option linter.all false
namespace Go.Proofs.Ytfepjcmjkaolgaa.G
open Go Go.RowKit
/-! the order of the words -/
open Classical in
noncomputable def slxB (u v : List Int) : Bool := decide (slx u v)
theorem slxB_iff {u v : List Int} : slxB u v = true ↔ slx u v := by simp [slxB]
theorem slxB_ne {u v : List Int} (h : ¬ (u.length : Int) = (v.length : Int)) : slxB u v = decide ((u.length : Int) < (v.length : Int)) := by
  rw [Bool.eq_iff_iff, slxB_iff, decide_eq_true_eq]
  constructor
  · rintro (k | ⟨k, _⟩) <;> omega
  · intro k; exact .inl (by omega)
theorem lexL_pre : ∀ {p u v : List Int}, lexL (p ++ u) (p ++ v) ↔ lexL u v
  | [], u, v => Iff.rfl
  | a :: p, u, v => by
    show (a < a ∨ (a = a ∧ lexL (p ++ u) (p ++ v))) ↔ _
    rw [lexL_pre]
    constructor
    · rintro (h | ⟨_, h⟩)
      · omega
      · exact h
    · intro h; exact .inr ⟨rfl, h⟩
theorem slxB_at {u v : List Int} {k : Nat} {p q : Int} (hl : (u.length : Int) = (v.length : Int)) (hu : u[k]? = some p) (hv : v[k]? = some q) (ht : u.take k = v.take k) (hn : ¬ p = q) : slxB u v = decide (p < q) := by
  rw [Bool.eq_iff_iff, slxB_iff, decide_eq_true_eq]
  have e1 : u = u.take k ++ p :: u.drop (k + 1) := by rw [← drop_cons hu, List.take_append_drop]
  have e2 : v = u.take k ++ q :: v.drop (k + 1) := by rw [ht, ← drop_cons hv, List.take_append_drop]
  have key : lexL u v ↔ p < q := by
    rw [e1, e2, lexL_pre]
    constructor
    · rintro (h | ⟨h, _⟩)
      · exact h
      · exact absurd h hn
    · intro h; exact .inl h
  constructor
  · rintro (k | ⟨_, k⟩)
    · omega
    · exact key.1 k
  · intro h; exact .inr ⟨by omega, key.2 h⟩
theorem slxB_eq {u v : List Int} (hl : (u.length : Int) = (v.length : Int)) (ht : u.take u.length = v.take u.length) : slxB u v = false := by
  have : u = v := by
    rw [List.take_length] at ht
    rw [ht, List.take_of_length_le (by omega)]
  subst this
  rw [Bool.eq_false_iff]
  intro h; exact slx_irrefl (slxB_iff.1 h)

theorem out_codes {t : Tra} {x : ByteArray} {n e : Int} {o : List ByteArray} (h : OutP t x n o e) (hg : goodO t x n = true) : ∃ W, Wds (tnet t (runesL x)) ⟨t.start, 0⟩ n.toNat W ∧ ((W.length ≤ 256 ∧ o = W.map strL ∧ e = 0) ∨ (256 < W.length ∧ o = [] ∧ e = 2)) := by
  have hW := wrdS_wds (t := t) (xs := runesL x) (alphL_is t true) n.toNat
  refine ⟨_, hW, ?_⟩
  obtain ⟨h1, h2⟩ := h.2 hg _ hW
  by_cases hc : (wrdS t (runesL x) (alphL t true) (n.toNat + 1)).length ≤ 256
  · exact .inl ⟨hc, h1 hc⟩
  · exact .inr ⟨by omega, h2 (by omega)⟩
theorem goodO_parts {t : Tra} {x : ByteArray} {n : Int} (h : goodO t x n = true) : validT t = true ∧ okT x = true ∧ 0 ≤ n ∧ n ≤ 4096 := by
  simp only [goodO, Bool.not_eq_true', Bool.or_eq_false_iff, Bool.not_eq_false', decide_eq_false_iff_not] at h
  exact ⟨h.1.1.1, h.1.1.2, by omega, by omega⟩
theorem out_ok0 {t : Tra} {x : ByteArray} {n : Int} {o : List ByteArray} (h : OutP t x n o 0) : goodO t x n = true ∧ ∃ W, Wds (tnet t (runesL x)) ⟨t.start, 0⟩ n.toNat W ∧ W.length ≤ 256 ∧ o = W.map strL := by
  cases hg : goodO t x n with
  | false => have := (h.1 hg).2; cases this
  | true =>
    obtain ⟨W, hW, ⟨h1, h2, _⟩ | ⟨_, _, h3⟩⟩ := out_codes h hg
    · exact ⟨rfl, W, hW, h1, h2⟩
    · cases h3
theorem run_labs {t : Tra} (hv : validT t = true) {p q : Int} {xs ys : List Int} (h : Run t p xs ys q) : Good ys := by
  induction h with
  | nil => intro r hr; simp at hr
  | @cons x us vs q hx _ ih =>
    intro r hr
    rcases List.mem_append.1 hr with hr | hr
    · unfold lab at hr; split at hr
      · simp at hr
      · rename_i h0; rw [List.mem_singleton.1 hr]; exact ⟨(validT_lab hv x hx).2, h0⟩
    · exact ih r hr
theorem rel_good {t : Tra} (hv : validT t = true) {xs w : List Int} (h : Rel t xs w) : Good w := by obtain ⟨f, _, hr⟩ := h; exact run_labs hv hr
theorem relS_word {t : Tra} {x : ByteArray} {w : List Int} (hv : validT t = true) (hx : okT x = true) (hg : Good w) : relS t x (strL w) = relB t (runesL x) w := by
  rw [relS, hv, hx, okT_str hg, runes_str hg.v]; rfl
structure OutOk (t : Tra) (x : ByteArray) (n : Int) (o : List ByteArray) : Prop where
  rel : ∀ s ∈ o, relS t x s = true
  len : ∀ s ∈ o, ((runesL s).length : Int) ≤ n ∧ (s.size : Int) ≤ 4 * n
  srt : ∀ (i : Nat) s t, o[i]? = some s → o[i + 1]? = some t → slxB (runesL s) (runesL t) = true
theorem out_ok {t : Tra} {x : ByteArray} {n : Int} {o : List ByteArray} (h : OutP t x n o 0) : OutOk t x n o := by
  obtain ⟨hg, W, hW, _, rfl⟩ := out_ok0 h
  obtain ⟨hv, hx, h0, _⟩ := goodO_parts hg
  have hw : ∀ w ∈ W, Rel t (runesL x) w ∧ w.length ≤ n.toNat ∧ Good w := fun w hw => by
    obtain ⟨k1, k2⟩ := (hW.mem w).1 hw
    have k3 := acc_rel.1 k2
    exact ⟨k3, k1, rel_good hv k3⟩
  refine ⟨fun s hs => ?_, fun s hs => ?_, fun i s t' hs ht => ?_⟩
  · obtain ⟨w, hw', rfl⟩ := List.mem_map.1 hs
    obtain ⟨k1, _, k3⟩ := hw w hw'
    rw [relS_word hv hx k3, relB_iff]; exact k1
  · obtain ⟨w, hw', rfl⟩ := List.mem_map.1 hs
    obtain ⟨_, k2, k3⟩ := hw w hw'
    have := strL_size w
    rw [runes_str k3.v]
    exact ⟨by omega, by omega⟩
  · rw [List.getElem?_map] at hs ht
    obtain ⟨w, hw1, rfl⟩ := Option.map_eq_some_iff.1 hs
    obtain ⟨w', hw2, rfl⟩ := Option.map_eq_some_iff.1 ht
    have g1 := (hw w (List.mem_of_getElem? hw1)).2.2
    have g2 := (hw w' (List.mem_of_getElem? hw2)).2.2
    rw [runes_str g1.v, runes_str g2.v, slxB_iff]
    obtain ⟨l1, e1⟩ := List.getElem?_eq_some_iff.1 hw1
    obtain ⟨l2, e2⟩ := List.getElem?_eq_some_iff.1 hw2
    have := List.pairwise_iff_getElem.1 hW.sorted i (i + 1) l1 l2 (by omega)
    rw [e1, e2] at this
    exact this
theorem out_err {t : Tra} {x : ByteArray} {n e : Int} {o : List ByteArray} (h : OutP t x n o e) (he : ¬ e = 0) : o = [] ∧ (e = 2 ∨ e = 1) := by
  cases hg : goodO t x n with
  | false => obtain ⟨h1, h2⟩ := h.1 hg; exact ⟨h1, .inr h2⟩
  | true =>
    obtain ⟨W, hW, ⟨_, _, h3⟩ | ⟨_, h2, h3⟩⟩ := out_codes h hg
    · exact absurd h3 he
    · exact ⟨h2, .inl h3⟩
/-- A smaller length: the first of them. -/
theorem out_pre {t : Tra} {x : ByteArray} {k j f : Int} {o m : List ByteArray} (hk : OutP t x k o 0) (hj : OutP t x j m f) (h0 : 0 ≤ j) (hjk : j ≤ k) {c : Nat} (hc : c ≤ o.length) (hle : ∀ s ∈ o.take c, ((runesL s).length : Int) ≤ j) (hst : c = o.length ∨ ∃ s, o[c]? = some s ∧ j < ((runesL s).length : Int)) : f = 0 ∧ m = o.take c := by
  obtain ⟨hg, W, hW, hl, rfl⟩ := out_ok0 hk
  obtain ⟨hv, hx, _, h4⟩ := goodO_parts hg
  have hg2 : goodO t x j = true := by
    rw [goodO, hv, hx, decide_eq_false (show ¬ j < 0 by omega), decide_eq_false (show ¬ 4096 < j by omega)]; rfl
  have hgd : ∀ w ∈ W, Good w := fun w hw => rel_good hv (acc_rel.1 ((hW.mem w).1 hw).2)
  rw [List.length_map] at hc
  have hW' : Wds (tnet t (runesL x)) ⟨t.start, 0⟩ j.toNat (W.take c) := by
    refine ⟨hW.sorted.sublist (List.take_sublist c W), fun w => ⟨fun hw => ?_, fun ⟨h1, h2⟩ => ?_⟩⟩
    · have hw' := List.mem_of_mem_take hw
      refine ⟨?_, ((hW.mem w).1 hw').2⟩
      have := hle (strL w) (by rw [← List.map_take]; exact List.mem_map.2 ⟨w, hw, rfl⟩)
      rw [runes_str (hgd w hw').v] at this
      omega
    · have hw : w ∈ W := (hW.mem w).2 ⟨by omega, h2⟩
      obtain ⟨i, hi, e⟩ := List.mem_iff_getElem.1 hw
      by_cases hic : i < c
      · exact List.mem_iff_getElem.2 ⟨i, by rw [List.length_take]; omega, by rw [List.getElem_take]; exact e⟩
      · rcases hst with hst | ⟨s, hs, hlt⟩
        · rw [List.length_map] at hst; omega
        · rw [List.getElem?_map] at hs
          obtain ⟨w', hw', rfl⟩ := Option.map_eq_some_iff.1 hs
          obtain ⟨hcl, e'⟩ := List.getElem?_eq_some_iff.1 hw'
          rw [runes_str (hgd w' (List.mem_of_getElem? hw')).v] at hlt
          by_cases hc2 : i = c
          · subst hc2; rw [e'] at e; rw [e] at hlt; omega
          · have := List.pairwise_iff_getElem.1 hW.sorted c i hcl hi (by omega)
            rw [e, e'] at this
            rcases this with h | ⟨h, _⟩ <;> omega
  obtain ⟨k1, _⟩ := hj.2 hg2 _ hW'
  obtain ⟨k2, k3⟩ := k1 (by rw [List.length_take]; omega)
  exact ⟨k3, by rw [k2, List.map_take]⟩
end Go.Proofs.Ytfepjcmjkaolgaa.G

set_option linter.all false
namespace Go.Proofs.Ytfepjcmjkaolgaa.G
open Go Go.RowKit
/-- The states after u has been read. -/
def RdOk (t : Tra) (u : List Int) (ss : List Int) : Prop := ss.Nodup ∧ ∀ s, s ∈ ss ↔ ∃ w, Run t t.start u w s
theorem onL_nodupR (bs : List Bool) (k : Nat) : (onL bs k).Nodup := by
  unfold onL
  exact List.pairwise_map.2 ((List.Pairwise.filter _ (List.nodup_range (n := k))).imp fun hne e => hne (by have h : (_ : Int) = _ := e; omega))
theorem mem_onLR {bs : List Bool} {m : Nat} (hl : bs.length = m) {s : Int} : s ∈ onL bs m ↔ bt bs s := by
  simp only [onL, List.mem_map, List.mem_filter, List.mem_range]
  constructor
  · rintro ⟨k, ⟨h1, h2⟩, rfl⟩
    refine ⟨by omega, ?_⟩
    rw [Int.toNat_natCast, getD_at (d := false) (by omega), h2]
  · rintro ⟨h0, h1⟩
    have := (List.getElem?_eq_some_iff.1 h1).1
    exact ⟨s.toNat, ⟨by omega, getD_of h1⟩, Int.toNat_of_nonneg h0⟩
theorem eps_run {t : Tra} {p s : Int} : Reach (epsN t) (· = p) s ↔ ∃ w, Run t p [] w s := by
  constructor
  · intro h
    induction h with
    | base h => rw [h]; exact ⟨[], .nil _⟩
    | @tail a b _ hb ih =>
      obtain ⟨w, hw⟩ := ih
      obtain ⟨x, hx, rfl⟩ := List.mem_map.1 hb
      obtain ⟨hx1, hx2⟩ := List.mem_filter.1 hx
      obtain ⟨hx3, hx4⟩ := mem_outs.1 hx1
      refine ⟨w ++ lab x.out, ?_⟩
      have := hw.snoc hx3 hx4
      rw [of_decide_eq_true hx2] at this
      simpa [lab] using this
  · rintro ⟨w, hw⟩
    have key : ∀ {q s : Int} {xs ys : List Int}, Run t q xs ys s → xs = [] → Reach (epsN t) (· = p) q → Reach (epsN t) (· = p) s := fun h => by
      induction h with
      | nil => intro _ k; exact k
      | @cons x us vs q hx _ ih =>
        intro he hk
        have h0 : x.inp = 0 := by
          by_cases h0 : x.inp = 0
          · exact h0
          · rw [lab_ne h0] at he; simp at he
        rw [h0] at he
        exact ih (by simpa [lab] using he) (.tail hk (List.mem_map.2 ⟨x, List.mem_filter.2 ⟨mem_outs.2 ⟨hx, rfl⟩, by simpa using h0⟩, rfl⟩))
    exact key hw rfl (.base rfl)
theorem reach_any {C : Type} {N : C → List C} {S : C → Prop} {c : C} : Reach N S c ↔ ∃ a, S a ∧ Reach N (· = a) c := by
  constructor
  · intro h
    induction h with
    | base h => exact ⟨_, h, .base rfl⟩
    | tail _ hy ih => obtain ⟨a, ha, h⟩ := ih; exact ⟨a, ha, .tail h hy⟩
  · rintro ⟨a, ha, h⟩
    induction h with
    | base h => rw [h]; exact .base ha
    | tail _ hy ih => exact .tail ih hy
theorem run_split {t : Tra} {p q : Int} {xs ys : List Int} (h : Run t p xs ys q) : ∀ {u v : List Int}, xs = u ++ v → ∃ s w1 w2, Run t p u w1 s ∧ Run t s v w2 q := by
  induction h with
  | nil => intro u v h; simp at h; rw [h.1, h.2]; exact ⟨_, [], [], .nil _, .nil _⟩
  | @cons x us vs q hx hr ih =>
    intro u v he
    by_cases h0 : x.inp = 0
    · rw [h0, lab_zero, List.nil_append] at he
      obtain ⟨s, w1, w2, h1, h2⟩ := ih he
      exact ⟨s, lab x.out ++ w1, w2, .cons' hx rfl h1 (by rw [h0]; rfl) rfl, h2⟩
    · rw [lab_ne h0] at he
      cases u with
      | nil => exact ⟨x.src, [], _, .nil _, .cons' hx rfl hr (by rw [lab_ne h0]; simpa using he.symm) rfl⟩
      | cons r u =>
        simp only [List.cons_append, List.nil_append, List.cons.injEq] at he
        obtain ⟨s, w1, w2, h1, h2⟩ := ih he.2
        exact ⟨s, lab x.out ++ w1, w2, .cons' hx rfl h1 (by rw [lab_ne h0, ← he.1]; rfl) rfl, h2⟩
theorem frS_mem {t : Tra} {m : Nat} (ht : t.Ok m) {s : Int} {ss : List Int} : s ∈ frS t ss ↔ s ∈ ss ∧ 0 ≤ s ∧ s < m := by
  simp [frS, ht.st]
theorem inrun {t : Tra} {m : Nat} (ht : t.Ok m) {u w : List Int} {s : Int} (h : Run t t.start u w s) : 0 ≤ s ∧ s < m := by
  have key : ∀ {p q : Int} {xs ys : List Int}, Run t p xs ys q → (0 ≤ p ∧ p < (m : Int)) → 0 ≤ q ∧ q < (m : Int) := fun h => by
    induction h with
    | nil => exact id
    | cons hx _ ih => exact fun _ => ih (ht.arcs _ hx).2
  exact key h ht.start
theorem rd_zero {t : Tra} (hv : validT t = true) {out : List Int} (h : StepP t [t.start] 0 out) : RdOk t [] out := by
  obtain ⟨m, b1, b2, ht, ⟨h1, h2⟩, h3, _, rfl⟩ := h.2 hv
  rw [h3 rfl]
  refine ⟨onL_nodupR _ _, fun s => ?_⟩
  rw [mem_onLR h1, h2, reach_any]
  constructor
  · rintro ⟨a, ha, hr⟩
    have := ((frS_mem ht).1 ha).1
    rw [List.mem_singleton.1 this] at hr
    exact eps_run.1 hr
  · intro hw
    exact ⟨t.start, (frS_mem ht).2 ⟨by simp, ht.start⟩, eps_run.2 hw⟩
theorem rd_step {t : Tra} (hv : validT t = true) {u ss out : List Int} {r : Int} (hr0 : r ≠ 0) (hs : RdOk t u ss) (h : StepP t ss r out) : RdOk t (u ++ [r]) out := by
  obtain ⟨m, b1, b2, ht, ⟨h1, h2⟩, _, h3, rfl⟩ := h.2 hv
  obtain ⟨h4, h5⟩ := h3 hr0
  refine ⟨onL_nodupR _ _, fun s => ?_⟩
  have hb1 : ∀ q, bt b1 q ↔ ∃ w, Run t t.start u w q := fun q => by
    rw [h2, reach_any]
    constructor
    · rintro ⟨a, ha, hq⟩
      obtain ⟨w1, hw1⟩ := (hs.2 a).1 ((frS_mem ht).1 ha).1
      obtain ⟨w2, hw2⟩ := eps_run.1 hq
      exact ⟨w1 ++ w2, by simpa using hw1.trans hw2⟩
    · rintro ⟨w, hw⟩
      exact ⟨q, (frS_mem ht).2 ⟨(hs.2 q).2 ⟨w, hw⟩, inrun ht hw⟩, .base rfl⟩
  have hnx : ∀ q, q ∈ nxR t b1 r m ↔ ∃ x ∈ t.arcs, bt b1 x.src ∧ x.inp = r ∧ x.dst = q := fun q => by
    simp only [nxR, List.mem_flatMap, List.mem_range, List.mem_map, List.mem_filter, stB, Bool.and_eq_true, decide_eq_true_eq]
    constructor
    · rintro ⟨k, hk, x, ⟨hx, hb, hi⟩, rfl⟩
      obtain ⟨hx1, hx2⟩ := mem_outs.1 hx
      refine ⟨x, hx1, ?_, hi, rfl⟩
      rw [hx2]
      exact ⟨by omega, by rw [Int.toNat_natCast, getD_at (d := false) (by omega), hb]⟩
    · rintro ⟨x, hx, hb, hi, rfl⟩
      have hxr := (ht.arcs x hx).1
      refine ⟨x.src.toNat, by omega, x, ⟨mem_outs.2 ⟨hx, by omega⟩, ?_, hi⟩, rfl⟩
      exact getD_of hb.2
  rw [mem_onLR h4, h5, reach_any]
  constructor
  · rintro ⟨a, ha, hq⟩
    obtain ⟨x, hx, hb, hi, rfl⟩ := (hnx a).1 ha
    obtain ⟨w1, hw1⟩ := (hb1 _).1 hb
    obtain ⟨w2, hw2⟩ := eps_run.1 hq
    have := (hw1.snoc hx rfl).trans hw2
    rw [hi, lab_ne hr0] at this
    exact ⟨_, by simpa using this⟩
  · rintro ⟨w, hw⟩
    obtain ⟨p, w1, w2, r1, r2⟩ := run_split hw rfl
    obtain ⟨z1, z2, y, hy, k1, k2, k3, _⟩ := run_read (b := t) r2 (r := r) (ys := []) hr0 rfl
    refine ⟨y.dst, (hnx _).2 ⟨y, hy, (hb1 _).2 ⟨w1 ++ z1, by simpa using r1.trans k1⟩, k2, rfl⟩, eps_run.2 ⟨z2, k3⟩⟩
theorem run_inv {t : Tra} {p q : Int} {xs ys : List Int} (h : Run t p xs ys q) : (xs = [] ∧ ys = [] ∧ p = q) ∨ ∃ x ∈ t.arcs, ∃ us vs, x.src = p ∧ Run t x.dst us vs q ∧ xs = lab x.inp ++ us ∧ ys = lab x.out ++ vs := by
  cases h with
  | nil => exact .inl ⟨rfl, rfl, rfl⟩
  | @cons x us vs _ hx hr => exact .inr ⟨x, hx, us, vs, rfl, hr, rfl, rfl⟩
theorem nodup_inj {α β : Type} {f : α → β} : ∀ {l : List α}, (l.map f).Nodup → ∀ {x y : α}, x ∈ l → y ∈ l → f x = f y → x = y
  | [], _, x, _, hx, _, _ => absurd hx List.not_mem_nil
  | z :: l, h, x, y, hx, hy, e => by
    rw [List.map_cons, List.nodup_cons] at h
    rcases List.mem_cons.1 hx with k1 | k1
    · rcases List.mem_cons.1 hy with k2 | k2
      · rw [k1, k2]
      · exact absurd (List.mem_map.2 ⟨y, k2, by rw [← e, k1]⟩) h.1
    · rcases List.mem_cons.1 hy with k2 | k2
      · exact absurd (List.mem_map.2 ⟨x, k1, by rw [e, k2]⟩) h.1
      · exact nodup_inj h.2 k1 k2 e
/-- A sequential transducer: one state, one output. -/
theorem seq_run {t : Tra} (hs : seqS t = true) {p q : Int} {u w : List Int} (h : Run t p u w q) : ∀ {w' : List Int} {q' : Int}, Run t p u w' q' → w = w' ∧ q = q' := by
  rw [seqS, Bool.and_eq_true] at hs
  have hs' := hs.2
  simp only [seqL, decide_eq_true_eq] at hs'
  obtain ⟨h1, h2⟩ := hs'
  induction h with
  | nil p =>
    intro w' q' h'
    rcases run_inv h' with ⟨_, rfl, rfl⟩ | ⟨x, hx, us, vs, _, _, e, _⟩
    · exact ⟨rfl, rfl⟩
    · rw [lab_ne (h1 x hx)] at e; simp at e
  | @cons x us vs q hx hr ih =>
    intro w' q' h'
    rcases run_inv h' with ⟨e, _, _⟩ | ⟨y, hy, us', vs', e0, hr', e, rfl⟩
    · rw [lab_ne (h1 x hx)] at e; simp at e
    · rw [lab_ne (h1 x hx), lab_ne (h1 y hy)] at e
      simp only [List.cons_append, List.nil_append, List.cons.injEq] at e
      obtain rfl : y = x := nodup_inj h2 hy hx (by rw [lblA, lblA, e0, e.1])
      obtain ⟨k1, k2⟩ := ih (e.2 ▸ hr')
      exact ⟨by rw [k1], k2⟩
theorem seq_one {t : Tra} (hs : seqS t = true) {u ss : List Int} (h : RdOk t u ss) : ss.length ≤ 1 := by
  match ss, h with
  | [], _ => simp
  | [_], _ => simp
  | a :: b :: l, h =>
    obtain ⟨w1, h1⟩ := (h.2 a).1 (by simp)
    obtain ⟨w2, h2⟩ := (h.2 b).1 (by simp)
    have := (seq_run hs h1 h2).2
    subst this
    exact absurd h.1 (by simp)
theorem seq_outs {t : Tra} {x : ByteArray} {n : Int} {o : List ByteArray} (hs : seqS t = true) (h : OutP t x n o 0) : o.length ≤ 1 := by
  obtain ⟨_, W, hW, _, rfl⟩ := out_ok0 h
  rw [List.length_map]
  match W, hW with
  | [], _ => simp
  | [_], _ => simp
  | u :: v :: W, hW =>
    obtain ⟨f, _, r1⟩ := acc_rel.1 ((hW.mem u).1 (by simp)).2
    obtain ⟨g, _, r2⟩ := acc_rel.1 ((hW.mem v).1 (by simp)).2
    have hp := List.pairwise_cons.1 hW.sorted
    have := hp.1 v (by simp)
    rw [(seq_run hs r1 r2).1] at this
    exact absurd this slx_irrefl
theorem reads_ends {t : Tra} {x : ByteArray} {n : Int} {o : List ByteArray} {ss : List Int} (h : OutP t x n o 0) (hr : RdOk t (runesL x) ss) (ho : o ≠ []) : (ss.any fun s => decide (s ∈ t.finals)) = true := by
  obtain ⟨_, W, hW, _, rfl⟩ := out_ok0 h
  cases W with
  | nil => exact absurd rfl ho
  | cons u W =>
    obtain ⟨f, hf, r1⟩ := acc_rel.1 ((hW.mem u).1 (by simp)).2
    exact List.any_eq_true.2 ⟨f, (hr.2 f).2 ⟨_, r1⟩, by simpa using hf⟩
theorem reads_nz {t : Tra} {x : ByteArray} {n : Int} {o : List ByteArray} (h : OutP t x n o 0) : ∀ r ∈ runesL x, r ≠ 0 := fun r hr e => by
  have := (goodO_parts (out_ok0 h).1).2.1
  rw [okT, Bool.and_eq_true] at this
  subst e
  simp [hr] at this
theorem reads_fin {t : Tra} {x : ByteArray} {n : Int} {o : List ByteArray} {ss : List Int} (h : OutP t x n o 0) (hr : RdOk t (runesL x) ss) : (decide ((o.length : Int) = 0) || ss.any fun s => decide (s ∈ t.finals)) = true := by
  cases o with
  | nil => rfl
  | cons a l => rw [reads_ends h hr (List.cons_ne_nil _ _), Bool.or_true]
theorem rdok_len {t : Tra} (hv : validT t = true) {u ss : List Int} (h : RdOk t u ss) : ss.length ≤ 4096 := by
  obtain ⟨m, ha, _⟩ := valid_rng hv
  have := h.1.length_le_of_subset (l₂ := (List.range m).map fun (k : Nat) => (k : Int)) fun s hs => by
    obtain ⟨w, hw⟩ := (h.2 s).1 hs
    have := inrun ha hw
    exact List.mem_map.2 ⟨s.toNat, List.mem_range.2 (by omega), Int.toNat_of_nonneg this.1⟩
  rw [List.length_map, List.length_range] at this
  have := ha.le
  omega
theorem alph_hun {t : Tra} (h : t.arcs.length ≤ 100) : ∀ ks : List Int, ks.Nodup → (∀ r ∈ ks, r ≠ 0 ∧ ∃ z ∈ t.arcs, z.out = r) → ks.length ≤ 4096 := fun ks h1 h2 => by
  have := h1.length_le_of_subset (l₂ := t.arcs.map (·.out)) fun r hr => by
    obtain ⟨_, z, hz, e⟩ := h2 r hr
    exact List.mem_map.2 ⟨z, hz, e⟩
  rw [List.length_map] at this; omega
theorem run_labsI {t : Tra} (hv : validT t = true) {p q : Int} {xs ys : List Int} (h : Run t p xs ys q) : Good xs := by
  induction h with
  | nil => intro r hr; simp at hr
  | @cons x us vs q hx _ ih =>
    intro r hr
    rcases List.mem_append.1 hr with hr | hr
    · unfold lab at hr; split at hr
      · simp at hr
      · rename_i h0; rw [List.mem_singleton.1 hr]; exact ⟨(validT_lab hv x hx).1, h0⟩
    · exact ih r hr
theorem sht_law {t : Tra} {a b : ByteArray} {k : Bool} (h : ShtP t a b k) (hst : t.states ≤ 40) : k = !emptyS t ∧ a.size ≤ 320 ∧ b.size ≤ 320 ∧ (k = true → relS t a b = true) ∧ ∀ x y, relS t x y = true → k = true ∧ ((runesL a).length : Int) + (runesL b).length ≤ ((runesL x).length : Int) + (runesL y).length := by
  have hrel : ∀ x y, relS t x y = true → validT t = true ∧ Rel t (runesL x) (runesL y) := fun x y hr => by
    simp only [relS, Bool.and_eq_true] at hr
    exact ⟨hr.1.1.1, relB_iff.1 hr.2⟩
  cases he : emptyS t with
  | true =>
    obtain ⟨rfl, rfl, rfl⟩ := h.1 he
    refine ⟨rfl, by decide, by decide, (fun h => by cases h), fun x y hr => ?_⟩
    obtain ⟨h1, h2⟩ := hrel x y hr
    have := dn_rel3.2 ⟨_, _, h2⟩
    rw [emptyS, h1, this] at he; cases he
  | false =>
    obtain ⟨rfl, u, xs, ys, hu, hg, hf, rfl, rfl⟩ := h.2 he
    have hv : validT t = true := by
      cases hv : validT t with
      | true => rfl
      | false => rw [emptyS, hv] at he; cases he
    obtain ⟨h1, h2, h3⟩ := sht_first he hu hg hf
    obtain ⟨f, hf1, hf2⟩ := h1
    have g1 := run_labsI hv hf2
    have g2 := run_labs hv hf2
    have s1 := strL_size xs
    have s2 := strL_size ys
    refine ⟨rfl, by omega, by omega, fun _ => ?_, fun x y hr => ⟨rfl, ?_⟩⟩
    · rw [relS_word hv (okT_str g1) g2, runes_str g1.v]
      exact relB_iff.2 ⟨f, hf1, hf2⟩
    · rw [runes_str g1.v, runes_str g2.v]
      rcases h3 _ _ (hrel x y hr).2 with k | ⟨k, _⟩ <;> omega
theorem emp_a {k e r q : Bool} (h1 : k = !e) (h2 : k = true → r = true) (h3 : q = true → k = true) : (((k == e) || (k && !r)) || (q && !k)) = false := by
  revert h1 h2 h3
  cases k <;> cases e <;> cases r <;> cases q <;> simp
theorem emp_b {q : Bool} {p : Prop} [Decidable p] (h : q = true → p) : (!q || decide p) = true := by
  cases q with
  | false => rfl
  | true => simp [h rfl]
end Go.Proofs.Ytfepjcmjkaolgaa.G
