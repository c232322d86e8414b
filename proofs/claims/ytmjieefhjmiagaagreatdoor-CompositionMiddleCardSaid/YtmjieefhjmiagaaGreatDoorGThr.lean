/- Through reports whether some string lies between; composing associates. Plain Lean. -/
/- Marks on numbers while pairs of numbers are gone through: what a reference's search means. Plain Lean. -/
import Derived.Test.YtmjieefhjmiagaaGreatDoorGBtw
import Derived.Test.YtmjieefhjmiagaaGreatDoorGRel
set_option linter.all false
namespace Go.Proofs.YtmjieefhjmiagaaGreatDoor.G
open Go Go.RowKit
theorem eatB_fit {l : List Int} {k : Nat} {r : Int} : eatB l k r = fitB l (k : Int) r := by
  unfold eatB fitB
  by_cases h : r = 0
  · simp [h]
  · rw [if_neg h]
    simp only [h, decide_false, Bool.false_or, Int.toNat_natCast]
    rw [Bool.eq_iff_iff]
    simp only [Bool.and_eq_true, decide_eq_true_eq]
    constructor
    · rintro ⟨h1, h2⟩
      have hk : k < l.length := by omega
      rw [getD_of (List.getElem?_eq_getElem hk)] at h2
      rw [List.getElem?_eq_getElem hk, h2]
    · intro h1
      obtain ⟨h2, h3⟩ := List.getElem?_eq_some_iff.1 h1
      exact ⟨by omega, by rw [getD_of h1]⟩
theorem mem_outs {t : Tra} {s : Int} {x : Arc} : x ∈ t.outs s ↔ x ∈ t.arcs ∧ x.src = s := by simp [Tra.outs]
theorem valid_rng {t : Tra} (h : validT t = true) : ∃ m, t.Ok m ∧ ∀ p ∈ t.finals, 0 ≤ p ∧ p < (m : Int) := by
  obtain ⟨m, ha, _, _⟩ := validT_ok h
  exact ⟨m, ha, fun p hp => by have := validT_fin h p hp; rwa [ha.st] at this⟩
theorem few2_all {a b : Tra} (h : ([a, b].all fewB) = true) : fewB a = true ∧ fewB b = true := by simpa using h
theorem brief2 {x z : ByteArray} (h : ([x, z].all fun s => !decide (20 < (s.size : Int))) = true) : x.size ≤ 20 ∧ z.size ≤ 20 := by
  simp at h; omega
end Go.Proofs.YtmjieefhjmiagaaGreatDoor.G

set_option linter.all false
namespace Go.Proofs.YtmjieefhjmiagaaGreatDoor.G
open Go Go.RowKit
def on (l : List Bool) (i : Nat) : Prop := l[i]? = some true
theorem on_set {l : List Bool} {i j : Nat} (h : j < l.length) : on (l.set j true) i ↔ i = j ∨ on l i := by
  unfold on
  rw [List.getElem?_set]
  by_cases e : j = i
  · subst e; simp [h]
  · rw [if_neg e]
    constructor
    · exact .inr
    · rintro (rfl | h)
      · exact absurd rfl e
      · exact h
theorem on_rep {n i : Nat} : ¬ on (List.replicate n false) i := by
  unfold on
  rw [List.getElem?_replicate]
  split <;> simp
/-- While the pairs D are gone through: l0 what was marked at the round's head, l what is marked now, ag whether something has turned. R: what may be marked; S: what is marked from the start. -/
structure PassN (R S : Nat → Prop) (m : Nat) (l0 : List Bool) (D : List (Nat × Nat)) (l : List Bool) (ag : Bool) : Prop where
  len : l.length = m
  sub : ∀ s, on l s → R s
  frm : ∀ s, S s → on l s
  up : ag = true → l.count false < l0.count false
  cl : ag = false → l = l0 ∧ ∀ e ∈ D, on l e.1 → on l e.2
section
variable {R S : Nat → Prop} {m : Nat} {l0 l : List Bool} {D : List (Nat × Nat)} {ag : Bool}
theorem PassN.start (hl : l.length = m) (h1 : ∀ s, on l s → R s) (h2 : ∀ s, S s → on l s) : PassN R S m l [] l false :=
  ⟨hl, h1, h2, nofun, fun _ => ⟨rfl, by simp⟩⟩
theorem PassN.skip (h : PassN R S m l0 D l ag) (X : List (Nat × Nat)) (hn : ∀ e ∈ X, on l e.1 → on l e.2) : PassN R S m l0 (D ++ X) l ag :=
  ⟨h.len, h.sub, h.frm, h.up, fun e => ⟨(h.cl e).1, fun y hy => by
    rcases List.mem_append.1 hy with hy | hy
    · exact (h.cl e).2 y hy
    · exact hn y hy⟩⟩
theorem PassN.hit (h : PassN R S m l0 D l ag) {x y : Nat} (D' : List (Nat × Nat)) (hx : on l x) (hy : l[y]? = some false) (hR : R x → R y) : PassN R S m l0 D' (l.set y true) true := by
  have hlt := (List.getElem?_eq_some_iff.1 hy).1
  refine ⟨by simp [h.len], fun s hs => ?_, fun s hs => (on_set hlt).2 (.inr (h.frm s hs)), fun _ => ?_, nofun⟩
  · rcases (on_set hlt).1 hs with rfl | hs
    · exact hR (h.sub x hx)
    · exact h.sub s hs
  · have h1 := count_set hy
    cases hag : ag with
    | true => have := h.up hag; omega
    | false => have := (h.cl hag).1; subst this; omega
end
/-! places as numbers -/
theorem plI_inj {w h : Nat} {s i j s' i' j' : Nat} (hi : i < w) (hi' : i' < w) (hj : j < h) (hj' : j' < h) (e : (s * w + i) * h + j = (s' * w + i') * h + j') : s = s' ∧ i = i' ∧ j = j' := by
  have e1 : (s * w + i) = (s' * w + i') ∧ j = j' := by
    have h1 : ((s * w + i) * h + j) / h = s * w + i := by rw [Nat.mul_comm, Nat.mul_add_div (by omega), Nat.div_eq_of_lt hj]; omega
    have h2 : ((s' * w + i') * h + j') / h = s' * w + i' := by rw [Nat.mul_comm, Nat.mul_add_div (by omega), Nat.div_eq_of_lt hj']; omega
    have h3 : s * w + i = s' * w + i' := by rw [← h1, ← h2, e]
    rw [h3] at e
    exact ⟨h3, by omega⟩
  have h1 : (s * w + i) / w = s := by rw [Nat.mul_comm, Nat.mul_add_div (by omega), Nat.div_eq_of_lt hi]; omega
  have h2 : (s' * w + i') / w = s' := by rw [Nat.mul_comm, Nat.mul_add_div (by omega), Nat.div_eq_of_lt hi']; omega
  have h3 : s = s' := by rw [← h1, ← h2, e1.1]
  subst h3
  exact ⟨rfl, by omega, e1.2⟩
theorem plI_lt {w h N s i j : Nat} (hs : s < N) (hi : i < w) (hj : j < h) : (s * w + i) * h + j < N * w * h := by
  have h1 : (s + 1) * w ≤ N * w := Nat.mul_le_mul_right w hs
  rw [Nat.add_mul, Nat.one_mul] at h1
  have h2 : (s * w + i + 1) * h ≤ N * w * h := Nat.mul_le_mul_right h (by omega)
  rw [Nat.add_mul (s * w + i) 1 h, Nat.one_mul] at h2
  omega
theorem pl_bound {w h N s i j : Nat} (hs : s < N) (hN : N ≤ 262144) (hi : i < w) (hw : w ≤ 64) (hj : j < h) (hh : h ≤ 64) : s * w ≤ 16777216 ∧ (s * w + i) * h ≤ 1073741824 ∧ s * w * h ≤ 1073741824 ∧ N * w ≤ 16777216 ∧ N * w * h ≤ 1073741824 := by
  have h1 := Nat.mul_le_mul (show s ≤ 262144 by omega) hw
  have h2 := Nat.mul_le_mul hN hw
  have h3 := Nat.mul_le_mul h2 hh
  have h4 := plI_lt hs hi (show 0 < h by omega)
  have h5 : s * w * h ≤ 16777216 * 64 := Nat.mul_le_mul h1 hh
  omega
/-- What may be marked: the places that are reached. -/
def plR (t : Tra) (xs ys : List Int) (w h : Nat) (k : Nat) : Prop := ∃ s i j : Nat, Reach (plN t xs ys) (· = ⟨t.start, 0, 0⟩) ⟨(s : Int), (i : Int), (j : Int)⟩ ∧ k = (s * w + i) * h + j
/-- The pairs of an arc. -/
def tgtB (xs ys : List Int) (x : Arc) (i j : Nat) : Bool := fitB xs (i : Int) x.inp && fitB ys (j : Int) x.out
def tgtK (xs ys : List Int) (x : Arc) (i j : Nat) : Int := if tgtB xs ys x i j = true then eatK i x.inp * ((ys.length : Int) + 1) + eatK j x.out else 0
def prE (xs ys : List Int) (w h : Nat) (x : Arc) (i j : Nat) : List (Nat × Nat) := if tgtB xs ys x i j = true then [((x.src.toNat * w + i) * h + j, (x.dst.toNat * w + (eatK i x.inp).toNat) * h + (eatK j x.out).toNat)] else []
def prJ (xs ys : List Int) (w h : Nat) (x : Arc) (i : Nat) : List (Nat × Nat) := (List.range h).flatMap (prE xs ys w h x i)
def prI (xs ys : List Int) (w h : Nat) (x : Arc) : List (Nat × Nat) := (List.range w).flatMap (prJ xs ys w h x)
section
variable {t : Tra} {m : Nat} {xs ys : List Int}
theorem pl_rng (hr : t.Rng m) {c : Place} (h : Reach (plN t xs ys) (· = ⟨t.start, 0, 0⟩) c) : ∃ s i j : Nat, c = ⟨(s : Int), (i : Int), (j : Int)⟩ ∧ s < m ∧ i ≤ xs.length ∧ j ≤ ys.length := by
  obtain ⟨i, j, h1, h2, h3, h4, hrun⟩ := pl_run h
  have hs : 0 ≤ c.state ∧ c.state < m := by
    clear h1 h2 hrun
    cases h with
    | base h => subst h; exact hr.start
    | tail _ hd => obtain ⟨x, hx, _, _, _, rfl⟩ := mem_plN.1 hd; exact (hr.arcs x hx).2
  exact ⟨c.state.toNat, i, j, by cases c; simp at *; omega, by omega, h3, h4⟩
theorem eat_nat {l : List Int} {i : Nat} {r : Int} (h : fitB l (i : Int) r = true) (hi : i ≤ l.length) : ∃ k : Nat, eatK i r = (k : Int) ∧ k ≤ l.length := by
  obtain ⟨k, h1, h2, _⟩ := fit_take h hi
  exact ⟨k, h1, h2⟩
/-- An arc's pair leads from what is reached to what is reached. -/
theorem plR_step (hr : t.Rng m) {x : Arc} (hx : x ∈ t.arcs) {i j : Nat} (hi : i ≤ xs.length) (hj : j ≤ ys.length) (hb : tgtB xs ys x i j = true) (h : plR t xs ys (xs.length + 1) (ys.length + 1) ((x.src.toNat * (xs.length + 1) + i) * (ys.length + 1) + j)) : plR t xs ys (xs.length + 1) (ys.length + 1) ((x.dst.toNat * (xs.length + 1) + (eatK i x.inp).toNat) * (ys.length + 1) + (eatK j x.out).toNat) := by
  obtain ⟨s, i', j', h1, h2⟩ := h
  obtain ⟨s2, i2, j2, e, _, hi2, hj2⟩ := pl_rng hr h1
  simp only [Place.mk.injEq] at e
  obtain ⟨rfl, rfl, rfl⟩ := plI_inj (w := xs.length + 1) (h := ys.length + 1) (by omega) (by omega) (by omega) (by omega) h2
  rw [tgtB, Bool.and_eq_true] at hb
  obtain ⟨k, e1, hk⟩ := eat_nat hb.1 hi
  obtain ⟨q, e2, hq⟩ := eat_nat hb.2 hj
  have hxr := hr.arcs x hx
  refine ⟨x.dst.toNat, k, q, .tail h1 (mem_plN.2 ⟨x, hx, (Int.toNat_of_nonneg hxr.1.1).symm, hb.1, hb.2, ?_⟩), by rw [e1, e2]; simp⟩
  simp only [Int.toNat_natCast, e1, e2, Place.mk.injEq, and_true]
  omega
/-- When nothing turns any more, what is marked is what is reached. -/
theorem plR_fin (hr : t.Rng m) {l : List Bool} (h1 : ∀ s, on l s → plR t xs ys (xs.length + 1) (ys.length + 1) s) (h2 : on l (t.start.toNat * (xs.length + 1) * (ys.length + 1))) (h3 : ∀ e ∈ t.arcs.flatMap (prI xs ys (xs.length + 1) (ys.length + 1)), on l e.1 → on l e.2) {s i j : Nat} (hi : i ≤ xs.length) (hj : j ≤ ys.length) :
    on l ((s * (xs.length + 1) + i) * (ys.length + 1) + j) ↔ Reach (plN t xs ys) (· = ⟨t.start, 0, 0⟩) ⟨(s : Int), (i : Int), (j : Int)⟩ := by
  constructor
  · intro h
    obtain ⟨s', i', j', h4, h5⟩ := h1 _ h
    obtain ⟨s2, i2, j2, e, _, hi2, hj2⟩ := pl_rng hr h4
    simp only [Place.mk.injEq] at e
    obtain ⟨rfl, rfl, rfl⟩ := plI_inj (w := xs.length + 1) (h := ys.length + 1) (by omega) (by omega) (by omega) (by omega) h5
    exact h4
  · intro h
    obtain ⟨c, hc⟩ : ∃ c : Place, c = ⟨(s : Int), (i : Int), (j : Int)⟩ := ⟨_, rfl⟩
    rw [← hc] at h
    clear hi hj
    induction h generalizing s i j with
    | base h =>
      subst h
      simp only [Place.mk.injEq] at hc
      obtain ⟨e1, e2, e3⟩ := hc
      have : i = 0 := by omega
      have : j = 0 := by omega
      subst_vars
      have : s = t.start.toNat := by omega
      subst this
      simpa using h2
    | @tail c d h hd ih =>
      obtain ⟨s', i', j', rfl, hs', hi', hj'⟩ := pl_rng hr h
      obtain ⟨x, hx, hxs, f1, f2, rfl⟩ := mem_plN.1 hd
      simp only [Int.toNat_natCast, Place.mk.injEq] at hc
      obtain ⟨e1, e2, e3⟩ := hc
      have h4 := ih rfl
      have hxr := hr.arcs x hx
      have h5 := h3 ((x.src.toNat * (xs.length + 1) + i') * (ys.length + 1) + j', (x.dst.toNat * (xs.length + 1) + (eatK i' x.inp).toNat) * (ys.length + 1) + (eatK j' x.out).toNat) (List.mem_flatMap.2 ⟨x, hx, List.mem_flatMap.2 ⟨i', List.mem_range.2 (by omega), List.mem_flatMap.2 ⟨j', List.mem_range.2 (by omega), by rw [prE, if_pos (by rw [tgtB, Bool.and_eq_true]; exact ⟨f1, f2⟩)]; simp⟩⟩⟩) (by
        have : x.src.toNat = s' := by simp only [] at hxs; omega
        rw [this]; exact h4)
      simp only [e1, e2, e3, Int.toNat_natCast] at h5
      exact h5
end
open Classical in
noncomputable def relB (t : Tra) (xs ys : List Int) : Bool := decide (Rel t xs ys)
theorem relB_iff {t : Tra} {xs ys : List Int} : relB t xs ys = true ↔ Rel t xs ys := by simp [relB]
theorem relB_false {t : Tra} {xs ys : List Int} : relB t xs ys = false ↔ ¬ Rel t xs ys := by simp [relB]
end Go.Proofs.YtmjieefhjmiagaaGreatDoor.G
