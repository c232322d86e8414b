/- The references of the algebra: the same constructions, their parts in another order. Plain Lean. -/
import Derived.Test.YtoilmeiikgegcaaDoorGAsl
set_option linter.all false
namespace Go.Proofs.YtoilmeiikgegcaaDoor.G
open Go Go.RowKit
def dmA (x : Arc) : Arc := ⟨x.src, x.dst, x.inp, x.inp⟩
def rnA (x : Arc) : Arc := ⟨x.src, x.dst, x.out, x.out⟩
theorem trim_mem {t : Tra} {F : List Int} {B : List Arc} {m : Nat} (hf : ∀ x, x ∈ F ↔ x ∈ t.finals) (ha : ∀ x, x ∈ B ↔ x ∈ t.arcs) : TrimS ⟨t.states, t.start, F, B⟩ m = TrimS t m := by
  have hs : ∀ fwd s r, r ∈ stp ⟨t.states, t.start, F, B⟩ fwd s ↔ r ∈ stp t fwd s := fun fwd s r => by
    rw [mem_stp, mem_stp]
    exact exists_congr fun x => and_congr (ha x) Iff.rfl
  have key : ∀ {E E' : Int → List Int} {S S' : Int → Prop}, (∀ s r, r ∈ E s ↔ r ∈ E' s) → (∀ x, S x ↔ S' x) → ∀ s, Reach E S s ↔ Reach E' S' s := fun {E E' S S'} h1 h2 s => by
    constructor
    · intro k
      induction k with
      | base hb => exact .base ((h2 _).1 hb)
      | tail _ hy ih => exact .tail ih ((h1 _ _).1 hy)
    · intro k
      induction k with
      | base hb => exact .base ((h2 _).2 hb)
      | tail _ hy ih => exact .tail ih ((h1 _ _).2 hy)
  have hk : kpS ⟨t.states, t.start, F, B⟩ = kpS t := funext fun i => by
    rw [Bool.eq_iff_iff, kpS_iff, kpS_iff]
    exact and_congr (key (hs true) (fun _ => Iff.rfl) _) (key (hs false) hf _)
  have hfin : finS ⟨t.states, t.start, F, B⟩ m = finS t m := by
    unfold finS
    rw [hk]
    congr 1
    exact List.filter_congr fun i _ => by rw [decide_eq_decide.2 (hf (i : Int))]
  have harc : arcS ⟨t.states, t.start, F, B⟩ = arcS t := funext fun x => by unfold arcS; rw [hk]
  unfold TrimS
  rw [hk, hfin, harc]
  have hc : canon (B.flatMap (arcS t)) = canon (t.arcs.flatMap (arcS t)) := canon_congr fun z => by
    rw [List.mem_flatMap, List.mem_flatMap]
    exact exists_congr fun x => and_congr (ha x) Iff.rfl
  simp only [hc]
theorem fin_mem {t : Tra} {F : List Int} {B : List Arc} {m : Nat} (hf : ∀ x, x ∈ F ↔ x ∈ t.finals) (ha : ∀ x, x ∈ B ↔ x ∈ t.arcs) : FinS ⟨t.states, t.start, F, B⟩ m = FinS t m := by
  rw [FinS, FinS, trim_mem hf ha]
theorem rng_mem {t : Tra} {F : List Int} {B : List Arc} {m : Nat} (hr : t.Rng m) (hf : ∀ x, x ∈ F ↔ x ∈ t.finals) (ha : ∀ x, x ∈ B ↔ x ∈ t.arcs) : Tra.Rng ⟨t.states, t.start, F, B⟩ m :=
  ⟨hr.start, fun f h => hr.fin f ((hf f).1 h), fun x h => hr.arcs x ((ha x).1 h)⟩
section
variable {a b : Tra} {m : Nat}
def uniR (a b : Tra) : Tra := ⟨1 + a.states + b.states, 0, a.finals.map (· + 1) ++ b.finals.map (· + (1 + a.states)), (a.arcs.map (shA 1) ++ b.arcs.map (shA (1 + a.states))) ++ [epsA 0 (1 + a.start), epsA 0 (1 + a.states + b.start)]⟩
def conR (a b : Tra) : Tra := ⟨a.states + b.states, a.start, b.finals.map (· + a.states), (a.arcs.map (shA 0) ++ b.arcs.map (shA a.states)) ++ a.finals.map fun f => epsA f (a.states + b.start)⟩
def staR (a : Tra) : Tra := ⟨1 + a.states, 0, [0], (a.arcs.map (shA 1) ++ [epsA 0 (1 + a.start)]) ++ a.finals.map fun f => epsA (1 + f) 0⟩
def revR (a : Tra) : Tra := ⟨1 + a.states, 0, [1 + a.start], a.arcs.map revA ++ a.finals.map fun f => epsA 0 (1 + f)⟩
theorem map_comm (l : List Int) (k : Int) : l.map (· + k) = l.map (k + ·) := List.map_congr_left fun x _ => Int.add_comm x k
theorem uniR_f (x : Int) : x ∈ (uniR a b).finals ↔ x ∈ (uniT a b).finals := by
  simp only [uniR, uniT, map_comm]
theorem uniR_a (x : Arc) : x ∈ (uniR a b).arcs ↔ x ∈ (uniT a b).arcs := by
  simp only [uniR, uniT, List.mem_append]
  constructor
  · rintro ((h | h) | h)
    · exact .inl (.inr h)
    · exact .inr h
    · exact .inl (.inl h)
  · rintro ((h | h) | h)
    · exact .inr h
    · exact .inl (.inl h)
    · exact .inl (.inr h)
theorem uniR_fin {k : Nat} : FinS (uniR a b) k = FinS (uniT a b) k := fin_mem (t := uniT a b) uniR_f uniR_a
theorem uniR_rng (h : (uniT a b).Rng m) : (uniR a b).Rng m := rng_mem h uniR_f uniR_a
theorem shift_sorted {l : List Int} (k : Int) (h : l.Pairwise (· < ·)) : (l.map (· + k)).Pairwise (· < ·) := by
  rw [List.pairwise_map]
  exact h.imp fun h => by omega
theorem uniR_sorted (ha : validT a = true) (hb : validT b = true) : (uniR a b).finals.Pairwise (· < ·) := by
  obtain ⟨m, hm, _, _, ra, _⟩ := valid_all ha
  obtain ⟨n, hn, _, _, rb, _⟩ := valid_all hb
  refine List.pairwise_append.2 ⟨shift_sorted 1 (validT_sorted ha), shift_sorted _ (validT_sorted hb), fun x hx y hy => ?_⟩
  obtain ⟨f, hf, rfl⟩ := List.mem_map.1 hx
  obtain ⟨g, hg, rfl⟩ := List.mem_map.1 hy
  have := ra.fin f hf
  have := rb.fin g hg
  omega
theorem conR_eq : conR a b = conT a b := by
  unfold conR conT
  rw [map_comm]
theorem conR_sorted (hb : validT b = true) : (conR a b).finals.Pairwise (· < ·) := shift_sorted _ (validT_sorted hb)
theorem staR_a (x : Arc) : x ∈ (staR a).arcs ↔ x ∈ (staT a).arcs := by
  simp only [staR, staT, List.mem_append]
  constructor
  · rintro ((h | h) | h)
    · exact .inl (.inr h)
    · exact .inl (.inl h)
    · exact .inr h
  · rintro ((h | h) | h)
    · exact .inl (.inr h)
    · exact .inl (.inl h)
    · exact .inr h
theorem staR_fin {k : Nat} : FinS (staR a) k = FinS (staT a) k := fin_mem (t := staT a) (fun _ => Iff.rfl) staR_a
theorem staR_rng (h : (staT a).Rng m) : (staR a).Rng m := rng_mem h (fun _ => Iff.rfl) staR_a
theorem revR_a (x : Arc) : x ∈ (revR a).arcs ↔ x ∈ (revT a).arcs := by
  simp only [revR, revT, List.mem_append]
  exact or_comm
theorem revR_fin {k : Nat} : FinS (revR a) k = FinS (revT a) k := fin_mem (t := revT a) (fun _ => Iff.rfl) revR_a
theorem revR_rng (h : (revT a).Rng m) : (revR a).Rng m := rng_mem h (fun _ => Iff.rfl) revR_a
end
/-! what the walk of Valid leans on -/
theorem inR_or (x m : Int) : (!(inR x m)) = (decide (x < 0) || decide (m ≤ x)) := by
  unfold inR
  by_cases h1 : 0 ≤ x <;> by_cases h2 : x < m <;> simp [h1, h2] <;> omega
theorem arcOk_or (m : Int) (x : Arc) : arcOk m x = !(((((decide (x.src < 0) || decide (m ≤ x.src)) || decide (x.dst < 0)) || decide (m ≤ x.dst)) || !(vRune x.inp)) || !(vRune x.out)) := by
  unfold arcOk
  rw [inR_or, inR_or]
  simp only [Bool.or_assoc]
theorem valid_split (t : Tra) : validT t = ((!((decide (t.states < 1) || decide (512 < t.states)) || decide (4096 < (t.arcs.length : Int))) && inR t.start t.states) && ((List.range t.finals.length).all (finAt t.states t.finals) && t.arcs.all (arcOk t.states))) := by
  unfold validT
  simp only [Bool.and_assoc]
  congr 1
  rw [Bool.and_comm (inR t.start t.states)]
  simp only [Bool.and_assoc]
theorem valid_head (t : Tra) : (!((decide (t.states < 1) || decide (512 < t.states)) || decide (4096 < (t.arcs.length : Int))) && inR t.start t.states) = !((((decide (t.states < 1) || decide (512 < t.states)) || decide (4096 < (t.arcs.length : Int))) || decide (t.start < 0)) || decide (t.states ≤ t.start)) := by
  have h : inR t.start t.states = !(decide (t.start < 0) || decide (t.states ≤ t.start)) := by rw [← inR_or]; simp
  rw [h]
  simp only [Bool.not_or, Bool.and_assoc]
end Go.Proofs.YtoilmeiikgegcaaDoor.G
