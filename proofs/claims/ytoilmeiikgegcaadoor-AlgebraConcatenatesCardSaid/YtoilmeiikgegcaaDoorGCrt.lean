/- Closures by certificate: small transducers trimmed by deciding. Plain Lean. -/
import Derived.Test.YtoilmeiikgegcaaDoorGAsl
set_option linter.all false
namespace Go.Proofs.YtoilmeiikgegcaaDoor.G
open Go Go.RowKit
/-- Each is in base or follows an earlier one. -/
def disc {α : Type} [DecidableEq α] (E : α → List α) (base : List α) : List α → List α → Bool
  | _, [] => true
  | seen, x :: l => (decide (x ∈ base) || seen.any fun v => decide (x ∈ E v)) && disc E base (x :: seen) l
theorem disc_reach {α : Type} [DecidableEq α] {E : α → List α} {base : List α} : ∀ {l seen : List α}, disc E base seen l = true → (∀ x ∈ seen, Reach E (· ∈ base) x) → ∀ x ∈ l, Reach E (· ∈ base) x
  | [], _, _, _, x, hx => by simp at hx
  | y :: l, seen, h, hs, x, hx => by
    rw [disc, Bool.and_eq_true] at h
    have hy : Reach E (· ∈ base) y := by
      rcases Bool.or_eq_true_iff.1 h.1 with h1 | h1
      · exact .base (by simpa using h1)
      · obtain ⟨v, hv, h2⟩ := List.any_eq_true.1 h1
        exact .tail (hs v hv) (by simpa using h2)
    rcases List.mem_cons.1 hx with rfl | hx
    · exact hy
    · exact disc_reach h.2 (fun z hz => by
        rcases List.mem_cons.1 hz with rfl | hz
        · exact hy
        · exact hs z hz) x hx
def closedB {α : Type} [DecidableEq α] (E : α → List α) (base K : List α) : Bool := (base.all fun x => decide (x ∈ K)) && (K.all fun x => (E x).all fun y => decide (y ∈ K)) && disc E base [] K
theorem cert {α : Type} [DecidableEq α] {E : α → List α} {base K : List α} (h : closedB E base K = true) (x : α) : x ∈ K ↔ Reach E (· ∈ base) x := by
  simp only [closedB, Bool.and_eq_true, List.all_eq_true, decide_eq_true_eq] at h
  obtain ⟨⟨h1, h2⟩, h3⟩ := h
  constructor
  · exact disc_reach h3 (fun x hx => by simp at hx) x
  · intro hr
    induction hr with
    | base hb => exact h1 _ hb
    | tail _ hy ih => exact h2 _ ih _ hy
theorem reach_cg {α : Type} {E : α → List α} {S S' : α → Prop} (h : ∀ x, S x ↔ S' x) {s : α} (k : Reach E S s) : Reach E S' s := by
  induction k with
  | base hb => exact .base ((h _).1 hb)
  | tail _ hy ih => exact .tail ih hy
def kpC (U D : List Int) (i : Nat) : Bool := decide ((i : Int) ∈ U) && decide ((i : Int) ∈ D)
theorem kp_cert {t : Tra} {U D : List Int} (hU : closedB (stp t true) [t.start] U = true) (hD : closedB (stp t false) t.finals D = true) : kpS t = kpC U D := funext fun i => by
  rw [Bool.eq_iff_iff, kpS_iff, kpC, Bool.and_eq_true, decide_eq_true_eq, decide_eq_true_eq, cert hU, cert hD]
def finC (kp : Nat → Bool) (t : Tra) (m : Nat) : List Int := ((List.range m).filter fun i => kp i && decide ((i : Int) ∈ t.finals)).map fun i => (rk kp i : Int)
def arcC (kp : Nat → Bool) (x : Arc) : List Arc := if (kp x.src.toNat && kp x.dst.toNat) = true then [⟨(rk kp x.src.toNat : Int), (rk kp x.dst.toNat : Int), x.inp, x.out⟩] else []
theorem canon_is {l l' : List Arc} (hs : l'.Pairwise ltArc) (h1 : ∀ z ∈ l, z ∈ l') (h2 : ∀ z ∈ l', z ∈ l) : canon l = l' :=
  sorted_ext (canon_sorted l) hs fun z => by rw [mem_canon]; exact ⟨h1 z, h2 z⟩
instance (x y : Arc) : Decidable (ltArc x y) := by unfold ltArc; infer_instance
/-- A transducer trimmed, by certificate. -/
theorem trim_cert {t : Tra} {m : Nat} {U D F : List Int} {A : List Arc} {n s : Nat} (hU : closedB (stp t true) [t.start] U = true) (hD : closedB (stp t false) t.finals D = true) (hk : kpC U D t.start.toNat = true) (hn : rk (kpC U D) m = n) (hs : rk (kpC U D) t.start.toNat = s)
    (hF : finC (kpC U D) t m = F) (hA : A.Pairwise ltArc) (h1 : ∀ z ∈ t.arcs.flatMap (arcC (kpC U D)), z ∈ A) (h2 : ∀ z ∈ A, z ∈ t.arcs.flatMap (arcC (kpC U D))) : TrimS t m = ⟨n, s, F, A⟩ := by
  have e := kp_cert hU hD
  have ea : arcS t = arcC (kpC U D) := funext fun x => by unfold arcS arcC; rw [e]
  unfold TrimS
  rw [e, if_pos hk, hn, hs, ea, canon_is hA h1 h2]
  congr 1
  unfold finS
  rw [e]
  exact hF
theorem fin_cert {t u : Tra} {m : Nat} (h : TrimS t m = u) (h1 : u.states ≤ 512) (h2 : u.arcs.length ≤ 4096) : FinS t m = (u, 0) := by
  rw [FinS, h, limS, if_neg]
  simp only [Bool.or_eq_true, decide_eq_true_eq]
  omega
theorem rel_cert {t : Tra} {xs ys : List Int} {K : List Place} (h : closedB (plN t xs ys) [⟨t.start, 0, 0⟩] K = true) : relB t xs ys = K.any (accB t xs ys) := by
  rw [Bool.eq_iff_iff, relB_iff, rel_iff, List.any_eq_true]
  have hc : ∀ c, c ∈ K ↔ Reach (plN t xs ys) (· = ⟨t.start, 0, 0⟩) c := fun c => by
    rw [cert h]
    exact ⟨reach_cg fun x => by simp, reach_cg fun x => by simp⟩
  constructor
  · rintro ⟨f, hf, hr⟩
    exact ⟨_, (hc _).2 hr, by simp [accB, hf]⟩
  · rintro ⟨c, hk, ha⟩
    simp only [accB, Bool.and_eq_true, decide_eq_true_eq] at ha
    refine ⟨c.state, ha.2, ?_⟩
    rw [← ha.1.1, ← ha.1.2]
    exact (hc c).1 hk
end Go.Proofs.YtoilmeiikgegcaaDoor.G
