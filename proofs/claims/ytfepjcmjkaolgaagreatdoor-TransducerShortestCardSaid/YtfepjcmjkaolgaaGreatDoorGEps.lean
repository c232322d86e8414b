/- Steps that read nothing; what an arc costs. Plain Lean. -/
/- Which transducers are sequential. Plain Lean. -/
import Derived.Test.YtfepjcmjkaolgaaGreatDoorGTrm
set_option linter.all false
namespace Go.Proofs.YtfepjcmjkaolgaaGreatDoor.G
open Go Go.RowKit
def epsN (t : Tra) (s : Int) : List Int := ((t.outs s).filter fun z_ : Arc => decide (z_.inp = 0)).map (·.dst)
theorem eps_len (t : Tra) (s : Int) : (epsN t s).length ≤ t.arcs.length := by
  rw [epsN, List.length_map]
  exact Nat.le_trans (List.length_filter_le _ _) (List.length_filter_le _ _)
theorem eps_rng {t : Tra} {m : Nat} (hxs : ∀ x ∈ t.arcs, (0 ≤ x.src ∧ x.src < m) ∧ 0 ≤ x.dst ∧ x.dst < m) {fr : List Int} (hfr : ∀ f ∈ fr, 0 ≤ f ∧ f < m) {s : Int} (h : Reach (epsN t) (· ∈ fr) s) : 0 ≤ s ∧ s < m := by
  cases h with
  | base h => exact hfr _ h
  | tail _ hm =>
    obtain ⟨x, hx, rfl⟩ := List.mem_map.1 hm
    exact (hxs x (List.mem_filter.1 (List.mem_filter.1 hx).1).1).2
def costA (x : Arc) : Int := (if x.inp = 0 then 0 else 1) + (if x.out = 0 then 0 else 1)
def readA (x : Arc) : Int := if x.inp = 0 then 0 else 1
/-! Step -/
def frS (t : Tra) (ss : List Int) : List Int := ss.filter fun s_ : Int => decide (0 ≤ s_) && decide (s_ < t.states)
theorem frS_rng {t : Tra} {m : Nat} (hm : t.states = m) {ss : List Int} : ∀ f ∈ frS t ss, 0 ≤ f ∧ f < m := fun f hf => by
  have := (List.mem_filter.1 hf).2
  rw [Bool.and_eq_true, decide_eq_true_eq, decide_eq_true_eq, hm] at this
  exact this
def stB (r : Int) (b : Bool) (z : Arc) : Bool := b && decide (z.inp = r)
def nxR (t : Tra) (bs : List Bool) (r : Int) (k : Nat) : List Int := (List.range k).flatMap fun (s_ : Nat) => ((t.outs (s_ : Int)).filter (stB r (bs.getD s_ false))).map (·.dst)
theorem nxR_succ {t : Tra} {bs : List Bool} {r : Int} {k : Nat} : nxR t bs r (k + 1) = nxR t bs r k ++ ((t.outs (k : Int)).filter (stB r (bs.getD k false))).map (·.dst) := by
  rw [nxR, List.range_succ, List.flatMap_append]; simp [nxR]
def onL (bs : List Bool) (k : Nat) : List Int := ((List.range k).filter fun s_ => bs.getD s_ false).map fun (s_ : Nat) => (s_ : Int)
theorem onL_yes {bs : List Bool} {k : Nat} (h : bs.getD k false = true) : onL bs (k + 1) = onL bs k ++ [(k : Int)] := by
  rw [onL, List.range_succ, List.filter_append, List.map_append, List.filter_cons, h]; rfl
theorem onL_no {bs : List Bool} {k : Nat} (h : bs.getD k false = false) : onL bs (k + 1) = onL bs k := by
  rw [onL, List.range_succ, List.filter_append, List.map_append, List.filter_cons, h]; simp [onL]
theorem onL_len {bs : List Bool} {k : Nat} : (onL bs k).length ≤ k := by
  rw [onL, List.length_map]
  exact Nat.le_trans (List.length_filter_le _ _) (by simp)
theorem nxR_rng {t : Tra} {m : Nat} (hxs : ∀ x ∈ t.arcs, (0 ≤ x.src ∧ x.src < m) ∧ 0 ≤ x.dst ∧ x.dst < m) {bs : List Bool} {r : Int} {k : Nat} : ∀ f ∈ nxR t bs r k, 0 ≤ f ∧ f < m := fun f hf => by
  obtain ⟨s, _, h⟩ := List.mem_flatMap.1 hf
  obtain ⟨x, hx, rfl⟩ := List.mem_map.1 h
  exact (hxs x (List.mem_filter.1 (List.mem_filter.1 hx).1).1).2
theorem nxR_len (t : Tra) (bs : List Bool) (r : Int) (k : Nat) : (nxR t bs r k).length ≤ k * t.arcs.length := by
  induction k with
  | zero => simp [nxR]
  | succ k ih =>
    rw [nxR_succ, List.length_append, Nat.add_mul, Nat.one_mul]
    have : (((t.outs (k : Int)).filter (stB r (bs.getD k false))).map (·.dst)).length ≤ t.arcs.length := by rw [List.length_map]; exact Nat.le_trans (List.length_filter_le _ _) (t.outs_len _)
    omega
end Go.Proofs.YtfepjcmjkaolgaaGreatDoor.G

set_option linter.all false
namespace Go.Proofs.YtfepjcmjkaolgaaGreatDoor.G
open Go Go.RowKit
def lblA (x : Arc) : Lbl := ⟨x.src, x.inp⟩
/-- No arc reads nothing; no two arcs leave a state with the same rune. -/
def seqL : List Arc → Bool := fun l => decide ((∀ x ∈ l, x.inp ≠ 0) ∧ (l.map lblA).Nodup)
def seqS (t : Tra) : Bool := validT t && seqL t.arcs
theorem seqL_yes {l : List Arc} {x : Arc} (h : seqL l = true) (h0 : x.inp ≠ 0) (hn : lblA x ∉ l.map lblA) : seqL (l ++ [x]) = true := by
  simp only [seqL, decide_eq_true_eq] at h ⊢
  refine ⟨fun y hy => ?_, ?_⟩
  · rcases List.mem_append.1 hy with h1 | h1
    · exact h.1 y h1
    · rw [List.mem_singleton.1 h1]; exact h0
  · rw [List.map_append, List.nodup_append]
    refine ⟨h.2, by simp, fun a ha b hb e => ?_⟩
    rw [List.map_cons, List.map_nil, List.mem_singleton] at hb
    rw [e, hb] at ha
    exact hn ha
theorem seqL_no {l : List Arc} {k : Nat} {x : Arc} (hx : l[k]? = some x) (h : x.inp = 0 ∨ lblA x ∈ (l.take k).map lblA) : seqL l = false := by
  simp only [seqL, decide_eq_false_iff_not]
  rintro ⟨h1, h2⟩
  rcases h with h | h
  · exact h1 x (List.mem_of_getElem? hx) h
  · have e : l = l.take k ++ l.drop k := (List.take_append_drop k l).symm
    rw [e, List.map_append, List.nodup_append] at h2
    refine h2.2.2 (lblA x) h (lblA x) ?_ rfl
    exact List.mem_map.2 ⟨x, List.mem_of_getElem? (i := 0) (by rw [List.getElem?_drop]; simpa using hx), rfl⟩
theorem lbl_yes {x : Arc} {L : List Lbl} (h : (decide (x.inp = 0) || decide (lblA x ∈ L)) = true) : x.inp = 0 ∨ lblA x ∈ L := by simpa using h
theorem lbl_no {x : Arc} {L : List Lbl} (h : (decide (x.inp = 0) || decide (lblA x ∈ L)) = false) : x.inp ≠ 0 ∧ lblA x ∉ L := by simpa using h
end Go.Proofs.YtfepjcmjkaolgaaGreatDoor.G
