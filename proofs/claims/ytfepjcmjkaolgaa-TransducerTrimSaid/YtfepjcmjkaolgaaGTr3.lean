/- What the reference's Trim of the chapter on transducers computes; the first places of a slice that is read. -/
import Derived.Test.YtfepjcmjkaolgaaGRf3
set_option linter.all false
namespace Go.Proofs.Ytfepjcmjkaolgaa.G
open Go Go.RowKit
section
variable {P : Program} {α : Type} {E : ET P α}
theorem rd_cap3 {h : Heap} {u : SV} {xs : List α} (r : rdSl E h (sv u) xs) : xs.length ≤ u.2.2 := by
  obtain ⟨A, c, hv, h1, _⟩ := r
  obtain ⟨a, m, c'⟩ := u
  simp only [sv, Value.slice.injEq] at hv
  obtain ⟨_, _, rfl⟩ := hv
  exact h1
theorem rdTake {h : Heap} {u : SV} {xs : List α} {k : Nat} (r : rdSl E h (sv u) xs) (hk : k ≤ xs.length) : rdSl E h (sv (takeV u k)) (xs.take k) := by
  obtain ⟨A, c, hv, h1, h2, h3⟩ := r
  obtain ⟨a, m, c'⟩ := u
  simp only [sv, Value.slice.injEq] at hv
  obtain ⟨rfl, rfl, rfl⟩ := hv
  have hl : (xs.take k).length = k := by rw [List.length_take]; omega
  refine ⟨a, c', by rw [hl]; rfl, by omega, h2, fun hne => ?_⟩
  obtain ⟨b, o, rfl, hp⟩ := h3 (fun e => hne (by rw [e]; simp))
  have e1 : E.all xs = [] ++ E.all (xs.take k) ++ E.all (xs.drop k) := by rw [List.nil_append, ← E.all_append, List.take_append_drop]
  rw [e1] at hp
  exact ⟨b, o, rfl, hp.part⟩
end
section
variable {P : Program} {n : Nat} {ops : Array Oper} {e : Env} {dst : Option Tmp} {ty : TypeId} {pos : String} {af : Array Go.Edge} {w0 w : World} {I0 I : Heap} {L : List Res}
/-- A load that counts as an effect. -/
theorem e_ldb (i : Nat) {x : Operand} {b o : Nat} {T T0 : TypeId} {d : TypeDesc} {cs : List Value} {v : Value} (M : Mem w0 I0 I L w) (hu : P.underlying T = some d) (hd : oneKind d = true) (hi : L[i]? = some (box b T0 cs)) (hx : evo e x = some (.pointer (some ⟨b, o, none⟩))) (hv : cs[o]? = some v) :
    Eff P n ops ⟨dst, .load T x, ty, pos, af, none⟩ e w fun v' w' => v' = v ∧ Mem w0 I0 I L w' := by
  replace hx := ev_of hx
  exact Eff.run (by simp [execOp, hx, Instr.loadAt, Instr.sureAddr, load_box M i hu hd hi hv]) rfl ⟨rfl, M⟩
end
theorem kep_at {t : Tra} {m i : Nat} {kl : List Bool} (h : kl.length = m ∧ ∀ i, i < m → kl.getD i false = kpS t i) (hi : i < m) : kl[i]? = some (kpS t i) := by
  rw [getD_at (d := false) (by rw [h.1]; exact hi), h.2 i hi]
theorem kep_set {t : Tra} {m k : Nat} {l up : List Bool} {b : Bool} (h : l.length = m ∧ (∀ i, i < k → l.getD i false = kpS t i) ∧ ∀ i, k ≤ i → l.getD i false = up.getD i false) (hk : k < m) (hb : b = kpS t k) :
    (l.set k b).length = m ∧ (∀ i, i < k + 1 → (l.set k b).getD i false = kpS t i) ∧ ∀ i, k + 1 ≤ i → (l.set k b).getD i false = up.getD i false := by
  have hg : ∀ i, (l.set k b).getD i false = if i = k then b else l.getD i false := fun i => by
    rw [List.getD, List.getElem?_set]
    by_cases e : k = i
    · rw [if_pos e, if_pos e.symm, if_pos (by rw [h.1]; exact hk)]; rfl
    · rw [if_neg e, if_neg (fun h => e h.symm)]; rfl
  refine ⟨by rw [List.length_set, h.1], fun i hi => ?_, fun i hi => ?_⟩
  · rw [hg]; split
    · rename_i e; rw [e, hb]
    · exact h.2.1 i (by omega)
  · rw [hg, if_neg (by omega)]; exact h.2.2 i (by omega)
theorem empty3 {t : Tra} : (!(validT t) || !(kpS t t.start.toNat)) = emptyS t := by
  cases hv : validT t with
  | false => simp [emptyS, hv]
  | true =>
    obtain ⟨m, ha, _⟩ := valid_rng hv
    rw [empty_kp ha.start.1 hv]; simp
noncomputable def finR (t : Tra) (k : Nat) : List Int := ((List.range k).filter fun i => kpS t i && decide ((i : Int) ∈ t.finals)).map fun (i : Nat) => (rk (kpS t) i : Int)
theorem finR_yes {t : Tra} {k : Nat} (h1 : kpS t k = true) (h2 : decide ((k : Int) ∈ t.finals) = true) : finR t (k + 1) = finR t k ++ [(rk (kpS t) k : Int)] := by
  rw [finR, List.range_succ, List.filter_append, List.map_append, List.filter_cons, h1, h2]; rfl
theorem finR_no {t : Tra} {k : Nat} (h : (kpS t k && decide ((k : Int) ∈ t.finals)) = false) : finR t (k + 1) = finR t k := by
  rw [finR, List.range_succ, List.filter_append, List.map_append, List.filter_cons, h]; simp [finR]
theorem finR_len {t : Tra} {k : Nat} : (finR t k).length ≤ k := by
  rw [finR, List.length_map]
  exact Nat.le_trans (List.length_filter_le _ _) (by simp)
def nuR (kp : Nat → Bool) (m k : Nat) : List Int := (List.range k).map (fun (i : Nat) => (rk kp i : Int)) ++ List.replicate (m - k) 0
theorem nuR_len {kp : Nat → Bool} {m k : Nat} (h : k ≤ m) : (nuR kp m k).length = m := by simp [nuR]; omega
theorem nuR_set {kp : Nat → Bool} {m k : Nat} (hk : k < m) : (nuR kp m k).set k (rk kp k : Int) = nuR kp m (k + 1) := by
  obtain ⟨q, hq⟩ : ∃ q, m - k = q + 1 := ⟨m - k - 1, by omega⟩
  have h1 : m - (k + 1) = q := by omega
  rw [nuR, nuR, hq, h1, List.replicate_succ, List.set_append, if_neg (by simp), List.range_succ, List.map_append]
  simp
theorem nuR_at {kp : Nat → Bool} {m k i : Nat} (h : i < k) : (nuR kp m k)[i]? = some (rk kp i : Int) := by
  rw [nuR, List.getElem?_append_left (by simpa using h)]; simp [h]
theorem trim3_of {t : Tra} {m : Nat} (hv : validT t = true) (hst : t.states = m) (hk : kpS t t.start.toNat = true) : TrimP t = ⟨(rk (kpS t) m : Int), (rk (kpS t) t.start.toNat : Int), finR t m, canon (t.arcs.flatMap (arcS t))⟩ := by
  rw [trimP_of hv hst, TrimS, if_pos hk]; rfl
noncomputable def arcN (t : Tra) (x : Arc) : Arc := ⟨(rk (kpS t) x.src.toNat : Int), (rk (kpS t) x.dst.toNat : Int), x.inp, x.out⟩
theorem arcS_yes {t : Tra} {x : Arc} (h : (!(kpS t x.src.toNat) || !(kpS t x.dst.toNat)) = false) : arcS t x = [arcN t x] := by
  rw [arcS, if_pos]
  · rfl
  · rw [Bool.or_eq_false_iff, Bool.not_eq_false', Bool.not_eq_false'] at h
    rw [h.1, h.2]; rfl
theorem arcS_no {t : Tra} {x : Arc} (h : (!(kpS t x.src.toNat) || !(kpS t x.dst.toNat)) = true) : arcS t x = [] := by
  rw [arcS, if_neg]
  intro k
  rw [Bool.and_eq_true] at k
  rw [k.1, k.2] at h; cases h
theorem arcS_len (t : Tra) (x : Arc) : (arcS t x).length ≤ 1 := by unfold arcS; split <;> simp
theorem above_of {l : List Arc} (hs : l.Pairwise ltArc) {x : Arc} {k : Nat} (h : k = l.length ∨ ∃ y, l[k]? = some y ∧ ltArc x y) : ∀ y ∈ l.drop k, ltArc x y := by
  rcases h with rfl | ⟨z, hz, hlt⟩
  · simp
  · intro y hy
    rw [drop_cons hz] at hy
    rcases List.mem_cons.1 hy with rfl | hy
    · exact hlt
    · have e : l = l.take k ++ z :: l.drop (k + 1) := by rw [← drop_cons hz, List.take_append_drop]
      rw [e] at hs
      have := (List.pairwise_cons.1 (List.pairwise_append.1 hs).2.1).1 y hy
      exact ltArc_trans hlt this
theorem mem_take_snoc {l : List Arc} {k : Nat} {z x : Arc} (hz : l[k]? = some z) (h : ∀ y ∈ l.take k, ltArc y x) (hl : ltArc z x) : ∀ y ∈ l.take (k + 1), ltArc y x := fun y hy => by
  rw [take_snoc hz] at hy
  rcases List.mem_append.1 hy with hy | hy
  · exact h y hy
  · rw [List.mem_singleton.1 hy]; exact hl
theorem arc3_stop {l : List Arc} {k : Nat} {x : Arc} (hk : k ≤ l.length) (h1 : (decide ((k : Int) < (l.length : Int)) && ltOf ordA (l.getD k ⟨0, 0, 0, 0⟩) x) = false) (h2 : (decide ((k : Int) = (l.length : Int)) || !decide (l.getD k ⟨0, 0, 0, 0⟩ = x)) = true) : k = l.length ∨ ∃ y, l[k]? = some y ∧ ltArc x y := by
  by_cases e : k = l.length
  · exact .inl e
  · right
    have hz := getD_at (xs := l) (k := k) (d := ⟨0, 0, 0, 0⟩) (by omega)
    refine ⟨_, hz, ?_⟩
    rw [decide_eq_true (by omega), Bool.true_and, ltA'] at h1
    rw [decide_eq_false (by omega), Bool.false_or] at h2
    rcases ltArc_tri x (l.getD k ⟨0, 0, 0, 0⟩) with h | h | h
    · exact h
    · exact absurd h.symm (nd_t h2)
    · exact absurd h h1
theorem arc3_same {l : List Arc} {k : Nat} {x : Arc} (hk : k ≤ l.length) (h2 : (decide ((k : Int) = (l.length : Int)) || !decide (l.getD k ⟨0, 0, 0, 0⟩ = x)) = false) : x ∈ l := by
  rw [Bool.or_eq_false_iff] at h2
  have h3 := of_decide_eq_false h2.1
  rw [← nd_f h2.2]
  exact List.mem_of_getElem? (getD_at (by omega))
end Go.Proofs.Ytfepjcmjkaolgaa.G
