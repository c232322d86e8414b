/- What Compose makes, in plain Lean. -/
import Derived.Test.YtmjieefhjmiagaaDoorGOrd
set_option linter.all false
namespace Go.Proofs.YtmjieefhjmiagaaDoor.G
open Go Go.RowKit Go.Sort Go.Shelf
theorem srtP_perm {xs ys : List Pair} (h : xs.Perm ys) : srtP xs = srtP ys := by
  have tr : ∀ a b c : Pair, (!(ltOf ordP) b a) = true → (!(ltOf ordP) c b) = true → (!(ltOf ordP) c a) = true := fun a b c h1 h2 => by
    simp only [Bool.not_eq_true'] at *
    exact swoP.ntrans _ _ _ h2 h1
  have to : ∀ a b : Pair, (!(ltOf ordP) b a || !(ltOf ordP) a b) = true := fun a b => by
    cases h1 : ltOf ordP b a with
    | false => rfl
    | true =>
      cases h2 : ltOf ordP a b with
      | false => rfl
      | true => have := swoP.trans _ _ _ h1 h2; rw [swoP.irrefl] at this; cases this
  refine List.Perm.eq_of_pairwise (le := fun a b => (!(ltOf ordP) b a) = true) (fun a b _ _ h1 h2 => ?_) (List.pairwise_mergeSort tr to xs) (List.pairwise_mergeSort tr to ys) ((List.mergeSort_perm xs _).trans (h.trans (List.mergeSort_perm ys _).symm))
  simp only [Bool.not_eq_true'] at h1 h2
  exact totP a b h2 h1
theorem srtP_mem {xs : List Pair} {x : Pair} : x ∈ srtP xs ↔ x ∈ xs := (List.mergeSort_perm xs _).mem_iff
theorem srtP_nodup {xs : List Pair} (h : xs.Nodup) : (srtP xs).Nodup := (List.mergeSort_perm xs _).nodup_iff.2 h
theorem srtP_len (xs : List Pair) : (srtP xs).length = xs.length := List.length_mergeSort xs
theorem srtA_len (xs : List Arc) : (srtA xs).length = xs.length := List.length_mergeSort xs
def numF : Nat → List Pair → List (Pair × Int)
  | _, [] => []
  | i, s :: l => (s, (i : Int)) :: numF (i + 1) l
theorem numF_snoc : ∀ (i : Nat) (l : List Pair) (s : Pair), numF i (l ++ [s]) = numF i l ++ [(s, ((i + l.length : Nat) : Int))]
  | i, [], s => by simp [numF]
  | i, x :: l, s => by
    simp only [List.cons_append, numF, numF_snoc (i + 1) l s, List.length_cons]
    rw [show i + 1 + l.length = i + (l.length + 1) by omega]
theorem numF_keys : ∀ (i : Nat) (l : List Pair), (numF i l).map (·.1) = l
  | _, [] => rfl
  | i, x :: l => by simp [numF, numF_keys (i + 1) l]
def num (sts : List Pair) (s : Pair) : Int := (aget (numF 0 sts) s).getD 0
def isFin (a b : Tra) (s : Pair) : Bool := decide (s.p ∈ a.finals) && decide (s.q ∈ b.finals)
def finF (a b : Tra) : Nat → List Pair → List Int
  | _, [] => []
  | i, s :: l => (if isFin a b s then [(i : Int)] else []) ++ finF a b (i + 1) l
theorem finF_snoc (a b : Tra) : ∀ (i : Nat) (l : List Pair) (s : Pair), finF a b i (l ++ [s]) = finF a b i l ++ if isFin a b s then [((i + l.length : Nat) : Int)] else []
  | i, [], s => by simp [finF]
  | i, x :: l, s => by
    simp only [List.cons_append, finF, finF_snoc a b (i + 1) l s, List.length_cons, List.append_assoc]
    rw [show i + 1 + l.length = i + (l.length + 1) by omega]
theorem finF_len (a b : Tra) : ∀ (i : Nat) (l : List Pair), (finF a b i l).length ≤ l.length
  | _, [] => by simp [finF]
  | i, x :: l => by
    have := finF_len a b (i + 1) l
    simp only [finF, List.length_append, List.length_cons]
    split <;> simp <;> omega
def arcF (sts U : List Pair) (e : Edge) : List Arc := if decide (e.src ∈ U) && decide (e.dst ∈ U) then [⟨num sts e.src, num sts e.dst, e.inp, e.out⟩] else []
theorem arcF_len (sts U : List Pair) (e : Edge) : (arcF sts U e).length ≤ 1 := by unfold arcF; split <;> simp
theorem dedupC_len {α : Type} [DecidableEq α] : ∀ l : List α, (dedupC l).length ≤ l.length
  | [] => by simp [dedupC]
  | [x] => by simp [dedupC]
  | x :: y :: l => by
    have := dedupC_len (y :: l)
    rw [dedupC]
    split
    · simp at this ⊢; omega
    · simp at this ⊢; omega
/-- The composition's states, arcs. -/
def cmpArcs (a b : Tra) (K U : List Pair) : List Arc := dedupC (srtA ((K.flatMap (compE a b)).flatMap (arcF (srtP U) U)))
def cmpTra (a b : Tra) (K U : List Pair) : Tra := ⟨(U.length : Int), num (srtP U) ⟨a.start, b.start⟩, finF a b 0 (srtP U), cmpArcs a b K U⟩
def zeroTra : Tra := ⟨0, 0, [], []⟩
def oneTra : Tra := ⟨1, 0, [], []⟩
/-- What Compose answers. -/
def CmpRes (a b t : Tra) (e : Int) : Prop :=
  if (!(validT a) || !(validT b)) = true then t = zeroTra ∧ e = 1 else
  ∃ K U : List Pair, Closure (compN a b) (· = ⟨a.start, b.start⟩) K ∧ Closure (bk (K.flatMap (compE a b))) (fun x => x ∈ K ∧ x.p ∈ a.finals ∧ x.q ∈ b.finals) U ∧
    if (⟨a.start, b.start⟩ : Pair) ∉ U then t = oneTra ∧ e = 0
    else if 512 < U.length then t = zeroTra ∧ e = 2
    else if 4096 < (cmpArcs a b K U).length then t = zeroTra ∧ e = 2
    else t = cmpTra a b K U ∧ e = 0
/-- Validity, spelt out. -/
theorem validT_ok {t : Tra} (h : validT t = true) : ∃ m : Nat, t.Ok m ∧ t.finals.Nodup ∧ t.finals.length ≤ 512 := by
  simp only [validT, Bool.and_eq_true, Bool.not_eq_true', Bool.or_eq_false_iff, decide_eq_false_iff_not] at h
  obtain ⟨⟨⟨h1, h2⟩, h3⟩, ⟨h4, h5⟩, h6⟩ := h
  simp only [inR, Bool.and_eq_true, decide_eq_true_eq] at h6
  have hfin : ∀ i, i < t.finals.length → (0 ≤ t.finals.getD i 0 ∧ t.finals.getD i 0 < t.states) ∧ (0 < i → t.finals.getD (i - 1) 0 < t.finals.getD i 0) := fun i hi => by
    have := List.all_eq_true.1 h4 i (List.mem_range.2 hi)
    simp only [finAt, Bool.not_eq_true', Bool.or_eq_false_iff, inR, Bool.and_eq_false_imp, Bool.not_eq_false', Bool.and_eq_true, decide_eq_true_eq] at this
    refine ⟨this.1, fun h0 => ?_⟩
    have := this.2 (by omega)
    simpa using this
  have hmono : ∀ j, j < t.finals.length → ∀ i, i < j → t.finals.getD i 0 < t.finals.getD j 0 := by
    intro j
    induction j with
    | zero => intro _ i hi; omega
    | succ j ih =>
      intro hj i hi
      have h1 := (hfin (j + 1) hj).2 (by omega)
      simp only [Nat.add_sub_cancel] at h1
      by_cases e : i = j
      · subst e; exact h1
      · exact Int.lt_trans (ih (by omega) i (by omega)) h1
  have hnd : t.finals.Nodup := by
    refine List.pairwise_iff_getElem.2 fun i j hi hj hij he => ?_
    have := hmono j hj i hij
    rw [getD_of (List.getElem?_eq_getElem hj), getD_of (List.getElem?_eq_getElem hi), he] at this
    omega
  have hlen : t.finals.length ≤ t.states.toNat := by
    have := hnd.length_le_of_subset (l₂ := (List.range t.states.toNat).map fun (i : Nat) => (i : Int)) (fun x hx => by
      obtain ⟨i, hi⟩ := List.getElem?_of_mem hx
      have h := hfin i (List.getElem?_eq_some_iff.1 hi).1
      rw [getD_of hi] at h
      exact List.mem_map.2 ⟨x.toNat, List.mem_range.2 (by omega), by omega⟩)
    simpa using this
  refine ⟨t.states.toNat, ⟨by omega, by omega, by omega, by omega, fun x hx => ?_, by omega⟩, hnd, by omega⟩
  have := List.all_eq_true.1 h5 x hx
  simp only [arcOk, Bool.not_eq_true', Bool.or_eq_false_iff, Bool.not_eq_false', inR, Bool.and_eq_true, decide_eq_true_eq] at this
  omega
end Go.Proofs.YtmjieefhjmiagaaDoor.G
