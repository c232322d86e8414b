/- The trimmed transducer, spelt out; what Compose makes is the trimmed raw composition. Plain Lean. -/
/- What a transducer relates: paths. Composition, trimming. Plain Lean. -/
import Derived.Test.YtfepjcmjkaolgaaGRef
set_option linter.all false
namespace Go.Proofs.Ytfepjcmjkaolgaa.G
open Go Go.RowKit Go.Sort Go.Shelf
theorem rk_mono {kp : Nat → Bool} {i j : Nat} (h : i ≤ j) : rk kp i ≤ rk kp j := by
  induction j with
  | zero => obtain rfl : i = 0 := by omega
            exact Nat.le_refl _
  | succ j ih =>
    by_cases e : i = j + 1
    · subst e; exact Nat.le_refl _
    · refine Nat.le_trans (ih (by omega)) ?_
      cases hk : kp j with
      | true => have := rk_hit hk; omega
      | false => rw [rk_skip hk]; exact Nat.le_refl _
theorem rk_lt {kp : Nat → Bool} {i j : Nat} (hk : kp i = true) (h : i < j) : rk kp i < rk kp j := by
  have h1 := rk_hit hk
  have h2 := rk_mono (kp := kp) (show i + 1 ≤ j by omega)
  omega
theorem isorted_ext {l l' : List Int} (h1 : l.Pairwise (· < ·)) (h2 : l'.Pairwise (· < ·)) (h : ∀ x, x ∈ l ↔ x ∈ l') : l = l' :=
  ((List.perm_ext_iff_of_nodup (h1.imp fun h => Int.ne_of_lt h) (h2.imp fun h => Int.ne_of_lt h)).2 h).eq_of_pairwise (fun a b _ _ x y => by omega) h1 h2
/-! the trimmed transducer -/
open Classical in
noncomputable def kpS (t : Tra) (i : Nat) : Bool := decide (Reach (stp t true) (· ∈ [t.start]) (i : Int)) && decide (Reach (stp t false) (· ∈ t.finals) (i : Int))
theorem kpS_iff {t : Tra} {i : Nat} : kpS t i = true ↔ Reach (stp t true) (· ∈ [t.start]) (i : Int) ∧ Reach (stp t false) (· ∈ t.finals) (i : Int) := by simp [kpS]
noncomputable def finS (t : Tra) (m : Nat) : List Int := ((List.range m).filter fun i => kpS t i && decide ((i : Int) ∈ t.finals)).map fun i => (rk (kpS t) i : Int)
noncomputable def arcS (t : Tra) (x : Arc) : List Arc := if (kpS t x.src.toNat && kpS t x.dst.toNat) = true then [⟨(rk (kpS t) x.src.toNat : Int), (rk (kpS t) x.dst.toNat : Int), x.inp, x.out⟩] else []
noncomputable def TrimS (t : Tra) (m : Nat) : Tra := if kpS t t.start.toNat = true then ⟨(rk (kpS t) m : Int), (rk (kpS t) t.start.toNat : Int), finS t m, canon (t.arcs.flatMap (arcS t))⟩ else oneTra
/-- All numbers are in range. -/
structure Tra.Rng (t : Tra) (m : Nat) : Prop where
  start : 0 ≤ t.start ∧ t.start < m
  fin : ∀ f ∈ t.finals, 0 ≤ f ∧ f < m
  arcs : ∀ x ∈ t.arcs, (0 ≤ x.src ∧ x.src < m) ∧ 0 ≤ x.dst ∧ x.dst < m
theorem finS_sorted (t : Tra) (m : Nat) : (finS t m).Pairwise (· < ·) := by
  unfold finS
  rw [List.pairwise_map]
  refine (List.pairwise_lt_range (n := m)).filter _ |>.imp_of_mem fun {a b} ha hb h => ?_
  have := (List.mem_filter.1 ha).2
  simp only [Bool.and_eq_true] at this
  have := rk_lt this.1 h
  omega
theorem mem_finS {t : Tra} {m : Nat} {x : Int} : x ∈ finS t m ↔ ∃ i : Nat, i < m ∧ kpS t i = true ∧ (i : Int) ∈ t.finals ∧ x = (rk (kpS t) i : Int) := by
  simp only [finS, List.mem_map, List.mem_filter, List.mem_range, Bool.and_eq_true, decide_eq_true_eq]
  constructor
  · rintro ⟨i, ⟨h1, h2, h3⟩, rfl⟩; exact ⟨i, h1, h2, h3, rfl⟩
  · rintro ⟨i, h1, h2, h3, rfl⟩; exact ⟨i, ⟨h1, h2, h3⟩, rfl⟩
theorem up_start (t : Tra) : Reach (stp t true) (· ∈ [t.start]) t.start := .base (by simp)
section
variable {t : Tra} {m : Nat} {up dn : List Bool}
theorem getD_bt {l : List Bool} {i : Nat} : l.getD i false = true ↔ bt l (i : Int) := by
  unfold bt
  simp only [Int.toNat_natCast, List.getD_eq_getElem?_getD]
  cases l[i]? with
  | none => simp
  | some b => simp
theorem kpB_S (hup : ∀ s, bt up s ↔ Reach (stp t true) (· ∈ [t.start]) s) (hdn : ∀ s, bt dn s ↔ Reach (stp t false) (· ∈ t.finals) s) (i : Nat) : kpB up dn i = kpS t i := by
  rw [Bool.eq_iff_iff, kpS_iff, kpB, Bool.and_eq_true, getD_bt, getD_bt, hup, hdn]
theorem fin_flat {f : Int → List Int} {kp : Nat → Bool} (hf : ∀ i, f i = if kp i.toNat = true then [(rk kp i.toNat : Int)] else []) : ∀ {l : List Int}, l.Pairwise (· < ·) → (∀ x ∈ l, 0 ≤ x) → (l.flatMap f).Pairwise (· < ·)
  | [], _, _ => by simp
  | x :: l, h, h0 => by
    obtain ⟨h1, h2⟩ := List.pairwise_cons.1 h
    rw [List.flatMap_cons]
    refine List.pairwise_append.2 ⟨by rw [hf]; split <;> simp, fin_flat hf h2 (fun y hy => h0 y (List.mem_cons_of_mem _ hy)), fun a ha b hb => ?_⟩
    obtain ⟨y, hy, hb⟩ := List.mem_flatMap.1 hb
    rw [hf] at ha hb
    split at ha
    · rename_i hk
      split at hb
      · have hx0 := h0 x (by simp)
        have := h1 y hy
        have := rk_lt hk (show x.toNat < y.toNat by omega)
        simp at ha hb
        omega
      · simp at hb
    · simp at ha
end
/-! the raw composition's numbers -/
def enc (n : Nat) (s : Pair) : Int := s.p * (n : Int) + s.q
/-! the states kept -/
/-! the numbers of the states kept -/
/-! Compose -/
theorem validT_sorted {t : Tra} (h : validT t = true) : t.finals.Pairwise (· < ·) := by
  simp only [validT, Bool.and_eq_true] at h
  have h4 := h.2.1.1
  have hstep : ∀ i, i + 1 < t.finals.length → t.finals.getD i 0 < t.finals.getD (i + 1) 0 := fun i hi => by
    have := List.all_eq_true.1 h4 (i + 1) (List.mem_range.2 hi)
    simp only [finAt, Bool.not_eq_true', Bool.or_eq_false_iff, Bool.and_eq_false_imp, decide_eq_true_eq] at this
    have := this.2 (by omega)
    simpa using this
  have hmono : ∀ j, j < t.finals.length → ∀ i, i < j → t.finals.getD i 0 < t.finals.getD j 0 := by
    intro j
    induction j with
    | zero => intro _ i hi; omega
    | succ j ih =>
      intro hj i hi
      have h1 := hstep j hj
      by_cases e : i = j
      · subst e; exact h1
      · exact Int.lt_trans (ih (by omega) i (by omega)) h1
  refine List.pairwise_iff_getElem.2 fun i j hi hj hij => ?_
  have := hmono j hj i hij
  rwa [getD_of (List.getElem?_eq_getElem hj), getD_of (List.getElem?_eq_getElem hi)] at this
end Go.Proofs.Ytfepjcmjkaolgaa.G

set_option linter.all false
namespace Go.Proofs.Ytfepjcmjkaolgaa.G
open Go Go.RowKit Go.Sort Go.Shelf
def lab (r : Int) : List Int := if r = 0 then [] else [r]
theorem lab_zero : lab 0 = [] := rfl
theorem lab_ne {r : Int} (h : r ≠ 0) : lab r = [r] := by simp [lab, h]
/-- A path of t from a state to a state, with what it reads and writes. -/
inductive Run (t : Tra) : Int → List Int → List Int → Int → Prop
  | nil (p : Int) : Run t p [] [] p
  | cons {x : Arc} {xs ys : List Int} {q : Int} : x ∈ t.arcs → Run t x.dst xs ys q → Run t x.src (lab x.inp ++ xs) (lab x.out ++ ys) q
def Rel (t : Tra) (xs ys : List Int) : Prop := ∃ f ∈ t.finals, Run t t.start xs ys f
section
variable {t : Tra} {p q r : Int} {xs ys us vs : List Int}
theorem Run.cons' {x : Arc} (hx : x ∈ t.arcs) (hp : x.src = p) (hr : Run t x.dst us vs q) (h1 : xs = lab x.inp ++ us) (h2 : ys = lab x.out ++ vs) : Run t p xs ys q := by
  subst hp h1 h2; exact .cons hx hr
theorem Run.trans (h : Run t p xs ys q) (k : Run t q us vs r) : Run t p (xs ++ us) (ys ++ vs) r := by
  induction h with
  | nil => exact k
  | cons hx _ ih => exact .cons' hx rfl (ih k) (by simp) (by simp)
theorem Run.one {x : Arc} (hx : x ∈ t.arcs) : Run t x.src (lab x.inp) (lab x.out) x.dst := .cons' hx rfl (.nil _) (by simp) (by simp)
theorem Run.snoc {x : Arc} (h : Run t p xs ys q) (hx : x ∈ t.arcs) (hq : x.src = q) : Run t p (xs ++ lab x.inp) (ys ++ lab x.out) x.dst := by
  subst hq; exact h.trans (.one hx)
end
/-! ### the search over places -/
def fitB (l : List Int) (k : Int) (r : Int) : Bool := decide (r = 0) || decide (l[k.toNat]? = some r)
def plN (t : Tra) (xs ys : List Int) (c : Place) : List Place := ((t.outs c.state).filter fun x => fitB xs c.inn x.inp && fitB ys c.out x.out).map fun x => ⟨x.dst, eatK c.inn.toNat x.inp, eatK c.out.toNat x.out⟩
theorem mem_plN {t : Tra} {xs ys : List Int} {c d : Place} : d ∈ plN t xs ys c ↔ ∃ x ∈ t.arcs, x.src = c.state ∧ fitB xs c.inn x.inp = true ∧ fitB ys c.out x.out = true ∧ d = ⟨x.dst, eatK c.inn.toNat x.inp, eatK c.out.toNat x.out⟩ := by
  simp only [plN, Tra.outs, List.mem_map, List.mem_filter, decide_eq_true_eq, Bool.and_eq_true]
  constructor
  · rintro ⟨x, ⟨⟨h1, h2⟩, h3, h4⟩, rfl⟩; exact ⟨x, h1, h2, h3, h4, rfl⟩
  · rintro ⟨x, h1, h2, h3, h4, rfl⟩; exact ⟨x, ⟨⟨h1, h2⟩, h3, h4⟩, rfl⟩
theorem fit_take {l : List Int} {i : Nat} {r : Int} (h : fitB l (i : Int) r = true) (hi : i ≤ l.length) : ∃ k : Nat, eatK i r = (k : Int) ∧ k ≤ l.length ∧ l.take k = l.take i ++ lab r := by
  simp only [fitB, Bool.or_eq_true, decide_eq_true_eq, Int.toNat_natCast] at h
  by_cases h0 : r = 0
  · subst h0; exact ⟨i, by simp [eatK], hi, by simp [lab]⟩
  · have h1 := h.resolve_left h0
    refine ⟨i + 1, by simp [eatK, h0], ?_, by rw [take_snoc h1, lab_ne h0]⟩
    have := (List.getElem?_eq_some_iff.1 h1).1; omega
theorem fit_drop {l u u' : List Int} {i : Nat} {r : Int} (h : l.drop i = (lab r ++ u) ++ u') : fitB l (i : Int) r = true ∧ ∃ k : Nat, eatK i r = (k : Int) ∧ l.drop k = u ++ u' := by
  by_cases h0 : r = 0
  · subst h0; exact ⟨by simp [fitB], i, by simp [eatK], by simpa [lab] using h⟩
  · rw [lab_ne h0] at h
    have h1 : l[i]? = some r := by
      have := congrArg (fun l => l[0]?) h
      simpa [List.getElem?_drop] using this
    refine ⟨by simp [fitB, h1], i + 1, by simp [eatK, h0], ?_⟩
    have := congrArg (List.drop 1) h
    simpa [List.drop_drop] using this
theorem pl_run {t : Tra} {xs ys : List Int} {s : Int} {c : Place} (h : Reach (plN t xs ys) (· = ⟨s, 0, 0⟩) c) : ∃ i j : Nat, c.inn = (i : Int) ∧ c.out = (j : Int) ∧ i ≤ xs.length ∧ j ≤ ys.length ∧ Run t s (xs.take i) (ys.take j) c.state := by
  induction h with
  | base h => subst h; exact ⟨0, 0, rfl, rfl, by omega, by omega, by simpa using Run.nil _⟩
  | @tail c d _ hd ih =>
    obtain ⟨i, j, h1, h2, h3, h4, hr⟩ := ih
    obtain ⟨x, hx, hs, hf, hg, rfl⟩ := mem_plN.1 hd
    rw [h1] at hf; rw [h2] at hg
    obtain ⟨k, e1, e2, e3⟩ := fit_take hf h3
    obtain ⟨l, e4, e5, e6⟩ := fit_take hg h4
    refine ⟨k, l, by simp only [h1, Int.toNat_natCast]; exact e1, by simp only [h2, Int.toNat_natCast]; exact e4, e2, e5, ?_⟩
    rw [e3, e6]
    exact hr.snoc hx hs
theorem run_pl {t : Tra} {xs ys : List Int} {p q : Int} {u v : List Int} (h : Run t p u v q) : ∀ {S : Place → Prop} {i j : Nat} {u' v' : List Int}, xs.drop i = u ++ u' → ys.drop j = v ++ v' → Reach (plN t xs ys) S ⟨p, i, j⟩ → ∃ k l : Nat, xs.drop k = u' ∧ ys.drop l = v' ∧ Reach (plN t xs ys) S ⟨q, k, l⟩ := by
  induction h with
  | nil => intro S i j u' v' h1 h2 h3; exact ⟨i, j, by simpa using h1, by simpa using h2, h3⟩
  | @cons x us vs q hx _ ih =>
    intro S i j u' v' h1 h2 h3
    obtain ⟨f1, k, e1, e2⟩ := fit_drop h1
    obtain ⟨f2, l, e3, e4⟩ := fit_drop h2
    refine ih e2 e4 (.tail h3 (mem_plN.2 ⟨x, hx, rfl, f1, f2, ?_⟩))
    simp only [Int.toNat_natCast, e1, e3]
theorem pl_iff {t : Tra} {xs ys : List Int} {s f : Int} : Reach (plN t xs ys) (· = ⟨s, 0, 0⟩) ⟨f, xs.length, ys.length⟩ ↔ Run t s xs ys f := by
  constructor
  · intro h
    obtain ⟨i, j, h1, h2, h3, h4, hr⟩ := pl_run h
    simp only [] at h1 h2 hr
    have e1 : i = xs.length := by omega
    have e2 : j = ys.length := by omega
    subst e1 e2
    simpa using hr
  · intro h
    obtain ⟨k, l, h1, h2, h3⟩ := run_pl (xs := xs) (ys := ys) h (S := (· = ⟨s, 0, 0⟩)) (i := 0) (j := 0) (u' := []) (v' := []) (by simp) (by simp) (.base rfl)
    obtain ⟨i, j, e1, e2, e3, e4, _⟩ := pl_run h3
    simp only [] at e1 e2
    have h1' : xs.length ≤ k := by simpa using h1
    have h2' : ys.length ≤ l := by simpa using h2
    have a1 : k = xs.length := by omega
    have a2 : l = ys.length := by omega
    rw [a1, a2] at h3
    exact h3
/-- Whether t relates xs to ys, by the search. -/
theorem rel_iff {t : Tra} {xs ys : List Int} : Rel t xs ys ↔ ∃ f ∈ t.finals, Reach (plN t xs ys) (· = ⟨t.start, 0, 0⟩) ⟨f, xs.length, ys.length⟩ :=
  exists_congr fun f => and_congr_right fun _ => pl_iff.symm
/-! ### the raw composition -/
/-! ### trimming keeps the relation -/
end Go.Proofs.Ytfepjcmjkaolgaa.G
