/- What Compose makes, in plain Lean. -/
/- What the references compute, in plain Lean. -/
import Derived.Test.YtmjieefhjmiagaaGreatDoorGSort
set_option linter.all false
namespace Go.Proofs.YtmjieefhjmiagaaGreatDoor.G
open Go Go.RowKit Go.Sort Go.Shelf
theorem srtP_perm {xs ys : List Pair} (h : xs.Perm ys) : srtP xs = srtP ys := by
  have tr : ∀ a b c : Pair, (!(ltOf ordP) b a) = true → (!(ltOf ordP) c b) = true → (!(ltOf ordP) c a) = true := fun a b c h1 h2 => by
    simp only [Bool.not_eq_true'] at *
    exact swoP.ntrans _ _ _ h2 h1
  have to : ∀ a b : Pair, (!(ltOf ordP) b a || !(ltOf ordP) a b) = true := fun a b => by
    cases h1 : ltOf ordP b a with
    | false => rfl
    | true =>
      cases h2 : ltOf ordP a b with
      | false => rfl
      | true => have := swoP.trans _ _ _ h1 h2; rw [swoP.irrefl] at this; cases this
  refine List.Perm.eq_of_pairwise (le := fun a b => (!(ltOf ordP) b a) = true) (fun a b _ _ h1 h2 => ?_) (List.pairwise_mergeSort tr to xs) (List.pairwise_mergeSort tr to ys) ((List.mergeSort_perm xs _).trans (h.trans (List.mergeSort_perm ys _).symm))
  simp only [Bool.not_eq_true'] at h1 h2
  exact totP a b h2 h1
theorem srtP_mem {xs : List Pair} {x : Pair} : x ∈ srtP xs ↔ x ∈ xs := (List.mergeSort_perm xs _).mem_iff
theorem srtP_nodup {xs : List Pair} (h : xs.Nodup) : (srtP xs).Nodup := (List.mergeSort_perm xs _).nodup_iff.2 h
theorem srtP_len (xs : List Pair) : (srtP xs).length = xs.length := List.length_mergeSort xs
theorem srtA_len (xs : List Arc) : (srtA xs).length = xs.length := List.length_mergeSort xs
def numF : Nat → List Pair → List (Pair × Int)
  | _, [] => []
  | i, s :: l => (s, (i : Int)) :: numF (i + 1) l
theorem numF_snoc : ∀ (i : Nat) (l : List Pair) (s : Pair), numF i (l ++ [s]) = numF i l ++ [(s, ((i + l.length : Nat) : Int))]
  | i, [], s => by simp [numF]
  | i, x :: l, s => by
    simp only [List.cons_append, numF, numF_snoc (i + 1) l s, List.length_cons]
    rw [show i + 1 + l.length = i + (l.length + 1) by omega]
theorem numF_keys : ∀ (i : Nat) (l : List Pair), (numF i l).map (·.1) = l
  | _, [] => rfl
  | i, x :: l => by simp [numF, numF_keys (i + 1) l]
def num (sts : List Pair) (s : Pair) : Int := (aget (numF 0 sts) s).getD 0
def isFin (a b : Tra) (s : Pair) : Bool := decide (s.p ∈ a.finals) && decide (s.q ∈ b.finals)
def finF (a b : Tra) : Nat → List Pair → List Int
  | _, [] => []
  | i, s :: l => (if isFin a b s then [(i : Int)] else []) ++ finF a b (i + 1) l
theorem finF_snoc (a b : Tra) : ∀ (i : Nat) (l : List Pair) (s : Pair), finF a b i (l ++ [s]) = finF a b i l ++ if isFin a b s then [((i + l.length : Nat) : Int)] else []
  | i, [], s => by simp [finF]
  | i, x :: l, s => by
    simp only [List.cons_append, finF, finF_snoc a b (i + 1) l s, List.length_cons, List.append_assoc]
    rw [show i + 1 + l.length = i + (l.length + 1) by omega]
theorem finF_len (a b : Tra) : ∀ (i : Nat) (l : List Pair), (finF a b i l).length ≤ l.length
  | _, [] => by simp [finF]
  | i, x :: l => by
    have := finF_len a b (i + 1) l
    simp only [finF, List.length_append, List.length_cons]
    split <;> simp <;> omega
def arcF (sts U : List Pair) (e : Edge) : List Arc := if decide (e.src ∈ U) && decide (e.dst ∈ U) then [⟨num sts e.src, num sts e.dst, e.inp, e.out⟩] else []
theorem arcF_len (sts U : List Pair) (e : Edge) : (arcF sts U e).length ≤ 1 := by unfold arcF; split <;> simp
theorem dedupC_len {α : Type} [DecidableEq α] : ∀ l : List α, (dedupC l).length ≤ l.length
  | [] => by simp [dedupC]
  | [x] => by simp [dedupC]
  | x :: y :: l => by
    have := dedupC_len (y :: l)
    rw [dedupC]
    split
    · simp at this ⊢; omega
    · simp at this ⊢; omega
/-- The composition's states, arcs. -/
def cmpArcs (a b : Tra) (K U : List Pair) : List Arc := dedupC (srtA ((K.flatMap (compE a b)).flatMap (arcF (srtP U) U)))
def cmpTra (a b : Tra) (K U : List Pair) : Tra := ⟨(U.length : Int), num (srtP U) ⟨a.start, b.start⟩, finF a b 0 (srtP U), cmpArcs a b K U⟩
def zeroTra : Tra := ⟨0, 0, [], []⟩
def oneTra : Tra := ⟨1, 0, [], []⟩
/-- What Compose answers. -/
def CmpRes (a b t : Tra) (e : Int) : Prop :=
  if (!(validT a) || !(validT b)) = true then t = zeroTra ∧ e = 1 else
  ∃ K U : List Pair, Closure (compN a b) (· = ⟨a.start, b.start⟩) K ∧ Closure (bk (K.flatMap (compE a b))) (fun x => x ∈ K ∧ x.p ∈ a.finals ∧ x.q ∈ b.finals) U ∧
    if (⟨a.start, b.start⟩ : Pair) ∉ U then t = oneTra ∧ e = 0
    else if 512 < U.length then t = zeroTra ∧ e = 2
    else if 4096 < (cmpArcs a b K U).length then t = zeroTra ∧ e = 2
    else t = cmpTra a b K U ∧ e = 0
/-- Validity, spelt out. -/
theorem validT_ok {t : Tra} (h : validT t = true) : ∃ m : Nat, t.Ok m ∧ t.finals.Nodup ∧ t.finals.length ≤ 512 := by
  simp only [validT, Bool.and_eq_true, Bool.not_eq_true', Bool.or_eq_false_iff, decide_eq_false_iff_not] at h
  obtain ⟨⟨⟨h1, h2⟩, h3⟩, ⟨h4, h5⟩, h6⟩ := h
  simp only [inR, Bool.and_eq_true, decide_eq_true_eq] at h6
  have hfin : ∀ i, i < t.finals.length → (0 ≤ t.finals.getD i 0 ∧ t.finals.getD i 0 < t.states) ∧ (0 < i → t.finals.getD (i - 1) 0 < t.finals.getD i 0) := fun i hi => by
    have := List.all_eq_true.1 h4 i (List.mem_range.2 hi)
    simp only [finAt, Bool.not_eq_true', Bool.or_eq_false_iff, inR, Bool.and_eq_false_imp, Bool.not_eq_false', Bool.and_eq_true, decide_eq_true_eq] at this
    refine ⟨this.1, fun h0 => ?_⟩
    have := this.2 (by omega)
    simpa using this
  have hmono : ∀ j, j < t.finals.length → ∀ i, i < j → t.finals.getD i 0 < t.finals.getD j 0 := by
    intro j
    induction j with
    | zero => intro _ i hi; omega
    | succ j ih =>
      intro hj i hi
      have h1 := (hfin (j + 1) hj).2 (by omega)
      simp only [Nat.add_sub_cancel] at h1
      by_cases e : i = j
      · subst e; exact h1
      · exact Int.lt_trans (ih (by omega) i (by omega)) h1
  have hnd : t.finals.Nodup := by
    refine List.pairwise_iff_getElem.2 fun i j hi hj hij he => ?_
    have := hmono j hj i hij
    rw [getD_of (List.getElem?_eq_getElem hj), getD_of (List.getElem?_eq_getElem hi), he] at this
    omega
  have hlen : t.finals.length ≤ t.states.toNat := by
    have := hnd.length_le_of_subset (l₂ := (List.range t.states.toNat).map fun (i : Nat) => (i : Int)) (fun x hx => by
      obtain ⟨i, hi⟩ := List.getElem?_of_mem hx
      have h := hfin i (List.getElem?_eq_some_iff.1 hi).1
      rw [getD_of hi] at h
      exact List.mem_map.2 ⟨x.toNat, List.mem_range.2 (by omega), by omega⟩)
    simpa using this
  refine ⟨t.states.toNat, ⟨by omega, by omega, by omega, by omega, fun x hx => ?_, by omega⟩, hnd, by omega⟩
  have := List.all_eq_true.1 h5 x hx
  simp only [arcOk, Bool.not_eq_true', Bool.or_eq_false_iff, Bool.not_eq_false', inR, Bool.and_eq_true, decide_eq_true_eq] at this
  omega
end Go.Proofs.YtmjieefhjmiagaaGreatDoor.G

set_option linter.all false
namespace Go.Proofs.YtmjieefhjmiagaaGreatDoor.G
open Go Go.RowKit Go.Sort Go.Shelf
theorem mul_b {x y : Int} (hx : 0 ≤ x ∧ x ≤ 512) (hy : 0 ≤ y ∧ y ≤ 512) : 0 ≤ x * y ∧ x * y ≤ 262144 := by
  refine ⟨Int.mul_nonneg hx.1 hy.1, ?_⟩
  have h1 := Int.mul_le_mul hx.2 hy.2 hy.1 (by omega)
  omega
theorem range_flat {β : Type} (f : Nat → List β) (k : Nat) : (List.range (k + 1)).flatMap f = (List.range k).flatMap f ++ f k := by
  rw [List.range_succ, List.flatMap_append]; simp
theorem one_len {β γ : Type} (f : β → γ) (x : β) : ([f x] : List γ).length ≤ 1 := Nat.le_refl _
def rawF1 (b : Tra) (p q : Int) : List Int := [p * b.states + q]
def rawF (b : Tra) (p : Int) : List Int := b.finals.flatMap (rawF1 b p)
def rawA0 (b : Tra) (x : Arc) (q : Nat) : List Arc := [⟨x.src * b.states + q, x.dst * b.states + q, x.inp, 0⟩]
def rawA1 (b : Tra) (x y : Arc) : List Arc := if y.inp = x.out then [⟨x.src * b.states + y.src, x.dst * b.states + y.dst, x.inp, y.out⟩] else []
def rawA (b : Tra) (x : Arc) : List Arc := if x.out = 0 then (List.range b.states.toNat).flatMap (rawA0 b x) else b.arcs.flatMap (rawA1 b x)
def rawB1 (b : Tra) (y : Arc) (p : Nat) : List Arc := [⟨p * b.states + y.src, p * b.states + y.dst, 0, y.out⟩]
def rawB (a b : Tra) (y : Arc) : List Arc := if y.inp = 0 then (List.range a.states.toNat).flatMap (rawB1 b y) else []
def rawT (a b : Tra) : Tra := ⟨a.states * b.states, a.start * b.states + b.start, a.finals.flatMap (rawF b), a.arcs.flatMap (rawA b) ++ b.arcs.flatMap (rawB a b)⟩
theorem rawF1_len (b : Tra) (p q : Int) : (rawF1 b p q).length ≤ 1 := Nat.le_refl _
theorem rawF_len (b : Tra) (p : Int) : (rawF b p).length ≤ b.finals.length := by have := flat_len (rawF1_len b p) b.finals; rw [Nat.mul_one] at this; exact this
theorem rawA0_len (b : Tra) (x : Arc) (q : Nat) : (rawA0 b x q).length ≤ 1 := Nat.le_refl _
theorem rawA1_len (b : Tra) (x y : Arc) : (rawA1 b x y).length ≤ 1 := by unfold rawA1; split <;> simp
theorem rawB1_len (b : Tra) (y : Arc) (p : Nat) : (rawB1 b y p).length ≤ 1 := Nat.le_refl _
theorem rawA_len (b : Tra) (x : Arc) : (rawA b x).length ≤ b.states.toNat + b.arcs.length := by
  unfold rawA
  split
  · have := flat_len (rawA0_len b x) (List.range b.states.toNat); simp at this ⊢; omega
  · have := flat_len (rawA1_len b x) b.arcs; omega
theorem rawB_len (a b : Tra) (y : Arc) : (rawB a b y).length ≤ a.states.toNat := by
  unfold rawB
  split
  · have := flat_len (rawB1_len b y) (List.range a.states.toNat); simpa using this
  · simp
/-! the reference's search -/
def eA (fwd : Bool) (x : Arc) : Int := if fwd = true then x.src else x.dst
def eB (fwd : Bool) (x : Arc) : Int := if fwd = true then x.dst else x.src
def stp (t : Tra) (fwd : Bool) (s : Int) : List Int := (t.arcs.filter fun x => eA fwd x = s).map (eB fwd)
def bt (l : List Bool) (s : Int) : Prop := 0 ≤ s ∧ l[s.toNat]? = some true
theorem mem_stp {t : Tra} {fwd : Bool} {s r : Int} : r ∈ stp t fwd s ↔ ∃ x ∈ t.arcs, eA fwd x = s ∧ eB fwd x = r := by
  simp [stp, and_assoc]
theorem bt_set {l : List Bool} {s r : Int} (hr : 0 ≤ r ∧ r < l.length) : bt (l.set r.toNat true) s ↔ s = r ∨ bt l s := by
  unfold bt
  rw [List.getElem?_set]
  by_cases e : r.toNat = s.toNat
  · rw [if_pos e, if_pos (by omega)]
    constructor
    · intro h; left; omega
    · rintro (rfl | h)
      · exact ⟨hr.1, rfl⟩
      · exact ⟨h.1, rfl⟩
  · rw [if_neg e]
    constructor
    · intro h; exact .inr h
    · rintro (rfl | h)
      · exact absurd rfl e
      · exact h
theorem bt_rep {m : Nat} {s : Int} : ¬ bt (List.replicate m false) s := by
  rintro ⟨_, h⟩
  rw [List.getElem?_replicate] at h
  split at h <;> simp at h
theorem count_set {l : List Bool} {j : Nat} (h : l[j]? = some false) : (l.set j true).count false + 1 = l.count false := by
  obtain ⟨hj, he⟩ := List.getElem?_eq_some_iff.1 h
  have hpos : 0 < l.count false := List.count_pos_iff.2 (List.mem_of_getElem? h)
  rw [List.count_set hj, he]
  simp
  omega
/-- While the arcs are gone through: l0 what stood at the round's head, l what stands now, ag whether something has turned. -/
structure Pass (t : Tra) (fwd : Bool) (fr : List Int) (m : Nat) (l0 : List Bool) (k : Nat) (l : List Bool) (ag : Bool) : Prop where
  len : l.length = m
  sub : ∀ s, bt l s → Reach (stp t fwd) (· ∈ fr) s
  frm : ∀ s ∈ fr, bt l s
  up : ag = true → l.count false < l0.count false
  cl : ag = false → l = l0 ∧ ∀ x ∈ t.arcs.take k, bt l (eA fwd x) → bt l (eB fwd x)
theorem Pass.skip {t : Tra} {fwd : Bool} {fr : List Int} {m k : Nat} {l0 l : List Bool} {ag : Bool} {x : Arc} (h : Pass t fwd fr m l0 k l ag) (hx : t.arcs[k]? = some x) (hn : bt l (eA fwd x) → bt l (eB fwd x)) : Pass t fwd fr m l0 (k + 1) l ag :=
  ⟨h.len, h.sub, h.frm, h.up, fun e => ⟨(h.cl e).1, fun y hy => by
    rw [take_snoc hx] at hy
    rcases List.mem_append.1 hy with hy | hy
    · exact (h.cl e).2 y hy
    · rw [List.mem_singleton.1 hy]; exact hn⟩⟩
theorem Pass.hit {t : Tra} {fwd : Bool} {fr : List Int} {m k : Nat} {l0 l : List Bool} {ag : Bool} {x : Arc} (h : Pass t fwd fr m l0 k l ag) (hx : t.arcs[k]? = some x) (ha : bt l (eA fwd x)) (hb : 0 ≤ eB fwd x ∧ eB fwd x < m) (hf : l[(eB fwd x).toNat]? = some false) : Pass t fwd fr m l0 (k + 1) (l.set (eB fwd x).toNat true) true := by
  have hb' : 0 ≤ eB fwd x ∧ eB fwd x < l.length := by rw [h.len]; exact hb
  refine ⟨by simp [h.len], fun s hs => ?_, fun s hs => (bt_set hb').2 (.inr (h.frm s hs)), fun _ => ?_, fun e => by cases e⟩
  · rcases (bt_set hb').1 hs with rfl | hs
    · exact .tail (h.sub _ ha) (mem_stp.2 ⟨x, List.mem_of_getElem? hx, rfl, rfl⟩)
    · exact h.sub s hs
  · have h1 := count_set hf
    cases hag : ag with
    | true => have := h.up hag; omega
    | false => have := (h.cl hag).1; subst this; omega
theorem Pass.fin {t : Tra} {fwd : Bool} {fr : List Int} {m : Nat} {l : List Bool} (h1 : ∀ s, bt l s → Reach (stp t fwd) (· ∈ fr) s) (h2 : ∀ s ∈ fr, bt l s) (h3 : ∀ x ∈ t.arcs, bt l (eA fwd x) → bt l (eB fwd x)) (s : Int) : bt l s ↔ Reach (stp t fwd) (· ∈ fr) s := by
  refine ⟨h1 s, fun h => ?_⟩
  induction h with
  | base h => exact h2 _ h
  | tail _ hy ih =>
    obtain ⟨x, hx, rfl, rfl⟩ := mem_stp.1 hy
    exact h3 x hx ih
theorem bt_of {l : List Bool} {s : Int} {y : Bool} (h0 : 0 ≤ s) (h : l[s.toNat]? = some y) : bt l s ↔ y = true := by
  unfold bt; rw [h]; simp [h0]
/-! lists of arcs in their order, each once -/
def canon (l : List Arc) : List Arc := dedupC (srtA l)
theorem canon_nil : canon [] = [] := by simp [canon, srtA, dedupC]
theorem ltArc_trans {x y z : Arc} (h1 : ltArc x y) (h2 : ltArc y z) : ltArc x z := (ltA x z).1 (swoA.trans _ _ _ ((ltA x y).2 h1) ((ltA y z).2 h2))
theorem ltArc_irrefl {x : Arc} : ¬ ltArc x x := (ltA' x x).1 (swoA.irrefl x)
theorem ltArc_tri (x y : Arc) : ltArc x y ∨ x = y ∨ ltArc y x := by
  by_cases h1 : ltArc x y
  · exact .inl h1
  · by_cases h2 : ltArc y x
    · exact .inr (.inr h2)
    · exact .inr (.inl (totA x y ((ltA' x y).2 h1) ((ltA' y x).2 h2)))
theorem mem_dedupC {α : Type} [DecidableEq α] {z : α} : ∀ {l : List α}, z ∈ dedupC l ↔ z ∈ l
  | [] => by simp [dedupC]
  | [x] => by simp [dedupC]
  | x :: y :: l => by
    have := mem_dedupC (z := z) (l := y :: l)
    rw [dedupC]
    split
    · rename_i h; subst h; rw [this]; simp
    · rw [List.mem_cons, this, List.mem_cons (b := x)]
theorem dedupC_sorted : ∀ {l : List Arc}, l.Pairwise (fun a b => ¬ ltArc b a) → (dedupC l).Pairwise ltArc
  | [], _ => by simp [dedupC]
  | [x], _ => by simp [dedupC]
  | x :: y :: l, h => by
    obtain ⟨h1, h2⟩ := List.pairwise_cons.1 h
    have ih := dedupC_sorted h2
    rw [dedupC]
    split
    · exact ih
    · rename_i hne
      refine List.pairwise_cons.2 ⟨fun z hz => ?_, ih⟩
      have hxy : ltArc x y := by
        rcases ltArc_tri x y with h | h | h
        · exact h
        · exact absurd h hne
        · exact absurd h (h1 y (by simp))
      rcases List.mem_cons.1 (mem_dedupC.1 hz) with rfl | hz
      · exact hxy
      · rcases ltArc_tri y z with h | h | h
        · exact ltArc_trans hxy h
        · exact h ▸ hxy
        · exact absurd h ((List.pairwise_cons.1 h2).1 z hz)
theorem srtA_sorted (l : List Arc) : (srtA l).Pairwise (fun a b => ¬ ltArc b a) := by
  have tr : ∀ a b c : Arc, (!(ltOf ordA) b a) = true → (!(ltOf ordA) c b) = true → (!(ltOf ordA) c a) = true := fun a b c h1 h2 => by
    simp only [Bool.not_eq_true'] at *
    exact swoA.ntrans _ _ _ h2 h1
  have to : ∀ a b : Arc, (!(ltOf ordA) b a || !(ltOf ordA) a b) = true := fun a b => by
    cases h1 : ltOf ordA b a with
    | false => rfl
    | true =>
      cases h2 : ltOf ordA a b with
      | false => rfl
      | true => have := swoA.trans _ _ _ h1 h2; rw [swoA.irrefl] at this; cases this
  exact (List.pairwise_mergeSort tr to l).imp fun {a b} h => (ltA' b a).1 (by simpa using h)
theorem canon_sorted (l : List Arc) : (canon l).Pairwise ltArc := dedupC_sorted (srtA_sorted l)
theorem mem_canon {l : List Arc} {x : Arc} : x ∈ canon l ↔ x ∈ l := mem_dedupC.trans (List.mergeSort_perm l _).mem_iff
theorem nodup_of_lt {l : List Arc} (h : l.Pairwise ltArc) : l.Nodup := h.imp (S := (· ≠ ·)) fun {a b} hl (e : a = b) => ltArc_irrefl (x := b) (by rw [e] at hl; exact hl)
theorem sorted_ext : ∀ {l l' : List Arc}, l.Pairwise ltArc → l'.Pairwise ltArc → (∀ x, x ∈ l ↔ x ∈ l') → l = l' := fun {l l'} h1 h2 h => by
  have n1 := nodup_of_lt h1
  have n2 := nodup_of_lt h2
  exact ((List.perm_ext_iff_of_nodup n1 n2).2 h).eq_of_pairwise (fun a b _ _ x y => absurd (ltArc_trans x y) ltArc_irrefl) h1 h2
theorem canon_congr {l l' : List Arc} (h : ∀ x, x ∈ l ↔ x ∈ l') : canon l = canon l' := sorted_ext (canon_sorted l) (canon_sorted l') fun x => by rw [mem_canon, mem_canon, h]
theorem canon_len (l : List Arc) : (canon l).length ≤ l.length := by
  have := dedupC_len (srtA l)
  rw [srtA_len] at this; exact this
/-- Where an arc goes. -/
theorem insert_canon {l0 : List Arc} {x : Arc} {k : Nat} (hk : k ≤ (canon l0).length) (hhi : ∀ y ∈ (canon l0).drop k, ltArc x y) (hlo : ∀ y ∈ (canon l0).take k, ltArc y x) : (canon l0).take k ++ [x] ++ (canon l0).drop k = canon (l0 ++ [x]) := by
  have hs := canon_sorted l0
  rw [← List.take_append_drop k (canon l0)] at hs
  obtain ⟨s1, s2, s3⟩ := List.pairwise_append.1 hs
  refine sorted_ext ?_ (canon_sorted _) fun y => ?_
  · refine List.pairwise_append.2 ⟨List.pairwise_append.2 ⟨s1, by simp, fun a ha b hb => by rw [List.mem_singleton.1 hb]; exact hlo a ha⟩, s2, fun a ha b hb => ?_⟩
    rcases List.mem_append.1 ha with ha | ha
    · exact s3 a ha b hb
    · rw [List.mem_singleton.1 ha]; exact hhi b hb
  · have e : y ∈ canon l0 ↔ y ∈ (canon l0).take k ∨ y ∈ (canon l0).drop k := by rw [← List.mem_append, List.take_append_drop]
    rw [mem_canon, List.mem_append, List.mem_append, List.mem_append, List.mem_singleton, ← mem_canon (l := l0), e]
    simp only [or_assoc, or_comm (b := y ∈ (canon l0).drop k)]
theorem canon_has {l0 : List Arc} {x : Arc} (h : x ∈ canon l0) : canon l0 = canon (l0 ++ [x]) := canon_congr fun y => by
  rw [List.mem_append, List.mem_singleton]
  exact ⟨.inl, fun e => e.elim id fun e => by rw [e]; exact mem_canon.1 h⟩
/-- In a list in order, what stands ahead of one that is not above x is below x. -/
theorem below_of {l : List Arc} (hs : l.Pairwise ltArc) {x : Arc} {k : Nat} (h : k = 0 ∨ ∃ y, l[k - 1]? = some y ∧ ltArc y x) : ∀ y ∈ l.take k, ltArc y x := by
  rcases h with rfl | ⟨z, hz, hlt⟩
  · simp
  · intro y hy
    obtain ⟨j, hj⟩ := List.getElem?_of_mem hy
    rw [List.getElem?_take] at hj
    split at hj
    · rename_i hjk
      by_cases e : j = k - 1
      · subst e; rw [hz] at hj; cases hj; exact hlt
      · obtain ⟨q1, q2⟩ := List.getElem?_eq_some_iff.1 hj
        obtain ⟨q3, q4⟩ := List.getElem?_eq_some_iff.1 hz
        have := List.pairwise_iff_getElem.1 hs j (k - 1) q1 q3 (by omega)
        rw [q2, q4] at this
        exact ltArc_trans this hlt
    · cases hj
theorem shift_step {cs xs : List Arc} {i : Nat} {z : Arc} (hl : cs.length = xs.length + 1) (h : cs.take i = xs.take i ∧ cs.drop (i + 1) = xs.drop i) (h0 : 0 < i) (hi : i ≤ xs.length) (hz : cs[i - 1]? = some z) : (cs.set i z).take (i - 1) = xs.take (i - 1) ∧ (cs.set i z).drop (i - 1 + 1) = xs.drop (i - 1) := by
  obtain ⟨j, rfl⟩ : ∃ j, i = j + 1 := ⟨i - 1, by omega⟩
  simp only [Nat.add_sub_cancel] at *
  have hx : xs[j]? = some z := by
    have := congrArg (fun l => l[j]?) h.1
    simpa [List.getElem?_take, hz] using this.symm
  constructor
  · rw [List.take_set_of_le (by omega)]
    have := congrArg (List.take j) h.1
    simpa [List.take_take] using this
  · have hs : (cs.set (j + 1) z)[j + 1]? = some z := by rw [List.getElem?_set, if_pos rfl, if_pos (by omega)]
    rw [drop_cons hx, ← h.2, drop_cons hs, List.drop_set_of_lt (by omega)]
theorem place_step {cs xs : List Arc} {k : Nat} {x : Arc} (hl : cs.length = xs.length + 1) (h : cs.take k = xs.take k ∧ cs.drop (k + 1) = xs.drop k) (hk : k ≤ xs.length) : cs.set k x = xs.take k ++ [x] ++ xs.drop k := by
  have h1 : (cs.set k x) = (cs.set k x).take k ++ (cs.set k x).drop k := (List.take_append_drop k _).symm
  have hs : (cs.set k x)[k]? = some x := by rw [List.getElem?_set, if_pos rfl, if_pos (by omega)]
  rw [h1, List.take_set_of_le (Nat.le_refl _), h.1, drop_cons hs, List.drop_set_of_lt (by omega), h.2]
  simp
/-! the reference's trimming -/
def kpB (up dn : List Bool) (i : Nat) : Bool := up.getD i false && dn.getD i false
def rk (kp : Nat → Bool) (k : Nat) : Nat := ((List.range k).filter kp).length
def nu (kp : Nat → Bool) (i : Nat) : Int := if kp i = true then (rk kp i : Int) else 0
theorem rk_hit {kp : Nat → Bool} {k : Nat} (h : kp k = true) : (rk kp k : Int) + 1 = (rk kp (k + 1) : Int) := by
  simp [rk, List.range_succ, List.filter_append, h]
theorem rk_skip {kp : Nat → Bool} {k : Nat} (h : kp k = false) : rk kp (k + 1) = rk kp k := by
  simp [rk, List.range_succ, List.filter_append, h]
theorem rk_le (kp : Nat → Bool) (k : Nat) : rk kp k ≤ k := by have := List.length_filter_le kp (List.range k); simpa [rk] using this
def nuL (kp : Nat → Bool) (m k : Nat) : List Int := (List.range k).map (nu kp) ++ List.replicate (m - k) 0
theorem nuL_len {kp : Nat → Bool} {m k : Nat} (h : k ≤ m) : (nuL kp m k).length = m := by simp [nuL]; omega
theorem nuL_hit {kp : Nat → Bool} {m k : Nat} (hk : k < m) (h : kp k = true) : (nuL kp m k).set k (rk kp k : Int) = nuL kp m (k + 1) := by
  obtain ⟨q, hq⟩ : ∃ q, m - k = q + 1 := ⟨m - k - 1, by omega⟩
  have h1 : m - (k + 1) = q := by omega
  rw [nuL, nuL, hq, h1, List.replicate_succ, List.set_append, if_neg (by simp), List.range_succ, List.map_append]
  simp [nu, h]
theorem nuL_skip {kp : Nat → Bool} {m k : Nat} (hk : k < m) (h : kp k = false) : nuL kp m k = nuL kp m (k + 1) := by
  obtain ⟨q, hq⟩ : ∃ q, m - k = q + 1 := ⟨m - k - 1, by omega⟩
  have h1 : m - (k + 1) = q := by omega
  rw [nuL, nuL, hq, h1, List.replicate_succ, List.range_succ, List.map_append]
  simp [nu, h]
theorem nuL_at {kp : Nat → Bool} {m i : Nat} (h : i < m) : (nuL kp m m)[i]? = some (nu kp i) := by simp [nuL, h]
def finG (up dn : List Bool) (f : Int) : List Int := if up.getD f.toNat false = true then [nu (kpB up dn) f.toNat] else []
def arcG (up dn : List Bool) (x : Arc) : List Arc := if (up.getD x.src.toNat false && dn.getD x.dst.toNat false) = true then [⟨nu (kpB up dn) x.src.toNat, nu (kpB up dn) x.dst.toNat, x.inp, x.out⟩] else []
theorem finG_len (up dn : List Bool) (f : Int) : (finG up dn f).length ≤ 1 := by unfold finG; split <;> simp
theorem arcG_len (up dn : List Bool) (x : Arc) : (arcG up dn x).length ≤ 1 := by unfold arcG; split <;> simp
def trimT (t : Tra) (m : Nat) (up dn : List Bool) : Tra := if dn.getD t.start.toNat false = true then ⟨(rk (kpB up dn) m : Int), nu (kpB up dn) t.start.toNat, t.finals.flatMap (finG up dn), canon (t.arcs.flatMap (arcG up dn))⟩ else oneTra
/-! the raw composition's ranges -/
theorem raw_rng {p q : Int} {m n : Nat} (hp : 0 ≤ p ∧ p < m) (hq : 0 ≤ q ∧ q < n) : 0 ≤ p * (n : Int) + q ∧ p * (n : Int) + q < ((m * n : Nat) : Int) := by
  have h1 : 0 ≤ p * (n : Int) := Int.mul_nonneg hp.1 (by omega)
  have h2 : (p + 1) * (n : Int) ≤ (m : Int) * (n : Int) := Int.mul_le_mul_of_nonneg_right (by omega) (by omega)
  rw [Int.add_mul, Int.one_mul] at h2
  rw [Int.natCast_mul]
  omega
theorem raw_arcs {a b : Tra} {m n : Nat} (ha : a.Ok m) (hb : b.Ok n) : ∀ x ∈ (rawT a b).arcs, (0 ≤ x.src ∧ x.src < ((m * n : Nat) : Int)) ∧ 0 ≤ x.dst ∧ x.dst < ((m * n : Nat) : Int) := by
  intro x hx
  have has := ha.st
  have hbs := hb.st
  rcases List.mem_append.1 hx with hx | hx
  · obtain ⟨y, hy, hx⟩ := List.mem_flatMap.1 hx
    have hay := ha.arcs y hy
    unfold rawA at hx
    split at hx
    · obtain ⟨q, hq, hx⟩ := List.mem_flatMap.1 hx
      rw [List.mem_singleton.1 hx]
      have hq' : (0 : Int) ≤ (q : Int) ∧ (q : Int) < n := by have := List.mem_range.1 hq; omega
      simp only [hbs]
      exact ⟨raw_rng hay.1 hq', raw_rng hay.2 hq'⟩
    · obtain ⟨z, hz, hx⟩ := List.mem_flatMap.1 hx
      have hbz := hb.arcs z hz
      unfold rawA1 at hx
      split at hx
      · rw [List.mem_singleton.1 hx]
        simp only [hbs]
        exact ⟨raw_rng hay.1 hbz.1, raw_rng hay.2 hbz.2⟩
      · simp at hx
  · obtain ⟨y, hy, hx⟩ := List.mem_flatMap.1 hx
    have hby := hb.arcs y hy
    unfold rawB at hx
    split at hx
    · obtain ⟨q, hq, hx⟩ := List.mem_flatMap.1 hx
      rw [List.mem_singleton.1 hx]
      have hq' : (0 : Int) ≤ (q : Int) ∧ (q : Int) < m := by have := List.mem_range.1 hq; omega
      simp only [hbs]
      exact ⟨raw_rng hq' hby.1, raw_rng hq' hby.2⟩
    · simp at hx
theorem raw_fin {a b : Tra} {m n : Nat} (hb : b.Ok n) (hfa : ∀ p ∈ a.finals, 0 ≤ p ∧ p < m) (hfb : ∀ p ∈ b.finals, 0 ≤ p ∧ p < n) : ∀ f ∈ (rawT a b).finals, 0 ≤ f ∧ f < ((m * n : Nat) : Int) := by
  intro f hf
  obtain ⟨p, hp, hf⟩ := List.mem_flatMap.1 hf
  obtain ⟨q, hq, hf⟩ := List.mem_flatMap.1 hf
  rw [List.mem_singleton.1 hf, hb.st]
  exact raw_rng (hfa p hp) (hfb q hq)
theorem raw_lens {a b : Tra} {m n : Nat} (ha : a.Ok m) (hb : b.Ok n) (hal : a.finals.length ≤ 512) (hbl : b.finals.length ≤ 512) : (rawT a b).arcs.length ≤ 274877906944 ∧ (rawT a b).finals.length ≤ 274877906944 := by
  have h1 := flat_len (rawA_len b) a.arcs
  have h2 := flat_len (rawB_len a b) b.arcs
  have h3 := flat_len (rawF_len b) a.finals
  have has := ha.st
  have hbs := hb.st
  have e1 := Nat.mul_le_mul ha.alen (show b.states.toNat + b.arcs.length ≤ 4608 by have := hb.alen; have := hb.le; omega)
  have e2 := Nat.mul_le_mul hb.alen (show a.states.toNat ≤ 512 by have := ha.le; omega)
  have e3 := Nat.mul_le_mul hal hbl
  simp only [rawT, List.length_append]
  omega
theorem validT_fin {t : Tra} (h : validT t = true) : ∀ f ∈ t.finals, 0 ≤ f ∧ f < t.states := by
  simp only [validT, Bool.and_eq_true] at h
  intro f hf
  obtain ⟨i, hi⟩ := List.getElem?_of_mem hf
  have := List.all_eq_true.1 h.2.1.1 i (List.mem_range.2 (List.getElem?_eq_some_iff.1 hi).1)
  rw [finAt_of hi] at this
  simp only [Bool.not_eq_true', Bool.or_eq_false_iff, inR, Bool.not_eq_false', Bool.and_eq_true, decide_eq_true_eq] at this
  exact this.1
/-- What the reference's Compose answers. -/
def RefRes (a b t : Tra) (e : Int) : Prop :=
  if (!(validT a) || !(validT b)) = true then t = zeroTra ∧ e = 1 else
  ∃ up dn : List Bool, up.length = a.states.toNat * b.states.toNat ∧ dn.length = a.states.toNat * b.states.toNat ∧ (∀ s, bt up s ↔ Reach (stp (rawT a b) true) (· ∈ [(rawT a b).start]) s) ∧ (∀ s, bt dn s ↔ Reach (stp (rawT a b) false) (· ∈ (rawT a b).finals) s) ∧
    if (decide (512 < (trimT (rawT a b) (a.states.toNat * b.states.toNat) up dn).states) || decide (4096 < ((trimT (rawT a b) (a.states.toNat * b.states.toNat) up dn).arcs.length : Int))) = true then t = zeroTra ∧ e = 2
    else t = trimT (rawT a b) (a.states.toNat * b.states.toNat) up dn ∧ e = 0
end Go.Proofs.YtmjieefhjmiagaaGreatDoor.G
