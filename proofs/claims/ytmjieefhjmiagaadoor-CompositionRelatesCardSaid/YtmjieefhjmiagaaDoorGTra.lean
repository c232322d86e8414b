/- Plain facts on transducers for the walks. -/
import Derived.Test.YtmjieefhjmiagaaDoorGTyp
set_option linter.all false
namespace Go.Proofs.YtmjieefhjmiagaaDoor.G
open Go Go.RowKit
def Tra.rd (h : Heap) (v : Value) (t : Tra) : Prop := ∃ fu au : SV, v = .agg #[.int .i64 t.states, .int .i64 t.start, sv fu, sv au] ∧ rdSl EInt h (sv fu) t.finals ∧ rdSl EArc h (sv au) t.arcs
theorem Tra.rd.mono {h h' : Heap} {v : Value} {t : Tra} (k : hle h h') (r : t.rd h v) : t.rd h' v := by
  obtain ⟨fu, au, rfl, h1, h2⟩ := r
  exact ⟨fu, au, rfl, h1.mono k, h2.mono k⟩
def lv (m : Nat) (arcs : List Arc) : List (List Arc) := (List.range m).map fun (s : Nat) => arcs.filter fun x => x.src = (s : Int)
theorem lv_nil (m : Nat) : lv m [] = List.replicate m [] := by
  simp [lv]; rw [List.eq_replicate_iff]; simp
theorem lv_at {m : Nat} {arcs : List Arc} {s : Nat} (h : s < m) : (lv m arcs)[s]? = some (arcs.filter fun x => x.src = (s : Int)) := by simp [lv, h]
theorem lv_snoc {m : Nat} {l : List Arc} {x : Arc} {s : Nat} (hs : x.src = (s : Int)) (h : s < m) : lv m (l ++ [x]) = (lv m l).set s ((l.filter fun y => y.src = (s : Int)) ++ [x]) := by
  apply List.ext_getElem?
  intro j
  rw [List.getElem?_set]
  by_cases hj : j < m
  · rw [lv_at hj]
    by_cases e : s = j
    · subst e
      rw [if_pos rfl, if_pos (by simpa [lv] using h), List.filter_append]
      simp [hs]
    · rw [if_neg e, lv_at hj, List.filter_append]
      have : ¬ (s : Int) = (j : Int) := by omega
      simp [hs, this]
  · have h1 : (lv m (l ++ [x]))[j]? = none := by simp [lv]; omega
    have h2 : (lv m l)[j]? = none := by simp [lv]; omega
    rw [h1, if_neg (by omega), h2]
theorem lv_le (m : Nat) (l : List Arc) (s : Nat) : (l.filter fun y => y.src = (s : Int)).length ≤ l.length := List.length_filter_le _ _
section
variable {α β : Type}
theorem take_snoc {xs : List α} {k : Nat} {x : α} (h : xs[k]? = some x) : xs.take (k + 1) = xs.take k ++ [x] := by rw [List.take_add_one, h]; rfl
theorem take_flat {f : α → List β} {xs : List α} {k : Nat} {x : α} (h : xs[k]? = some x) : (xs.take (k + 1)).flatMap f = (xs.take k).flatMap f ++ f x := by rw [take_snoc h, List.flatMap_append]; simp
theorem flat_len {f : α → List β} {B : Nat} (hf : ∀ x, (f x).length ≤ B) : ∀ xs : List α, (xs.flatMap f).length ≤ xs.length * B
  | [] => by simp
  | x :: xs => by
    rw [List.flatMap_cons, List.length_append, List.length_cons, Nat.succ_mul]
    have := flat_len hf xs
    have := hf x
    omega
theorem take_flat_len {f : α → List β} {B : Nat} (hf : ∀ x, (f x).length ≤ B) (xs : List α) (k : Nat) : ((xs.take k).flatMap f).length ≤ xs.length * B :=
  Nat.le_trans (flat_len hf _) (Nat.mul_le_mul_right _ (by rw [List.length_take]; omega))
end
/-! comparing -/
def cmpI (x y : Int) : Int := if x < y then -1 else if y < x then 1 else 0
def orL : List Int → Int
  | [] => 0
  | x :: l => if x = 0 then orL l else x
theorem drop_cons {α : Type} {xs : List α} {k : Nat} {x : α} (h : xs[k]? = some x) : xs.drop k = x :: xs.drop (k + 1) := by
  obtain ⟨h1, h2⟩ := List.getElem?_eq_some_iff.1 h
  rw [← h2]; exact List.drop_eq_getElem_cons h1
def ordA (x y : Arc) : Int := orL [cmpI x.src y.src, cmpI x.dst y.dst, cmpI x.inp y.inp, cmpI x.out y.out]
def ordP (x y : Pair) : Int := orL [cmpI x.p y.p, cmpI x.q y.q]
/-- The first place of x, or -1. -/
def idxI (xs : List Int) (x : Int) : Int := if x ∈ xs then (xs.idxOf x : Int) else -1
theorem idxI_at {xs : List Int} {k : Nat} {x : Int} (h : xs[k]? = some x) (hn : x ∉ xs.take k) : idxI xs x = (k : Int) := by
  unfold idxI
  have hm := List.mem_of_getElem? h
  rw [if_pos hm]
  have hk := (List.getElem?_eq_some_iff.1 h).1
  have e : xs = xs.take k ++ x :: xs.drop (k + 1) := by rw [← drop_cons h, List.take_append_drop]
  rw [e, List.idxOf_append, if_neg hn]
  simp [List.idxOf_cons, List.length_take]
  omega
theorem idxI_nn {xs : List Int} {x : Int} : decide (0 ≤ idxI xs x) = decide (x ∈ xs) := by
  unfold idxI
  by_cases h : x ∈ xs
  · rw [if_pos h, decide_eq_decide]; simp [h]
  · rw [if_neg h, decide_eq_decide]; simp [h]
def vRune (r : Int) : Bool := (decide (0 ≤ r) && decide (r ≤ 1114111)) && (decide (r < 55296) || decide (57343 < r))
/-! validity -/
def inR (x m : Int) : Bool := decide (0 ≤ x) && decide (x < m)
def finAt (m : Int) (fs : List Int) (i : Nat) : Bool := !(!(inR (fs.getD i 0) m) || (decide (0 < (i : Int)) && decide (fs.getD i 0 ≤ fs.getD (i - 1) 0)))
def arcOk (m : Int) (x : Arc) : Bool := !(((!(inR x.src m) || !(inR x.dst m)) || !(vRune x.inp)) || !(vRune x.out))
def validT (t : Tra) : Bool := !((decide (t.states < 1) || decide (512 < t.states)) || decide (4096 < (t.arcs.length : Int))) && (((List.range t.finals.length).all (finAt t.states t.finals) && t.arcs.all (arcOk t.states)) && inR t.start t.states)
theorem getD_at {α : Type} {xs : List α} {k : Nat} {d : α} (h : k < xs.length) : xs[k]? = some (xs.getD k d) := by simp [h]
theorem getD_of {α : Type} {xs : List α} {k : Nat} {x d : α} (h : xs[k]? = some x) : xs.getD k d = x := by simp [h]
theorem finAt_of {m : Int} {fs : List Int} {k : Nat} {x : Int} (h : fs[k]? = some x) : finAt m fs k = !(!(inR x m) || (decide (0 < (k : Int)) && decide (x ≤ fs.getD (k - 1) 0))) := by simp only [finAt, getD_of h]
theorem all_range_false {f : Nat → Bool} {n k : Nat} (hk : k < n) (h : f k = false) : (List.range n).all f = false := by
  rw [List.all_eq_false]; exact ⟨k, List.mem_range.2 hk, by simp [h]⟩
theorem all_range_succ {f : Nat → Bool} {k : Nat} (h : (List.range k).all f = true) (hk : f k = true) : (List.range (k + 1)).all f = true := by
  rw [List.range_succ, List.all_append, h]; simp [hk]
theorem all_false_at {α : Type} {f : α → Bool} {xs : List α} {k : Nat} {x : α} (hx : xs[k]? = some x) (h : f x = false) : xs.all f = false := by
  rw [List.all_eq_false]; exact ⟨x, List.mem_of_getElem? hx, by simp [h]⟩
theorem all_take_succ {α : Type} {f : α → Bool} {xs : List α} {k : Nat} {x : α} (hx : xs[k]? = some x) (h : (xs.take k).all f = true) (hk : f x = true) : (xs.take (k + 1)).all f = true := by
  rw [take_snoc hx, List.all_append, h]; simp [hk]
theorem ixe {k : IntKind} {a b : Int} (h : a = b) : some (Value.int k a) = some (.int k b) := by rw [h]
/-! runs of equals -/
section
variable {α : Type} [DecidableEq α]
def dedupC : List α → List α
  | [] => []
  | x :: l => match l with
    | [] => [x]
    | y :: _ => if x = y then dedupC l else x :: dedupC l
theorem dedupC_snoc : ∀ (l : List α) (y z : α), dedupC (l ++ [y] ++ [z]) = if y = z then dedupC (l ++ [y]) else dedupC (l ++ [y]) ++ [z]
  | [], y, z => by simp [dedupC]; split <;> simp_all
  | [x], y, z => by
    have := dedupC_snoc [] y z
    simp only [List.nil_append] at this
    simp only [List.cons_append, List.nil_append, dedupC] at this ⊢
    split <;> split <;> simp_all
  | x :: x' :: l, y, z => by
    have := dedupC_snoc (x' :: l) y z
    simp only [List.cons_append] at this ⊢
    rw [dedupC, dedupC, this]
    split <;> split <;> simp_all
theorem dedupC_step {xs : List α} {n : Nat} {y z : α} (h1 : 1 ≤ n) (hy : xs[n - 1]? = some y) (hz : xs[n]? = some z) : dedupC (xs.take (n + 1)) = if y = z then dedupC (xs.take n) else dedupC (xs.take n) ++ [z] := by
  obtain ⟨m, rfl⟩ : ∃ m, n = m + 1 := ⟨n - 1, by omega⟩
  rw [take_snoc hz, take_snoc (by simpa using hy)]
  exact dedupC_snoc _ y z
theorem dedupC_short {xs : List α} (h : xs.length < 2) : dedupC xs = xs := by
  match xs, h with
  | [], _ => rfl
  | [x], _ => rfl
  | x :: y :: l, h => simp at h; omega
theorem drop_get {xs ys : List α} {k j : Nat} (h : ys.drop k = xs.drop k) (hj : k ≤ j) : ys[j]? = xs[j]? := by
  have := congrArg (fun l => l[j - k]?) h
  simpa [List.getElem?_drop, Nat.add_sub_cancel' hj] using this
theorem take_set_snoc {xs : List α} {k : Nat} {z : α} (h : k < xs.length) : (xs.set k z).take (k + 1) = xs.take k ++ [z] := by
  rw [take_snoc (x := z) (by simp [h]), List.take_set_of_le (Nat.le_refl _)]
theorem drop_more {xs ys : List α} {k j : Nat} (h : ys.drop k = xs.drop k) (hj : k ≤ j) : ys.drop j = xs.drop j := by
  have := congrArg (List.drop (j - k)) h
  simpa [List.drop_drop, Nat.add_sub_cancel' hj] using this
end
theorem lab_eq (r : Int) : ((decide (0 ≤ r) && decide (r < 55296)) || (decide (57343 < r) && decide (r ≤ 1114111))) = vRune r := by
  rw [Bool.eq_iff_iff]; simp [vRune]; omega
/-- The edges that leave a pair. -/
def edgA (s : Pair) (x y : Arc) : List Edge := if y.inp = x.out then [⟨s, ⟨x.dst, y.dst⟩, x.inp, y.out⟩] else []
def edgB (s : Pair) (y : Arc) : List Edge := if y.inp = 0 then [⟨s, ⟨s.p, y.dst⟩, 0, y.out⟩] else []
def edg1 (s : Pair) (ys : List Arc) (x : Arc) : List Edge := if x.out = 0 then [⟨s, ⟨x.dst, s.q⟩, x.inp, 0⟩] else ys.flatMap (edgA s x)
def edgL (s : Pair) (xs ys : List Arc) : List Edge := xs.flatMap (edg1 s ys) ++ ys.flatMap (edgB s)
theorem edgA_len (s : Pair) (x y : Arc) : (edgA s x y).length ≤ 1 := by unfold edgA; split <;> simp
theorem edgB_len (s : Pair) (y : Arc) : (edgB s y).length ≤ 1 := by unfold edgB; split <;> simp
theorem edg1_len (s : Pair) (ys : List Arc) (x : Arc) : (edg1 s ys x).length ≤ ys.length + 1 := by
  unfold edg1
  split
  · simp
  · have := flat_len (edgA_len s x) ys; omega
theorem edgL_len (s : Pair) (xs ys : List Arc) : (edgL s xs ys).length ≤ xs.length * (ys.length + 1) + ys.length := by
  rw [edgL, List.length_append]
  have := flat_len (edg1_len s ys) xs
  have := flat_len (edgB_len s) ys
  omega
/-- A slice of transducers that is read. -/
def rdTras (h : Heap) (v : Value) (ts : List Tra) : Prop := ∃ rs : List RTra, rdSl ETra h v rs ∧ rs.length = ts.length ∧ ∀ (j : Nat) (r : RTra) (t : Tra), rs[j]? = some r → ts[j]? = some t → t.rd h (.agg r.cells.toArray)
theorem RTra.eq {x : RTra} {s a : Int} {f r : SV} (h : Value.agg x.cells.toArray = .agg #[.int .i64 s, .int .i64 a, sv f, sv r]) : x = ⟨s, a, f, r⟩ := by
  obtain ⟨x1, x2, ⟨x3, x4, x5⟩, ⟨x6, x7, x8⟩⟩ := x
  obtain ⟨f1, f2, f3⟩ := f
  obtain ⟨r1, r2, r3⟩ := r
  simp [RTra.cells, sv] at h
  simp [h]
def fewB (t : Tra) : Bool := !((decide (5 < t.states) || decide (12 < (t.arcs.length : Int))) || decide (6 < (t.finals.length : Int)))
/-! eating a rune -/
def eatK (k : Nat) (r : Int) : Int := if r = 0 then (k : Int) else (k : Int) + 1
def eatB (l : List Int) (k : Nat) (r : Int) : Bool := if r = 0 then true else decide ((k : Int) < (l.length : Int)) && decide (l.getD k 0 = r)
def silA (xs : List Int) (i q j : Nat) (t : Arc) : List Config := if (eatB xs i t.inp && decide (t.out = 0)) = true then [⟨t.dst, eatK i t.inp, q, j⟩] else []
def silB (zs : List Int) (p i j : Nat) (u : Arc) : List Config := if (eatB zs j u.out && decide (u.inp = 0)) = true then [⟨p, i, u.dst, eatK j u.out⟩] else []
theorem silA_len (xs : List Int) (i q j : Nat) (t : Arc) : (silA xs i q j t).length ≤ 1 := by unfold silA; split <;> simp
theorem silB_len (zs : List Int) (p i j : Nat) (u : Arc) : (silB zs p i j u).length ≤ 1 := by unfold silB; split <;> simp
end Go.Proofs.YtmjieefhjmiagaaDoor.G
