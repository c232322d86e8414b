/- Plain facts on transducers for the walks. -/
/- Searches through finite graphs, as plain Lean: what a queue and a set of known ones mean. -/
import Derived.Test.YtfepjcmjkaolgaaGBln
set_option linter.all false
namespace Go.Proofs.Ytfepjcmjkaolgaa.G
open Go Go.RowKit
def Tra.rd (h : Heap) (v : Value) (t : Tra) : Prop := ∃ fu au : SV, v = .agg #[.int .i64 t.states, .int .i64 t.start, sv fu, sv au] ∧ rdSl EInt h (sv fu) t.finals ∧ rdSl EArc h (sv au) t.arcs
theorem Tra.rd.mono {h h' : Heap} {v : Value} {t : Tra} (k : hle h h') (r : t.rd h v) : t.rd h' v := by
  obtain ⟨fu, au, rfl, h1, h2⟩ := r
  exact ⟨fu, au, rfl, h1.mono k, h2.mono k⟩
def lv (m : Nat) (arcs : List Arc) : List (List Arc) := (List.range m).map fun (s : Nat) => arcs.filter fun x => x.src = (s : Int)
theorem lv_nil (m : Nat) : lv m [] = List.replicate m [] := by
  simp [lv]; rw [List.eq_replicate_iff]; simp
theorem lv_at {m : Nat} {arcs : List Arc} {s : Nat} (h : s < m) : (lv m arcs)[s]? = some (arcs.filter fun x => x.src = (s : Int)) := by simp [lv, h]
theorem lv_snoc {m : Nat} {l : List Arc} {x : Arc} {s : Nat} (hs : x.src = (s : Int)) (h : s < m) : lv m (l ++ [x]) = (lv m l).set s ((l.filter fun y => y.src = (s : Int)) ++ [x]) := by
  apply List.ext_getElem?
  intro j
  rw [List.getElem?_set]
  by_cases hj : j < m
  · rw [lv_at hj]
    by_cases e : s = j
    · subst e
      rw [if_pos rfl, if_pos (by simpa [lv] using h), List.filter_append]
      simp [hs]
    · rw [if_neg e, lv_at hj, List.filter_append]
      have : ¬ (s : Int) = (j : Int) := by omega
      simp [hs, this]
  · have h1 : (lv m (l ++ [x]))[j]? = none := by simp [lv]; omega
    have h2 : (lv m l)[j]? = none := by simp [lv]; omega
    rw [h1, if_neg (by omega), h2]
theorem lv_le (m : Nat) (l : List Arc) (s : Nat) : (l.filter fun y => y.src = (s : Int)).length ≤ l.length := List.length_filter_le _ _
section
variable {α β : Type}
theorem take_snoc {xs : List α} {k : Nat} {x : α} (h : xs[k]? = some x) : xs.take (k + 1) = xs.take k ++ [x] := by rw [List.take_add_one, h]; rfl
theorem take_flat {f : α → List β} {xs : List α} {k : Nat} {x : α} (h : xs[k]? = some x) : (xs.take (k + 1)).flatMap f = (xs.take k).flatMap f ++ f x := by rw [take_snoc h, List.flatMap_append]; simp
theorem flat_len {f : α → List β} {B : Nat} (hf : ∀ x, (f x).length ≤ B) : ∀ xs : List α, (xs.flatMap f).length ≤ xs.length * B
  | [] => by simp
  | x :: xs => by
    rw [List.flatMap_cons, List.length_append, List.length_cons, Nat.succ_mul]
    have := flat_len hf xs
    have := hf x
    omega
theorem take_flat_len {f : α → List β} {B : Nat} (hf : ∀ x, (f x).length ≤ B) (xs : List α) (k : Nat) : ((xs.take k).flatMap f).length ≤ xs.length * B :=
  Nat.le_trans (flat_len hf _) (Nat.mul_le_mul_right _ (by rw [List.length_take]; omega))
end
/-! comparing -/
def cmpI (x y : Int) : Int := if x < y then -1 else if y < x then 1 else 0
def orL : List Int → Int
  | [] => 0
  | x :: l => if x = 0 then orL l else x
theorem drop_cons {α : Type} {xs : List α} {k : Nat} {x : α} (h : xs[k]? = some x) : xs.drop k = x :: xs.drop (k + 1) := by
  obtain ⟨h1, h2⟩ := List.getElem?_eq_some_iff.1 h
  rw [← h2]; exact List.drop_eq_getElem_cons h1
def ordA (x y : Arc) : Int := orL [cmpI x.src y.src, cmpI x.dst y.dst, cmpI x.inp y.inp, cmpI x.out y.out]
/-- The first place of x, or -1. -/
def idxI (xs : List Int) (x : Int) : Int := if x ∈ xs then (xs.idxOf x : Int) else -1
theorem idxI_at {xs : List Int} {k : Nat} {x : Int} (h : xs[k]? = some x) (hn : x ∉ xs.take k) : idxI xs x = (k : Int) := by
  unfold idxI
  have hm := List.mem_of_getElem? h
  rw [if_pos hm]
  have hk := (List.getElem?_eq_some_iff.1 h).1
  have e : xs = xs.take k ++ x :: xs.drop (k + 1) := by rw [← drop_cons h, List.take_append_drop]
  rw [e, List.idxOf_append, if_neg hn]
  simp [List.idxOf_cons, List.length_take]
  omega
theorem idxI_nn {xs : List Int} {x : Int} : decide (0 ≤ idxI xs x) = decide (x ∈ xs) := by
  unfold idxI
  by_cases h : x ∈ xs
  · rw [if_pos h, decide_eq_decide]; simp [h]
  · rw [if_neg h, decide_eq_decide]; simp [h]
def vRune (r : Int) : Bool := (decide (0 ≤ r) && decide (r ≤ 1114111)) && (decide (r < 55296) || decide (57343 < r))
/-! validity -/
def inR (x m : Int) : Bool := decide (0 ≤ x) && decide (x < m)
def finAt (m : Int) (fs : List Int) (i : Nat) : Bool := !(!(inR (fs.getD i 0) m) || (decide (0 < (i : Int)) && decide (fs.getD i 0 ≤ fs.getD (i - 1) 0)))
def arcOk (m : Int) (x : Arc) : Bool := !(((!(inR x.src m) || !(inR x.dst m)) || !(vRune x.inp)) || !(vRune x.out))
def validT (t : Tra) : Bool := !((decide (t.states < 1) || decide (512 < t.states)) || decide (4096 < (t.arcs.length : Int))) && (((List.range t.finals.length).all (finAt t.states t.finals) && t.arcs.all (arcOk t.states)) && inR t.start t.states)
theorem getD_at {α : Type} {xs : List α} {k : Nat} {d : α} (h : k < xs.length) : xs[k]? = some (xs.getD k d) := by simp [h]
theorem getD_of {α : Type} {xs : List α} {k : Nat} {x d : α} (h : xs[k]? = some x) : xs.getD k d = x := by simp [h]
theorem finAt_of {m : Int} {fs : List Int} {k : Nat} {x : Int} (h : fs[k]? = some x) : finAt m fs k = !(!(inR x m) || (decide (0 < (k : Int)) && decide (x ≤ fs.getD (k - 1) 0))) := by simp only [finAt, getD_of h]
theorem all_range_false {f : Nat → Bool} {n k : Nat} (hk : k < n) (h : f k = false) : (List.range n).all f = false := by
  rw [List.all_eq_false]; exact ⟨k, List.mem_range.2 hk, by simp [h]⟩
theorem all_range_succ {f : Nat → Bool} {k : Nat} (h : (List.range k).all f = true) (hk : f k = true) : (List.range (k + 1)).all f = true := by
  rw [List.range_succ, List.all_append, h]; simp [hk]
theorem all_false_at {α : Type} {f : α → Bool} {xs : List α} {k : Nat} {x : α} (hx : xs[k]? = some x) (h : f x = false) : xs.all f = false := by
  rw [List.all_eq_false]; exact ⟨x, List.mem_of_getElem? hx, by simp [h]⟩
theorem all_take_succ {α : Type} {f : α → Bool} {xs : List α} {k : Nat} {x : α} (hx : xs[k]? = some x) (h : (xs.take k).all f = true) (hk : f x = true) : (xs.take (k + 1)).all f = true := by
  rw [take_snoc hx, List.all_append, h]; simp [hk]
theorem ixe {k : IntKind} {a b : Int} (h : a = b) : some (Value.int k a) = some (.int k b) := by rw [h]
/-! runs of equals -/
section
variable {α : Type} [DecidableEq α]
def dedupC : List α → List α
  | [] => []
  | x :: l => match l with
    | [] => [x]
    | y :: _ => if x = y then dedupC l else x :: dedupC l
end
theorem RTra.eq {x : RTra} {s a : Int} {f r : SV} (h : Value.agg x.cells.toArray = .agg #[.int .i64 s, .int .i64 a, sv f, sv r]) : x = ⟨s, a, f, r⟩ := by
  obtain ⟨x1, x2, ⟨x3, x4, x5⟩, ⟨x6, x7, x8⟩⟩ := x
  obtain ⟨f1, f2, f3⟩ := f
  obtain ⟨r1, r2, r3⟩ := r
  simp [RTra.cells, sv] at h
  simp [h]
/-! eating a rune -/
def eatK (k : Nat) (r : Int) : Int := if r = 0 then (k : Int) else (k : Int) + 1
def eatB (l : List Int) (k : Nat) (r : Int) : Bool := if r = 0 then true else decide ((k : Int) < (l.length : Int)) && decide (l.getD k 0 = r)
def silA (xs : List Int) (i q j : Nat) (t : Arc) : List Config := if (eatB xs i t.inp && decide (t.out = 0)) = true then [⟨t.dst, eatK i t.inp, q, j⟩] else []
def silB (zs : List Int) (p i j : Nat) (u : Arc) : List Config := if (eatB zs j u.out && decide (u.inp = 0)) = true then [⟨p, i, u.dst, eatK j u.out⟩] else []
end Go.Proofs.Ytfepjcmjkaolgaa.G

set_option linter.all false
namespace Go.Proofs.Ytfepjcmjkaolgaa.G
open Go Go.RowKit
inductive Reach {α : Type} (E : α → List α) (s : α → Prop) : α → Prop
  | base {x : α} : s x → Reach E s x
  | tail {x y : α} : Reach E s x → y ∈ E x → Reach E s y
structure Bfs {α : Type} (E : α → List α) (s : α → Prop) (vs qs : List α) : Prop where
  nodup : (vs ++ qs).Nodup
  start : ∀ z, s z → z ∈ vs ++ qs
  closed : ∀ x ∈ vs, ∀ y ∈ E x, y ∈ vs ++ qs
  reach : ∀ x ∈ vs ++ qs, Reach E s x
structure BfsIn {α : Type} (E : α → List α) (s : α → Prop) (vs : List α) (x : α) (ds qs : List α) : Prop where
  nodup : (vs ++ x :: qs).Nodup
  start : ∀ z, s z → z ∈ vs ++ x :: qs
  closed : ∀ z ∈ vs, ∀ y ∈ E z, y ∈ vs ++ x :: qs
  reach : ∀ z ∈ vs ++ x :: qs, Reach E s z
  done : ∀ y ∈ ds, y ∈ vs ++ x :: qs
section
variable {α : Type} {E : α → List α} {s : α → Prop} {x y : α} {vs ds qs : List α}
theorem Bfs.init (E : α → List α) (s : α) : Bfs E (· = s) [] [s] := ⟨by simp, by simp, by simp, fun x hx => by simp at hx; subst hx; exact .base rfl⟩
theorem Bfs.opn (h : Bfs E s vs (x :: qs)) : BfsIn E s vs x [] qs := ⟨h.nodup, h.start, h.closed, h.reach, by simp⟩
theorem BfsIn.known (h : BfsIn E s vs x ds qs) (hy : y ∈ vs ++ x :: qs) : BfsIn E s vs x (ds ++ [y]) qs :=
  ⟨h.nodup, h.start, h.closed, h.reach, fun z hz => by
    rcases List.mem_append.1 hz with hz | hz
    · exact h.done z hz
    · rw [List.mem_singleton.1 hz]; exact hy⟩
theorem BfsIn.push (h : BfsIn E s vs x ds qs) (hy : y ∉ vs ++ x :: qs) (hE : y ∈ E x) : BfsIn E s vs x (ds ++ [y]) (qs ++ [y]) := by
  have e : vs ++ x :: (qs ++ [y]) = (vs ++ x :: qs) ++ [y] := by simp
  refine ⟨?_, ?_, fun z hz u hu => ?_, fun z hz => ?_, fun z hz => ?_⟩ <;> rw [e] at *
  · exact List.nodup_append.2 ⟨h.nodup, by simp, fun a ha b hb hab => hy (by rw [List.mem_singleton.1 hb] at hab; exact hab ▸ ha)⟩
  · exact fun z hz => List.mem_append.2 (.inl (h.start z hz))
  · exact List.mem_append.2 (.inl (h.closed z hz u hu))
  · rcases List.mem_append.1 hz with hz | hz
    · exact h.reach z hz
    · rw [List.mem_singleton.1 hz]; exact .tail (h.reach x (by simp)) hE
  · rcases List.mem_append.1 hz with hz | hz
    · exact List.mem_append.2 (.inl (h.done z hz))
    · exact List.mem_append.2 (.inr hz)
theorem BfsIn.close (h : BfsIn E s vs x ds qs) (hd : ∀ y ∈ E x, y ∈ ds) : Bfs E s (vs ++ [x]) qs := by
  have e : vs ++ [x] ++ qs = vs ++ x :: qs := by simp
  refine ⟨e ▸ h.nodup, e ▸ h.start, fun z hz u hu => ?_, fun z hz => h.reach z (e ▸ hz)⟩
  rw [e]
  rcases List.mem_append.1 hz with hz | hz
  · exact h.closed z hz u hu
  · rw [List.mem_singleton.1 hz] at hu; exact h.done u (hd u hu)
/-- What is left when the queue is empty. -/
structure Closure (E : α → List α) (s : α → Prop) (K : List α) : Prop where
  nodup : K.Nodup
  mem : ∀ x, x ∈ K ↔ Reach E s x
theorem Bfs.fin (h : Bfs E s vs []) : Closure E s vs := by
  obtain ⟨h1, h2, h3, h4⟩ := h
  rw [List.append_nil] at h1 h2 h4
  simp only [List.append_nil] at h3
  refine ⟨h1, fun x => ⟨h4 x, fun hx => ?_⟩⟩
  induction hx with
  | base h => exact h2 _ h
  | tail _ hy ih => exact h3 _ ih _ hy
theorem Bfs.len {U : List α} (h : Bfs E s vs qs) (hU : ∀ x, Reach E s x → x ∈ U) : vs.length + qs.length ≤ U.length := by
  have := h.nodup.length_le_of_subset (fun x hx => hU x (h.reach x hx))
  simpa using this
theorem BfsIn.len {U : List α} (h : BfsIn E s vs x ds qs) (hU : ∀ x, Reach E s x → x ∈ U) : vs.length + qs.length + 1 ≤ U.length := by
  have := h.nodup.length_le_of_subset (fun x hx => hU x (h.reach x hx))
  simp at this
  omega
/-! sets as maps to true -/
def tr (K : List α) : List (α × Bool) := K.map fun k => (k, true)
theorem tr_keys (K : List α) : (tr K).map (·.1) = K := by
  rw [tr, List.map_map]
  exact List.map_id K
variable [DecidableEq α]
theorem aget_tr (K : List α) (k : α) : (aget (tr K) k).getD false = decide (k ∈ K) := by
  induction K with
  | nil => rfl
  | cons a K ih =>
    show (aget ((a, true) :: tr K) k).getD false = _
    simp only [aget]
    by_cases h : a = k
    · simp [h]
    · have : ¬ k = a := fun e => h e.symm
      simp only [if_neg h, ih, List.mem_cons, this, false_or]
theorem aput_tr {K : List α} {k : α} (h : k ∉ K) : aput (tr K) k true = tr (K ++ [k]) := by
  rw [aput_new (aget_none.2 (by rw [tr_keys]; exact h))]
  simp [tr]
end
theorem nd_t {p : Prop} [Decidable p] (h : (!decide p) = true) : ¬ p := by simpa using h
theorem nd_f {p : Prop} [Decidable p] (h : (!decide p) = false) : p := by simpa using h
/-! the graph of a composition -/
def Tra.outs (t : Tra) (s : Int) : List Arc := t.arcs.filter fun x => x.src = s
structure Tra.Ok (t : Tra) (m : Nat) : Prop where
  st : t.states = m
  pos : 1 ≤ m
  le : m ≤ 512
  start : 0 ≤ t.start ∧ t.start < m
  arcs : ∀ x ∈ t.arcs, (0 ≤ x.src ∧ x.src < m) ∧ 0 ≤ x.dst ∧ x.dst < m
  alen : t.arcs.length ≤ 4096
theorem Tra.outs_len (t : Tra) (s : Int) : (t.outs s).length ≤ t.arcs.length := List.length_filter_le _ _
/-! groups: m[k] = append(m[k], v) for each of a list -/
section
variable {κ β γ : Type} [DecidableEq κ]
def grp (key : γ → κ) (f : γ → β) (ls : List γ) : List (κ × List β) := ls.foldl (fun g e => aput g (key e) ((aget g (key e)).getD [] ++ [f e])) []
theorem grp_snoc (key : γ → κ) (f : γ → β) (ls : List γ) (e : γ) : grp key f (ls ++ [e]) = aput (grp key f ls) (key e) ((aget (grp key f ls) (key e)).getD [] ++ [f e]) := by
  simp [grp, List.foldl_append]
theorem rev_ind {α : Type} {P : List α → Prop} (h0 : P []) (h1 : ∀ l x, P l → P (l ++ [x])) (l : List α) : P l := by
  rw [← List.reverse_reverse l]
  induction l.reverse with
  | nil => exact h0
  | cons x l ih => rw [List.reverse_cons]; exact h1 _ _ ih
theorem grp_look (key : γ → κ) (f : γ → β) (k : κ) (ls : List γ) : (aget (grp key f ls) k).getD [] = (ls.filter fun e => key e = k).map f := by
  refine rev_ind (P := fun ls => (aget (grp key f ls) k).getD [] = (ls.filter fun e => key e = k).map f) rfl (fun ls e ih => ?_) ls
  · rw [grp_snoc, aget_aput]
    by_cases h : key e = k
    · subst h
      simp [ih]
    · simp [h, ih]
theorem grp_look_len (key : γ → κ) (f : γ → β) (k : κ) (ls : List γ) : ((aget (grp key f ls) k).getD []).length ≤ ls.length := by
  rw [grp_look, List.length_map]; exact List.length_filter_le _ _
end
/-! the way back -/
theorem Closure.congr {α : Type} {E : α → List α} {S S' : α → Prop} {K : List α} (h : Closure E S K) (e : ∀ x, S x ↔ S' x) : Closure E S' K := by
  have : S = S' := funext fun x => propext (e x)
  rw [← this]; exact h
end Go.Proofs.Ytfepjcmjkaolgaa.G
