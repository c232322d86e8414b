/- slices.AppendSeq at runes, against whatever iterator keeps its contract. -/
/- Insertion sort, as slices.insertionSortOrdered goes. Plain Lean. -/
import Derived.Test.YtfepjcmjkaolgaaGBln
import Derived.Test.YtfepjcmjkaolgaaGSeq
import Derived.Test.YtfepjcmjkaolgaaGMem
set_option linter.all false
namespace Go.Proofs.Ytfepjcmjkaolgaa.G
open Go Go.RowKit
def Tra.rd (h : Heap) (v : Value) (t : Tra) : Prop := ∃ fu au : SV, v = .agg #[.int .i64 t.states, .int .i64 t.start, sv fu, sv au] ∧ rdSl EInt h (sv fu) t.finals ∧ rdSl EArc h (sv au) t.arcs
theorem Tra.rd.mono {h h' : Heap} {v : Value} {t : Tra} (k : hle h h') (r : t.rd h v) : t.rd h' v := by
  obtain ⟨fu, au, rfl, h1, h2⟩ := r
  exact ⟨fu, au, rfl, h1.mono k, h2.mono k⟩
def lv (m : Nat) (arcs : List Arc) : List (List Arc) := (List.range m).map fun (s : Nat) => arcs.filter fun x => x.src = (s : Int)
theorem lv_nil (m : Nat) : lv m [] = List.replicate m [] := by
  simp [lv]; rw [List.eq_replicate_iff]; simp
theorem lv_at {m : Nat} {arcs : List Arc} {s : Nat} (h : s < m) : (lv m arcs)[s]? = some (arcs.filter fun x => x.src = (s : Int)) := by simp [lv, h]
theorem lv_snoc {m : Nat} {l : List Arc} {x : Arc} {s : Nat} (hs : x.src = (s : Int)) (h : s < m) : lv m (l ++ [x]) = (lv m l).set s ((l.filter fun y => y.src = (s : Int)) ++ [x]) := by
  apply List.ext_getElem?
  intro j
  rw [List.getElem?_set]
  by_cases hj : j < m
  · rw [lv_at hj]
    by_cases e : s = j
    · subst e
      rw [if_pos rfl, if_pos (by simpa [lv] using h), List.filter_append]
      simp [hs]
    · rw [if_neg e, lv_at hj, List.filter_append]
      have : ¬ (s : Int) = (j : Int) := by omega
      simp [hs, this]
  · have h1 : (lv m (l ++ [x]))[j]? = none := by simp [lv]; omega
    have h2 : (lv m l)[j]? = none := by simp [lv]; omega
    rw [h1, if_neg (by omega), h2]
theorem lv_le (m : Nat) (l : List Arc) (s : Nat) : (l.filter fun y => y.src = (s : Int)).length ≤ l.length := List.length_filter_le _ _
section
variable {α β : Type}
theorem take_snoc {xs : List α} {k : Nat} {x : α} (h : xs[k]? = some x) : xs.take (k + 1) = xs.take k ++ [x] := by rw [List.take_add_one, h]; rfl
theorem take_flat {f : α → List β} {xs : List α} {k : Nat} {x : α} (h : xs[k]? = some x) : (xs.take (k + 1)).flatMap f = (xs.take k).flatMap f ++ f x := by rw [take_snoc h, List.flatMap_append]; simp
theorem flat_len {f : α → List β} {B : Nat} (hf : ∀ x, (f x).length ≤ B) : ∀ xs : List α, (xs.flatMap f).length ≤ xs.length * B
  | [] => by simp
  | x :: xs => by
    rw [List.flatMap_cons, List.length_append, List.length_cons, Nat.succ_mul]
    have := flat_len hf xs
    have := hf x
    omega
theorem take_flat_len {f : α → List β} {B : Nat} (hf : ∀ x, (f x).length ≤ B) (xs : List α) (k : Nat) : ((xs.take k).flatMap f).length ≤ xs.length * B :=
  Nat.le_trans (flat_len hf _) (Nat.mul_le_mul_right _ (by rw [List.length_take]; omega))
end
/-! comparing -/
def cmpI (x y : Int) : Int := if x < y then -1 else if y < x then 1 else 0
def orL : List Int → Int
  | [] => 0
  | x :: l => if x = 0 then orL l else x
theorem drop_cons {α : Type} {xs : List α} {k : Nat} {x : α} (h : xs[k]? = some x) : xs.drop k = x :: xs.drop (k + 1) := by
  obtain ⟨h1, h2⟩ := List.getElem?_eq_some_iff.1 h
  rw [← h2]; exact List.drop_eq_getElem_cons h1
def ordA (x y : Arc) : Int := orL [cmpI x.src y.src, cmpI x.dst y.dst, cmpI x.inp y.inp, cmpI x.out y.out]
/-- The first place of x, or -1. -/
def idxI (xs : List Int) (x : Int) : Int := if x ∈ xs then (xs.idxOf x : Int) else -1
theorem idxI_at {xs : List Int} {k : Nat} {x : Int} (h : xs[k]? = some x) (hn : x ∉ xs.take k) : idxI xs x = (k : Int) := by
  unfold idxI
  have hm := List.mem_of_getElem? h
  rw [if_pos hm]
  have hk := (List.getElem?_eq_some_iff.1 h).1
  have e : xs = xs.take k ++ x :: xs.drop (k + 1) := by rw [← drop_cons h, List.take_append_drop]
  rw [e, List.idxOf_append, if_neg hn]
  simp [List.idxOf_cons, List.length_take]
  omega
theorem idxI_nn {xs : List Int} {x : Int} : decide (0 ≤ idxI xs x) = decide (x ∈ xs) := by
  unfold idxI
  by_cases h : x ∈ xs
  · rw [if_pos h, decide_eq_decide]; simp [h]
  · rw [if_neg h, decide_eq_decide]; simp [h]
def vRune (r : Int) : Bool := (decide (0 ≤ r) && decide (r ≤ 1114111)) && (decide (r < 55296) || decide (57343 < r))
/-! validity -/
def inR (x m : Int) : Bool := decide (0 ≤ x) && decide (x < m)
def finAt (m : Int) (fs : List Int) (i : Nat) : Bool := !(!(inR (fs.getD i 0) m) || (decide (0 < (i : Int)) && decide (fs.getD i 0 ≤ fs.getD (i - 1) 0)))
def arcOk (m : Int) (x : Arc) : Bool := !(((!(inR x.src m) || !(inR x.dst m)) || !(vRune x.inp)) || !(vRune x.out))
def validT (t : Tra) : Bool := !((decide (t.states < 1) || decide (512 < t.states)) || decide (4096 < (t.arcs.length : Int))) && (((List.range t.finals.length).all (finAt t.states t.finals) && t.arcs.all (arcOk t.states)) && inR t.start t.states)
theorem getD_at {α : Type} {xs : List α} {k : Nat} {d : α} (h : k < xs.length) : xs[k]? = some (xs.getD k d) := by simp [h]
theorem getD_of {α : Type} {xs : List α} {k : Nat} {x d : α} (h : xs[k]? = some x) : xs.getD k d = x := by simp [h]
theorem finAt_of {m : Int} {fs : List Int} {k : Nat} {x : Int} (h : fs[k]? = some x) : finAt m fs k = !(!(inR x m) || (decide (0 < (k : Int)) && decide (x ≤ fs.getD (k - 1) 0))) := by simp only [finAt, getD_of h]
theorem all_range_false {f : Nat → Bool} {n k : Nat} (hk : k < n) (h : f k = false) : (List.range n).all f = false := by
  rw [List.all_eq_false]; exact ⟨k, List.mem_range.2 hk, by simp [h]⟩
theorem all_range_succ {f : Nat → Bool} {k : Nat} (h : (List.range k).all f = true) (hk : f k = true) : (List.range (k + 1)).all f = true := by
  rw [List.range_succ, List.all_append, h]; simp [hk]
theorem all_false_at {α : Type} {f : α → Bool} {xs : List α} {k : Nat} {x : α} (hx : xs[k]? = some x) (h : f x = false) : xs.all f = false := by
  rw [List.all_eq_false]; exact ⟨x, List.mem_of_getElem? hx, by simp [h]⟩
theorem all_take_succ {α : Type} {f : α → Bool} {xs : List α} {k : Nat} {x : α} (hx : xs[k]? = some x) (h : (xs.take k).all f = true) (hk : f x = true) : (xs.take (k + 1)).all f = true := by
  rw [take_snoc hx, List.all_append, h]; simp [hk]
theorem ixe {k : IntKind} {a b : Int} (h : a = b) : some (Value.int k a) = some (.int k b) := by rw [h]
/-! runs of equals -/
section
variable {α : Type} [DecidableEq α]
def dedupC : List α → List α
  | [] => []
  | x :: l => match l with
    | [] => [x]
    | y :: _ => if x = y then dedupC l else x :: dedupC l
end
theorem RTra.eq {x : RTra} {s a : Int} {f r : SV} (h : Value.agg x.cells.toArray = .agg #[.int .i64 s, .int .i64 a, sv f, sv r]) : x = ⟨s, a, f, r⟩ := by
  obtain ⟨x1, x2, ⟨x3, x4, x5⟩, ⟨x6, x7, x8⟩⟩ := x
  obtain ⟨f1, f2, f3⟩ := f
  obtain ⟨r1, r2, r3⟩ := r
  simp [RTra.cells, sv] at h
  simp [h]
/-! eating a rune -/
def eatK (k : Nat) (r : Int) : Int := if r = 0 then (k : Int) else (k : Int) + 1
def eatB (l : List Int) (k : Nat) (r : Int) : Bool := if r = 0 then true else decide ((k : Int) < (l.length : Int)) && decide (l.getD k 0 = r)
def silA (xs : List Int) (i q j : Nat) (t : Arc) : List Config := if (eatB xs i t.inp && decide (t.out = 0)) = true then [⟨t.dst, eatK i t.inp, q, j⟩] else []
def silB (zs : List Int) (p i j : Nat) (u : Arc) : List Config := if (eatB zs j u.out && decide (u.inp = 0)) = true then [⟨p, i, u.dst, eatK j u.out⟩] else []
end Go.Proofs.Ytfepjcmjkaolgaa.G

set_option linter.all false
namespace Go.Proofs.Ytfepjcmjkaolgaa.G
open Go Go.RowKit
inductive Reach {α : Type} (E : α → List α) (s : α → Prop) : α → Prop
  | base {x : α} : s x → Reach E s x
  | tail {x y : α} : Reach E s x → y ∈ E x → Reach E s y
structure Bfs {α : Type} (E : α → List α) (s : α → Prop) (vs qs : List α) : Prop where
  nodup : (vs ++ qs).Nodup
  start : ∀ z, s z → z ∈ vs ++ qs
  closed : ∀ x ∈ vs, ∀ y ∈ E x, y ∈ vs ++ qs
  reach : ∀ x ∈ vs ++ qs, Reach E s x
structure BfsIn {α : Type} (E : α → List α) (s : α → Prop) (vs : List α) (x : α) (ds qs : List α) : Prop where
  nodup : (vs ++ x :: qs).Nodup
  start : ∀ z, s z → z ∈ vs ++ x :: qs
  closed : ∀ z ∈ vs, ∀ y ∈ E z, y ∈ vs ++ x :: qs
  reach : ∀ z ∈ vs ++ x :: qs, Reach E s z
  done : ∀ y ∈ ds, y ∈ vs ++ x :: qs
section
variable {α : Type} {E : α → List α} {s : α → Prop} {x y : α} {vs ds qs : List α}
theorem Bfs.init (E : α → List α) (s : α) : Bfs E (· = s) [] [s] := ⟨by simp, by simp, by simp, fun x hx => by simp at hx; subst hx; exact .base rfl⟩
theorem Bfs.opn (h : Bfs E s vs (x :: qs)) : BfsIn E s vs x [] qs := ⟨h.nodup, h.start, h.closed, h.reach, by simp⟩
theorem BfsIn.known (h : BfsIn E s vs x ds qs) (hy : y ∈ vs ++ x :: qs) : BfsIn E s vs x (ds ++ [y]) qs :=
  ⟨h.nodup, h.start, h.closed, h.reach, fun z hz => by
    rcases List.mem_append.1 hz with hz | hz
    · exact h.done z hz
    · rw [List.mem_singleton.1 hz]; exact hy⟩
theorem BfsIn.push (h : BfsIn E s vs x ds qs) (hy : y ∉ vs ++ x :: qs) (hE : y ∈ E x) : BfsIn E s vs x (ds ++ [y]) (qs ++ [y]) := by
  have e : vs ++ x :: (qs ++ [y]) = (vs ++ x :: qs) ++ [y] := by simp
  refine ⟨?_, ?_, fun z hz u hu => ?_, fun z hz => ?_, fun z hz => ?_⟩ <;> rw [e] at *
  · exact List.nodup_append.2 ⟨h.nodup, by simp, fun a ha b hb hab => hy (by rw [List.mem_singleton.1 hb] at hab; exact hab ▸ ha)⟩
  · exact fun z hz => List.mem_append.2 (.inl (h.start z hz))
  · exact List.mem_append.2 (.inl (h.closed z hz u hu))
  · rcases List.mem_append.1 hz with hz | hz
    · exact h.reach z hz
    · rw [List.mem_singleton.1 hz]; exact .tail (h.reach x (by simp)) hE
  · rcases List.mem_append.1 hz with hz | hz
    · exact List.mem_append.2 (.inl (h.done z hz))
    · exact List.mem_append.2 (.inr hz)
theorem BfsIn.close (h : BfsIn E s vs x ds qs) (hd : ∀ y ∈ E x, y ∈ ds) : Bfs E s (vs ++ [x]) qs := by
  have e : vs ++ [x] ++ qs = vs ++ x :: qs := by simp
  refine ⟨e ▸ h.nodup, e ▸ h.start, fun z hz u hu => ?_, fun z hz => h.reach z (e ▸ hz)⟩
  rw [e]
  rcases List.mem_append.1 hz with hz | hz
  · exact h.closed z hz u hu
  · rw [List.mem_singleton.1 hz] at hu; exact h.done u (hd u hu)
/-- What is left when the queue is empty. -/
structure Closure (E : α → List α) (s : α → Prop) (K : List α) : Prop where
  nodup : K.Nodup
  mem : ∀ x, x ∈ K ↔ Reach E s x
theorem Bfs.fin (h : Bfs E s vs []) : Closure E s vs := by
  obtain ⟨h1, h2, h3, h4⟩ := h
  rw [List.append_nil] at h1 h2 h4
  simp only [List.append_nil] at h3
  refine ⟨h1, fun x => ⟨h4 x, fun hx => ?_⟩⟩
  induction hx with
  | base h => exact h2 _ h
  | tail _ hy ih => exact h3 _ ih _ hy
theorem Bfs.len {U : List α} (h : Bfs E s vs qs) (hU : ∀ x, Reach E s x → x ∈ U) : vs.length + qs.length ≤ U.length := by
  have := h.nodup.length_le_of_subset (fun x hx => hU x (h.reach x hx))
  simpa using this
theorem BfsIn.len {U : List α} (h : BfsIn E s vs x ds qs) (hU : ∀ x, Reach E s x → x ∈ U) : vs.length + qs.length + 1 ≤ U.length := by
  have := h.nodup.length_le_of_subset (fun x hx => hU x (h.reach x hx))
  simp at this
  omega
/-! sets as maps to true -/
def tr (K : List α) : List (α × Bool) := K.map fun k => (k, true)
theorem tr_keys (K : List α) : (tr K).map (·.1) = K := by
  rw [tr, List.map_map]
  exact List.map_id K
variable [DecidableEq α]
theorem aget_tr (K : List α) (k : α) : (aget (tr K) k).getD false = decide (k ∈ K) := by
  induction K with
  | nil => rfl
  | cons a K ih =>
    show (aget ((a, true) :: tr K) k).getD false = _
    simp only [aget]
    by_cases h : a = k
    · simp [h]
    · have : ¬ k = a := fun e => h e.symm
      simp only [if_neg h, ih, List.mem_cons, this, false_or]
theorem aput_tr {K : List α} {k : α} (h : k ∉ K) : aput (tr K) k true = tr (K ++ [k]) := by
  rw [aput_new (aget_none.2 (by rw [tr_keys]; exact h))]
  simp [tr]
end
theorem nd_t {p : Prop} [Decidable p] (h : (!decide p) = true) : ¬ p := by simpa using h
theorem nd_f {p : Prop} [Decidable p] (h : (!decide p) = false) : p := by simpa using h
/-! the graph of a composition -/
def Tra.outs (t : Tra) (s : Int) : List Arc := t.arcs.filter fun x => x.src = s
structure Tra.Ok (t : Tra) (m : Nat) : Prop where
  st : t.states = m
  pos : 1 ≤ m
  le : m ≤ 512
  start : 0 ≤ t.start ∧ t.start < m
  arcs : ∀ x ∈ t.arcs, (0 ≤ x.src ∧ x.src < m) ∧ 0 ≤ x.dst ∧ x.dst < m
  alen : t.arcs.length ≤ 4096
theorem Tra.outs_len (t : Tra) (s : Int) : (t.outs s).length ≤ t.arcs.length := List.length_filter_le _ _
/-! groups: m[k] = append(m[k], v) for each of a list -/
section
variable {κ β γ : Type} [DecidableEq κ]
def grp (key : γ → κ) (f : γ → β) (ls : List γ) : List (κ × List β) := ls.foldl (fun g e => aput g (key e) ((aget g (key e)).getD [] ++ [f e])) []
theorem grp_snoc (key : γ → κ) (f : γ → β) (ls : List γ) (e : γ) : grp key f (ls ++ [e]) = aput (grp key f ls) (key e) ((aget (grp key f ls) (key e)).getD [] ++ [f e]) := by
  simp [grp, List.foldl_append]
theorem rev_ind {α : Type} {P : List α → Prop} (h0 : P []) (h1 : ∀ l x, P l → P (l ++ [x])) (l : List α) : P l := by
  rw [← List.reverse_reverse l]
  induction l.reverse with
  | nil => exact h0
  | cons x l ih => rw [List.reverse_cons]; exact h1 _ _ ih
theorem grp_look (key : γ → κ) (f : γ → β) (k : κ) (ls : List γ) : (aget (grp key f ls) k).getD [] = (ls.filter fun e => key e = k).map f := by
  refine rev_ind (P := fun ls => (aget (grp key f ls) k).getD [] = (ls.filter fun e => key e = k).map f) rfl (fun ls e ih => ?_) ls
  · rw [grp_snoc, aget_aput]
    by_cases h : key e = k
    · subst h
      simp [ih]
    · simp [h, ih]
theorem grp_look_len (key : γ → κ) (f : γ → β) (k : κ) (ls : List γ) : ((aget (grp key f ls) k).getD []).length ≤ ls.length := by
  rw [grp_look, List.length_map]; exact List.length_filter_le _ _
end
/-! the way back -/
theorem Closure.congr {α : Type} {E : α → List α} {S S' : α → Prop} {K : List α} (h : Closure E S K) (e : ∀ x, S x ↔ S' x) : Closure E S' K := by
  have : S = S' := funext fun x => propext (e x)
  rw [← this]; exact h
end Go.Proofs.Ytfepjcmjkaolgaa.G

set_option linter.all false
namespace Go.Proofs.Ytfepjcmjkaolgaa.G
open Go Go.RowKit
theorem bsR1 (a0 : Value) : bldS A 40 1 [(0, [a0])] 21 [a0] := fun w => by kernel_rfl
theorem szR : (A.info? 40).map (·.size) = some 1 := by kernel_rfl
theorem appendSeq_c {w0 w : World} {I0 I : Heap} {Lt : List Res} {gf : FuncId} {lb : Array Value} {S : List Int → Prop} {N : Nat} (hN : (N + 1) * 4 ≤ 140737488355328) (eg : ∀ args w, (callFunc gf args).run A w = .ok (.enter gf args) w)
    (hit : Gives A gf lb (Value.int .i32) S N w0 I0 I) (M : Mem w0 I0 I Lt w) : Calls A 90 #[.slice none 0 0, .func (.func gf) #[] lb] w fun e w' => ∃ (u : SV) (xs : List Int), e = .returned (sv u) ∧ S xs ∧ Mem w0 I0 I (row ERune (sv u) xs :: Lt) w' := by
  have hoI := M.old
  refine enter_marks Try.func90 rfl 13 Try.ntmps90 [_, _] rfl ?_
  intro a hd hf
  refine wpIn_seq (wi_region hd hf ?_)
  refine wi_e opn_wide nofun (e_box M rfl) rfl rfl ?_
  rintro _ w1 ⟨b2, rfl, M⟩
  refine wi_q opn_wide nofun (q_assign rfl) M rfl rfl ?_
  refine wi_nil fun a hd hf => ?_
  refine wpIn_seq ?_
  refine wpIn_seq (wi_region hd hf ?_)
  refine wi_q opn_wide nofun (q_move rfl) M rfl rfl ?_
  refine wi_nil fun a hd hf => ?_
  refine wpIn_block ?_
  have hf' : Fits 13 a _ := (by obtain ⟨t, d⟩ := a; obtain rfl : d = [] := hd; exact hf)
  replace M := M.nilRow ERune
  refine wp_range (n := 13) hf' rfl rfl M eg hit (γ := SV) (fun u pre => row ERune (sv u) pre :: box b2 40 [sv u] :: Lt) nilV rfl (fun x => (5, .int .i32 x) :: (7, .int .i32 x) :: (6, .func (.func gf) #[] lb) :: (4, .slice none 0 0) :: (2, .pointer (some ⟨b2, 0, none⟩)) :: argsL 0 [.slice none 0 0, .func (.func gf) #[] lb]) ?_ ?_ ?_
  · intro F k x w' Q' hF h
    refine wi_q hF nofun (q_assign rfl) (S := fun _ => True) trivial rfl rfl ?_
    exact wi_nil h
  · intro F k u pre x w' X Y Z Q' hF hlt M h
    refine wi_q hF nofun (q_ldb 4 Try.underlying40 rfl rfl rfl rfl) M rfl rfl ?_
    refine wi_q hF nofun (q_move rfl) M rfl rfl ?_
    refine wi_e hF nofun (e_bsI (E := ERune) (xs := [x]) M (bsR1 _) ⟨⟨rfl, rfl⟩, trivial⟩ rfl rfl (by decide)) rfl rfl ?_
    rintro _ w3 ⟨u10, J10, rfl, hJ10, R10, M⟩
    refine wi_e hF nofun (e_app 3 M rfl R10 Try.underlying40 rfl rfl (by show (pre.length + 1) * 4 ≤ _; omega)) rfl rfl ?_
    rintro _ w4 ⟨u11, rfl, M⟩
    simp only [sC0, sCS] at M
    refine wi_e0 hF nofun (e_stb 4 M rfl rfl rfl szR rfl rfl) rfl ?_
    intro _ w5 M
    simp only [sC0, sCS] at M
    refine wi_nil fun a _ _ => ?_
    exact h a u11 _ (M.less hJ10 hoI)
  · intro D xs u w' a hd hf hS M
    show Code.wpIn Fence.wide 0 _ (Code.seq _ _) _ a w'
    refine wpIn_seq (wi_region hd hf ?_)
    refine wi_q opn_wide nofun (q_ldb 2 Try.underlying40 rfl rfl rfl rfl) M rfl rfl ?_
    refine wi_q opn_wide nofun (q_assign rfl) M rfl rfl ?_
    refine wi_nil fun a hd hf => ?_
    refine wpIn_ret ?_
    show LeavesInM _ _ _ _ a.tmps _ a.defers _ _
    rw [hd]
    refine leave_marks M hf fun w2 M2 => ?_
    exact out1 rfl rfl ⟨u, xs, rfl, hS, M2.drop 1⟩
end Go.Proofs.Ytfepjcmjkaolgaa.G

set_option linter.all false
namespace Go.Proofs.Ytfepjcmjkaolgaa.G
open Go Go.RowKit
structure Ins (xs l : List Int) (i : Nat) : Prop where
  perm : l.Perm xs
  pos : 0 < i
  srt : ∀ p q, p < q → q < i → ∀ x y, l[p]? = some x → l[q]? = some y → x ≤ y
structure InsIn (xs l : List Int) (i j : Nat) : Prop where
  perm : l.Perm xs
  ji : j ≤ i
  il : i < l.length
  old : ∀ p q, p < q → q ≤ i → p ≠ j → q ≠ j → ∀ x y, l[p]? = some x → l[q]? = some y → x ≤ y
  new : ∀ q, j < q → q ≤ i → ∀ x y, l[j]? = some x → l[q]? = some y → x ≤ y
theorem Ins.init {xs : List Int} : Ins xs xs 1 := ⟨.refl _, by decide, fun p q h1 h2 => by omega⟩
theorem Ins.len {xs l : List Int} {i : Nat} (h : Ins xs l i) : l.length = xs.length := h.perm.length_eq
theorem InsIn.len {xs l : List Int} {i j : Nat} (h : InsIn xs l i j) : l.length = xs.length := h.perm.length_eq
theorem Ins.opn {xs l : List Int} {i : Nat} (h : Ins xs l i) (hi : i < xs.length) : InsIn xs l i i :=
  ⟨h.perm, Nat.le_refl _, by rw [h.len]; exact hi, fun p q h1 h2 h3 h4 => h.srt p q h1 (by omega), fun q h1 h2 => by omega⟩
theorem swap_perm {l : List Int} {j k : Nat} {a b : Int} (hj : l[j]? = some a) (hk : l[k]? = some b) : ((l.set j b).set k a).Perm l := by
  obtain ⟨h1, e1⟩ := List.getElem?_eq_some_iff.1 hj
  obtain ⟨h2, e2⟩ := List.getElem?_eq_some_iff.1 hk
  rw [← e1, ← e2]
  exact List.set_set_perm h1 h2
theorem InsIn.step {xs l : List Int} {i j : Nat} {a b : Int} (h : InsIn xs l i j) (h0 : 0 < j) (hj : l[j]? = some a) (hk : l[j - 1]? = some b) (hlt : a < b) : InsIn xs ((l.set j b).set (j - 1) a) i (j - 1) := by
  have hji := h.ji
  have hil := h.il
  have g : ∀ q, ((l.set j b).set (j - 1) a)[q]? = if q = j - 1 then some a else if q = j then some b else l[q]? := fun q => by
    rw [List.getElem?_set, List.getElem?_set]
    by_cases e1 : q = j - 1
    · subst e1; rw [if_pos rfl, if_pos (by rw [List.length_set]; omega), if_pos rfl]
    · rw [if_neg (fun e => e1 e.symm), if_neg e1]
      by_cases e2 : q = j
      · subst e2; rw [if_pos rfl, if_pos (by omega), if_pos rfl]
      · rw [if_neg (fun e => e2 e.symm), if_neg e2]
  refine ⟨(swap_perm hj hk).trans h.perm, by omega, by simp; omega, fun p q h1 h2 h3 h4 x y hx hy => ?_, fun q h1 h2 x y hx hy => ?_⟩
  · rw [g, if_neg h3] at hx
    rw [g, if_neg h4] at hy
    by_cases e1 : p = j
    · rw [if_pos e1] at hx
      cases hx
      rw [if_neg (by omega)] at hy
      exact h.old (j - 1) q (by omega) h2 (by omega) (by omega) _ _ hk hy
    · rw [if_neg e1] at hx
      by_cases e2 : q = j
      · rw [if_pos e2] at hy
        cases hy
        exact h.old p (j - 1) (by omega) (by omega) e1 (by omega) _ _ hx hk
      · rw [if_neg e2] at hy
        exact h.old p q h1 h2 e1 e2 _ _ hx hy
  · rw [g, if_pos rfl] at hx
    cases hx
    rw [g, if_neg (by omega)] at hy
    by_cases e2 : q = j
    · rw [if_pos e2] at hy; cases hy; omega
    · rw [if_neg e2] at hy
      exact h.new q (by omega) h2 _ _ hj hy
theorem InsIn.done {xs l : List Int} {i j : Nat} (h : InsIn xs l i j) (hs : j = 0 ∨ ∃ a b, l[j]? = some a ∧ l[j - 1]? = some b ∧ b ≤ a) : Ins xs l (i + 1) := by
  refine ⟨h.perm, by omega, fun p q h1 h2 x y hx hy => ?_⟩
  by_cases e1 : p = j
  · subst e1; exact h.new q h1 (by omega) _ _ hx hy
  by_cases e2 : q = j
  · subst e2
    rcases hs with hs | ⟨a, b, ha, hb, hab⟩
    · omega
    · rw [ha] at hy
      cases hy
      by_cases e3 : p = q - 1
      · subst e3; rw [hb] at hx; cases hx; exact hab
      · exact Int.le_trans (h.old p (q - 1) (by omega) (by have := h.ji; omega) e1 (by omega) _ _ hx hb) hab
  · exact h.old p q h1 (by omega) e1 e2 _ _ hx hy
theorem Ins.fin {xs l : List Int} {i : Nat} (h : Ins xs l i) (hi : xs.length ≤ i) : l.Perm xs ∧ l.Pairwise (· ≤ ·) := by
  refine ⟨h.perm, List.pairwise_iff_getElem.2 fun p q hp hq hpq => ?_⟩
  exact h.srt p q hpq (by have := h.len; omega) _ _ (List.getElem?_eq_getElem hp) (List.getElem?_eq_getElem hq)
end Go.Proofs.Ytfepjcmjkaolgaa.G
