/- What Compose makes, in plain Lean. -/
/- What the references compute, in plain Lean. -/
import Derived.Test.YtfepjcmjkaolgaaGBfs
import Derived.Shelf.SlSortCmp.NoneTotal
set_option linter.all false
namespace Go.Proofs.Ytfepjcmjkaolgaa.G
open Go Go.RowKit Go.Sort Go.Shelf

section
variable {P : Program} {α : Type} {E : ET P α}
theorem flat_all [Inhabited α] (xs : List α) : flatK E.cells E.sz xs.toArray = (E.all xs).toArray := by
  apply Array.ext_getElem?
  intro t
  by_cases ht : t < xs.length * E.sz
  · obtain ⟨x, v, h1, h2, h3⟩ := all_get (E := E) xs t ht
    have hs : t < (flatK E.cells E.sz xs.toArray).size := by simpa using ht
    have hg := get_flatK E.cells E.sz xs.toArray t (by simpa using ht)
    rw [getElem!_pos (flatK E.cells E.sz xs.toArray) t hs] at hg
    rw [Array.getElem?_eq_getElem hs, hg]
    have e1 : (xs.toArray[t / E.sz]!) = x := by
      have := (List.getElem?_eq_some_iff.1 h1)
      obtain ⟨hl, he⟩ := this
      rw [getElem!_pos xs.toArray (t / E.sz) (by simpa using hl)]
      simpa using he
    rw [e1]
    obtain ⟨hl, he⟩ := List.getElem?_eq_some_iff.1 h2
    rw [getElem!_pos (E.cells x) (t % E.sz) hl, he]
    simpa using h3.symm
  · rw [Array.getElem?_eq_none (by simpa using Nat.le_of_not_lt ht), Array.getElem?_eq_none (by simpa [E.all_length] using Nat.le_of_not_lt ht)]
end
/-- Blocks and draws alone came to it. -/
theorem grown_of {w w' : World} (b : Below w.heap.size w w') (hd : w.drawn ≤ w'.drawn) : ∃ q os, w' = grow (w.drewN q) os := by
  refine ⟨w'.drawn - w.drawn, w'.heap.extract w.heap.size w'.heap.size, ?_⟩
  have hh : w'.heap = w.heap ++ w'.heap.extract w.heap.size w'.heap.size := by
    apply Array.ext_getElem?
    intro k
    rw [Array.getElem?_append]
    split
    · rename_i h; exact b.block k h
    · rename_i h
      rw [Array.getElem?_extract]
      have hs := b.size
      by_cases hk : k < w'.heap.size
      · rw [if_pos (by omega)]
        congr 1; omega
      · rw [if_neg (by omega), Array.getElem?_eq_none (by omega)]
  cases w' with
  | mk heap tape drawn os output =>
    simp only at hd hh
    unfold grow World.drewN
    simp only [World.mk.injEq]
    exact ⟨hh, b.tape, by omega, b.os, b.output⟩
theorem lays_of {P : Program} {α : Type} [Inhabited α] {E : ET P α} {g : Nat} {cb : Array Value} {cf : α → α → Int} (hc : ∀ (x y : α) {I : Heap} {w : World}, hle I (hp w) → Calls P g (#[.agg (E.cells x).toArray, .agg (E.cells y).toArray] ++ cb) w (Ret w I fun r _ => r = .int .i64 (cf x y))) (blk off size : Nat) (w : World) (h0 : 0 < w.heap.size) : CmpLays P g cb E.cells E.sz cf blk off size w :=
  fun m os dk hs x y => (hc x y (I := fun _ => none) (fun _ _ h => by cases h)).mono fun e w' h => by
    obtain ⟨v, I', rfl, g, rfl⟩ := h
    exact ⟨rfl, grown_of g.below (g.dr rfl (by show 0 < ((w.heap.modify blk _) ++ os).size; simp; omega))⟩
section
variable {P : Program} {α : Type} [Inhabited α] {E : ET P α} {w0 w : World} {I0 I : Heap} {L : List Res}
theorem holds_row {b o : Nat} {xs : List α} {cur : Array Value} {w : World} (hb : hp w b = some (.cells cur E.T (0, 0))) (hc : o + xs.length * E.sz ≤ cur.size) (hs : (cur.toList.drop o).take (xs.length * E.sz) = E.all xs) : HoldsK E.cells E.sz w b o xs.toArray := by
  intro j hj
  rw [flat_all] at hj ⊢
  have hj' : j < (E.all xs).length := by simpa using hj
  have h1 := ptr.cell (w := w) (b := b) (o := o) (cs := E.all xs) ⟨cur, E.T, (0, 0), hb, by rw [E.all_length]; exact hs⟩ j _ (List.getElem?_eq_getElem hj')
  rw [add_off] at h1
  refine ⟨by rw [h1, getElem!_pos _ j hj]; simp, ?_⟩
  have hb' : w.heap[b]? = some (.cells cur E.T (0, 0)) := hb
  simp [World.frozen?, hb']
theorem putCells_seg {o : Nat} {xs ys : List α} {cur : Array Value} (hl : ys.length = xs.length) (hc : o + xs.length * E.sz ≤ cur.size) :
    ((putCells id o (flatK E.cells E.sz ys.toArray) cur).toList.drop o).take (ys.length * E.sz) = E.all ys := by
  apply List.ext_getElem?
  intro t
  rw [List.getElem?_take]
  split
  · rename_i ht
    have hl2 : (E.all ys).length = ys.length * E.sz := E.all_length ys
    have hto : o + t < cur.size := by rw [hl] at ht; omega
    rw [List.getElem?_drop, Array.getElem?_toList, putCells, Array.getElem?_mapIdx, Array.getElem?_eq_getElem hto]
    simp only [Option.map_some]
    rw [if_pos (by rw [flat_all]; simp [hl2]; omega), flat_all]
    have : o + t - o = t := by omega
    rw [this, getElem!_pos (E.all ys).toArray t (by simp [hl2]; omega)]
    simp only [id, List.getElem_toArray]
    exact (List.getElem?_eq_getElem (by omega)).symm
  · rename_i ht
    rw [List.getElem?_eq_none]
    rw [E.all_length]; omega
/-- The world behind a sort. -/
theorem sort_mem {i : Nat} {b o c n : Nat} {xs ys : List α} {os : Array Obj} (M : Mem w0 I0 I L w) (hL : L[i]? = some (row E (.slice (some ⟨b, o, none⟩) xs.length c) xs)) (hne : xs ≠ []) (hl : ys.length = xs.length) :
    Mem w0 I0 I (L.set i (row E (.slice (some ⟨b, o, none⟩) xs.length c) ys)) (sortWorldK E.cells E.sz w b o n ys.toArray os) := by
  have hri := getElem?_mem' hL
  rcases (M.holds _ hri : rowHolds E _ xs (hp w)) with ⟨hv, _⟩ | ⟨b', o', c', cur, hv, hb, h1, h2, h3, h4⟩
  · cases hv
  · cases hv
    have hbl : b < w.heap.size := hp_lt hb
    have hc : o + xs.length * E.sz ≤ cur.size := by have := Nat.mul_le_mul_right E.sz h1; omega
    have hheap : ∀ k, k < w.heap.size → hp (sortWorldK E.cells E.sz w b o n ys.toArray os) k = if b = k then (w.heap[k]?).map (onCells (putCells id o (flatK E.cells E.sz ys.toArray))) else w.heap[k]? := fun k hk => by
      show ((w.heap.modify b (onCells (putCells id o (flatK E.cells E.sz ys.toArray)))) ++ os)[k]? = _
      rw [Array.getElem?_append_left (by simpa using hk), Array.getElem?_modify]
    have hnb : hp (sortWorldK E.cells E.sz w b o n ys.toArray os) b = some (.cells (putCells id o (flatK E.cells E.sz ys.toArray) cur) E.T (0, 0)) := by
      rw [hheap b hbl, if_pos rfl, show w.heap[b]? = _ from hb]; rfl
    have hsz : w.heap.size ≤ (sortWorldK E.cells E.sz w b o n ys.toArray os).heap.size := by
      show _ ≤ ((w.heap.modify b _) ++ os).size
      simp
    refine M.upd i hL _ ⟨rfl, rfl, rfl, hsz, fun k hk hn => ?_, Nat.le_add_right _ _⟩ (by simp [row, Value.ownBlock]) (fun x hx => .inl hx) (fun x hx => ?_) (.inr ⟨b, o, c, _, by rw [hl], hnb, by rw [hl]; exact h1, h2, ?_, putCells_seg hl hc⟩)
    · have := hheap k hk
      rw [if_neg (fun e => hn (by simp [row, Value.ownBlock, e]))] at this
      exact this
    · exact Nat.lt_of_lt_of_le (M.own hri hx).2.1 hsz
    · simpa [putCells] using h3
/-- slices.SortFunc on a row. -/
theorem sort_calls {ρ : Ren} (Ly : SlLaysF0.n6 P ρ) (aE : ∀ w, (isAgg (ρ.t 24)).run P w = .ok true w) (zE : ∀ w, (Go.sizeOf (ρ.t 24)).run P w = .ok E.sz w) (cf : α → α → Int) (hO : SWO (ltOf cf)) (hT : ∀ x y, (ltOf cf) x y = false → (ltOf cf) y x = false → x = y) {g : Nat} {cb : Array Value}
    (eg : ∀ args w, (callFunc g args).run P w = .ok (.enter g args) w) (hc : ∀ (x y : α) {I : Heap} {w : World}, hle I (hp w) → Calls P g (#[.agg (E.cells x).toArray, .agg (E.cells y).toArray] ++ cb) w (Ret w I fun r _ => r = .int .i64 (cf x y)))
    (i : Nat) {u : SV} {xs : List α} (M : Mem w0 I0 I L w) (hL : L[i]? = some (row E (sv u) xs)) (hsz : xs.length < 4611686018427387904) :
    Calls P (ρ.f 6) #[sv u, .func (.func g) #[] cb] w fun e w' => ∃ v, e = .returned v ∧ Mem w0 I0 I (L.set i (row E (sv u) (xs.mergeSort fun x y => !(ltOf cf) y x))) w' := by
  by_cases hne : xs = []
  · subst hne
    have hu : ∃ p cap, sv u = .slice p 0 cap := by
      rcases (M.holds _ (getElem?_mem' hL) : rowHolds E _ [] (hp w)) with ⟨hv, _⟩ | ⟨b', o', c', cur, hv, _⟩
      · exact ⟨none, 0, hv⟩
      · exact ⟨_, c', hv⟩
    obtain ⟨p, cap, hu⟩ := hu
    rw [hu] at hL ⊢
    refine (AnyF.slices_SortFunc_none Ly p cap _ w).mono fun e w' h => ⟨_, h.1, ?_⟩
    rw [h.2, List.mergeSort_nil]
    have : L.set i (row E (.slice p 0 cap) []) = L := by
      apply List.ext_getElem?
      intro j
      rw [List.getElem?_set]
      split
      · rename_i e; subst e
        split
        · exact hL.symm
        · rename_i h; rw [List.getElem?_eq_none (by omega)]
      · rfl
    rw [this]; exact M
  · rcases (M.holds _ (getElem?_mem' hL) : rowHolds E _ xs (hp w)) with ⟨_, hx⟩ | ⟨b, o, c, cur, hv, hb, h1, h2, h3, h4⟩
    · exact absurd hx hne
    · rw [hv] at hL ⊢
      have hcc : o + xs.length * E.sz ≤ cur.size := by have := Nat.mul_le_mul_right E.sz h1; omega
      have hH := holds_row (E := E) hb hcc h4
      have := AnyQ.slices_SortFunc_total Ly E.sz aE zE E.cells E.len E.one cf hO g cb b o c xs.toArray w eg (lays_of hc b o xs.toArray.size w (Nat.lt_of_le_of_lt (Nat.zero_le _) (hp_lt hb))) hH (hp_lt hb) (by simpa using hsz) hT
      simp only [List.size_toArray] at this
      refine this.mono fun e w' h => ⟨_, h.1, ?_⟩
      obtain ⟨_, n, os, rfl⟩ := h
      exact sort_mem M hL hne (by simp)
end
end Go.Proofs.Ytfepjcmjkaolgaa.G

set_option linter.all false
namespace Go.Proofs.Ytfepjcmjkaolgaa.G
open Go Go.RowKit Go.Sort Go.Shelf
instance : Inhabited Arc := ⟨⟨0, 0, 0, 0⟩⟩
instance : Inhabited Pair := ⟨⟨0, 0⟩⟩
def ltArc (x y : Arc) : Prop := x.src < y.src ∨ (x.src = y.src ∧ (x.dst < y.dst ∨ (x.dst = y.dst ∧ (x.inp < y.inp ∨ (x.inp = y.inp ∧ x.out < y.out)))))
theorem orL_cons (x y : Int) (l : List Int) : orL (cmpI x y :: l) < 0 ↔ x < y ∨ (x = y ∧ orL l < 0) := by
  simp only [orL, cmpI]
  by_cases h1 : x < y
  · simp [h1]
  · by_cases h2 : y < x
    · simp [h1, h2]; omega
    · have : x = y := by omega
      simp [this]
theorem ordA_lt (x y : Arc) : ordA x y < 0 ↔ ltArc x y := by
  unfold ordA ltArc
  rw [orL_cons, orL_cons, orL_cons, orL_cons]
  simp [orL]
theorem ltA (x y : Arc) : ltOf ordA x y = true ↔ ltArc x y := by simp [ltOf, ordA_lt]
theorem ltA' (x y : Arc) : ltOf ordA x y = false ↔ ¬ ltArc x y := by rw [← ltA]; simp
theorem swoA : SWO (ltOf ordA) where
  irrefl x := by rw [ltA']; unfold ltArc; omega
  trans x y z h1 h2 := by rw [ltA] at *; unfold ltArc at *; omega
  ntrans x y z h1 h2 := by rw [ltA'] at *; unfold ltArc at *; omega
theorem totA (x y : Arc) (h1 : ltOf ordA x y = false) (h2 : ltOf ordA y x = false) : x = y := by
  rw [ltA'] at *; unfold ltArc at *
  cases x; cases y; simp at *; omega
/-- Sorted. -/
def srtA (l : List Arc) : List Arc := l.mergeSort fun x y => !(ltOf ordA) y x
end Go.Proofs.Ytfepjcmjkaolgaa.G

set_option linter.all false
namespace Go.Proofs.Ytfepjcmjkaolgaa.G
open Go Go.RowKit Go.Sort Go.Shelf
def zeroTra : Tra := ⟨0, 0, [], []⟩
def oneTra : Tra := ⟨1, 0, [], []⟩
/-- Validity, spelt out. -/
theorem validT_ok {t : Tra} (h : validT t = true) : ∃ m : Nat, t.Ok m ∧ t.finals.Nodup ∧ t.finals.length ≤ 512 := by
  simp only [validT, Bool.and_eq_true, Bool.not_eq_true', Bool.or_eq_false_iff, decide_eq_false_iff_not] at h
  obtain ⟨⟨⟨h1, h2⟩, h3⟩, ⟨h4, h5⟩, h6⟩ := h
  simp only [inR, Bool.and_eq_true, decide_eq_true_eq] at h6
  have hfin : ∀ i, i < t.finals.length → (0 ≤ t.finals.getD i 0 ∧ t.finals.getD i 0 < t.states) ∧ (0 < i → t.finals.getD (i - 1) 0 < t.finals.getD i 0) := fun i hi => by
    have := List.all_eq_true.1 h4 i (List.mem_range.2 hi)
    simp only [finAt, Bool.not_eq_true', Bool.or_eq_false_iff, inR, Bool.and_eq_false_imp, Bool.not_eq_false', Bool.and_eq_true, decide_eq_true_eq] at this
    refine ⟨this.1, fun h0 => ?_⟩
    have := this.2 (by omega)
    simpa using this
  have hmono : ∀ j, j < t.finals.length → ∀ i, i < j → t.finals.getD i 0 < t.finals.getD j 0 := by
    intro j
    induction j with
    | zero => intro _ i hi; omega
    | succ j ih =>
      intro hj i hi
      have h1 := (hfin (j + 1) hj).2 (by omega)
      simp only [Nat.add_sub_cancel] at h1
      by_cases e : i = j
      · subst e; exact h1
      · exact Int.lt_trans (ih (by omega) i (by omega)) h1
  have hnd : t.finals.Nodup := by
    refine List.pairwise_iff_getElem.2 fun i j hi hj hij he => ?_
    have := hmono j hj i hij
    rw [getD_of (List.getElem?_eq_getElem hj), getD_of (List.getElem?_eq_getElem hi), he] at this
    omega
  have hlen : t.finals.length ≤ t.states.toNat := by
    have := hnd.length_le_of_subset (l₂ := (List.range t.states.toNat).map fun (i : Nat) => (i : Int)) (fun x hx => by
      obtain ⟨i, hi⟩ := List.getElem?_of_mem hx
      have h := hfin i (List.getElem?_eq_some_iff.1 hi).1
      rw [getD_of hi] at h
      exact List.mem_map.2 ⟨x.toNat, List.mem_range.2 (by omega), by omega⟩)
    simpa using this
  refine ⟨t.states.toNat, ⟨by omega, by omega, by omega, by omega, fun x hx => ?_, by omega⟩, hnd, by omega⟩
  have := List.all_eq_true.1 h5 x hx
  simp only [arcOk, Bool.not_eq_true', Bool.or_eq_false_iff, Bool.not_eq_false', inR, Bool.and_eq_true, decide_eq_true_eq] at this
  omega
end Go.Proofs.Ytfepjcmjkaolgaa.G

set_option linter.all false
namespace Go.Proofs.Ytfepjcmjkaolgaa.G
open Go Go.RowKit Go.Sort Go.Shelf
/-! the reference's search -/
def eA (fwd : Bool) (x : Arc) : Int := if fwd = true then x.src else x.dst
def eB (fwd : Bool) (x : Arc) : Int := if fwd = true then x.dst else x.src
def stp (t : Tra) (fwd : Bool) (s : Int) : List Int := (t.arcs.filter fun x => eA fwd x = s).map (eB fwd)
def bt (l : List Bool) (s : Int) : Prop := 0 ≤ s ∧ l[s.toNat]? = some true
theorem mem_stp {t : Tra} {fwd : Bool} {s r : Int} : r ∈ stp t fwd s ↔ ∃ x ∈ t.arcs, eA fwd x = s ∧ eB fwd x = r := by
  simp [stp, and_assoc]
theorem bt_set {l : List Bool} {s r : Int} (hr : 0 ≤ r ∧ r < l.length) : bt (l.set r.toNat true) s ↔ s = r ∨ bt l s := by
  unfold bt
  rw [List.getElem?_set]
  by_cases e : r.toNat = s.toNat
  · rw [if_pos e, if_pos (by omega)]
    constructor
    · intro h; left; omega
    · rintro (rfl | h)
      · exact ⟨hr.1, rfl⟩
      · exact ⟨h.1, rfl⟩
  · rw [if_neg e]
    constructor
    · intro h; exact .inr h
    · rintro (rfl | h)
      · exact absurd rfl e
      · exact h
theorem bt_rep {m : Nat} {s : Int} : ¬ bt (List.replicate m false) s := by
  rintro ⟨_, h⟩
  rw [List.getElem?_replicate] at h
  split at h <;> simp at h
theorem count_set {l : List Bool} {j : Nat} (h : l[j]? = some false) : (l.set j true).count false + 1 = l.count false := by
  obtain ⟨hj, he⟩ := List.getElem?_eq_some_iff.1 h
  have hpos : 0 < l.count false := List.count_pos_iff.2 (List.mem_of_getElem? h)
  rw [List.count_set hj, he]
  simp
  omega
/-- While the arcs are gone through: l0 what stood at the round's head, l what stands now, ag whether something has turned. -/
structure Pass (t : Tra) (fwd : Bool) (fr : List Int) (m : Nat) (l0 : List Bool) (k : Nat) (l : List Bool) (ag : Bool) : Prop where
  len : l.length = m
  sub : ∀ s, bt l s → Reach (stp t fwd) (· ∈ fr) s
  frm : ∀ s ∈ fr, bt l s
  up : ag = true → l.count false < l0.count false
  cl : ag = false → l = l0 ∧ ∀ x ∈ t.arcs.take k, bt l (eA fwd x) → bt l (eB fwd x)
theorem Pass.skip {t : Tra} {fwd : Bool} {fr : List Int} {m k : Nat} {l0 l : List Bool} {ag : Bool} {x : Arc} (h : Pass t fwd fr m l0 k l ag) (hx : t.arcs[k]? = some x) (hn : bt l (eA fwd x) → bt l (eB fwd x)) : Pass t fwd fr m l0 (k + 1) l ag :=
  ⟨h.len, h.sub, h.frm, h.up, fun e => ⟨(h.cl e).1, fun y hy => by
    rw [take_snoc hx] at hy
    rcases List.mem_append.1 hy with hy | hy
    · exact (h.cl e).2 y hy
    · rw [List.mem_singleton.1 hy]; exact hn⟩⟩
theorem Pass.hit {t : Tra} {fwd : Bool} {fr : List Int} {m k : Nat} {l0 l : List Bool} {ag : Bool} {x : Arc} (h : Pass t fwd fr m l0 k l ag) (hx : t.arcs[k]? = some x) (ha : bt l (eA fwd x)) (hb : 0 ≤ eB fwd x ∧ eB fwd x < m) (hf : l[(eB fwd x).toNat]? = some false) : Pass t fwd fr m l0 (k + 1) (l.set (eB fwd x).toNat true) true := by
  have hb' : 0 ≤ eB fwd x ∧ eB fwd x < l.length := by rw [h.len]; exact hb
  refine ⟨by simp [h.len], fun s hs => ?_, fun s hs => (bt_set hb').2 (.inr (h.frm s hs)), fun _ => ?_, fun e => by cases e⟩
  · rcases (bt_set hb').1 hs with rfl | hs
    · exact .tail (h.sub _ ha) (mem_stp.2 ⟨x, List.mem_of_getElem? hx, rfl, rfl⟩)
    · exact h.sub s hs
  · have h1 := count_set hf
    cases hag : ag with
    | true => have := h.up hag; omega
    | false => have := (h.cl hag).1; subst this; omega
theorem Pass.fin {t : Tra} {fwd : Bool} {fr : List Int} {m : Nat} {l : List Bool} (h1 : ∀ s, bt l s → Reach (stp t fwd) (· ∈ fr) s) (h2 : ∀ s ∈ fr, bt l s) (h3 : ∀ x ∈ t.arcs, bt l (eA fwd x) → bt l (eB fwd x)) (s : Int) : bt l s ↔ Reach (stp t fwd) (· ∈ fr) s := by
  refine ⟨h1 s, fun h => ?_⟩
  induction h with
  | base h => exact h2 _ h
  | tail _ hy ih =>
    obtain ⟨x, hx, rfl, rfl⟩ := mem_stp.1 hy
    exact h3 x hx ih
theorem bt_of {l : List Bool} {s : Int} {y : Bool} (h0 : 0 ≤ s) (h : l[s.toNat]? = some y) : bt l s ↔ y = true := by
  unfold bt; rw [h]; simp [h0]
/-! lists of arcs in their order, each once -/
def canon (l : List Arc) : List Arc := dedupC (srtA l)
theorem ltArc_trans {x y z : Arc} (h1 : ltArc x y) (h2 : ltArc y z) : ltArc x z := (ltA x z).1 (swoA.trans _ _ _ ((ltA x y).2 h1) ((ltA y z).2 h2))
theorem ltArc_irrefl {x : Arc} : ¬ ltArc x x := (ltA' x x).1 (swoA.irrefl x)
theorem ltArc_tri (x y : Arc) : ltArc x y ∨ x = y ∨ ltArc y x := by
  by_cases h1 : ltArc x y
  · exact .inl h1
  · by_cases h2 : ltArc y x
    · exact .inr (.inr h2)
    · exact .inr (.inl (totA x y ((ltA' x y).2 h1) ((ltA' y x).2 h2)))
theorem mem_dedupC {α : Type} [DecidableEq α] {z : α} : ∀ {l : List α}, z ∈ dedupC l ↔ z ∈ l
  | [] => by simp [dedupC]
  | [x] => by simp [dedupC]
  | x :: y :: l => by
    have := mem_dedupC (z := z) (l := y :: l)
    rw [dedupC]
    split
    · rename_i h; subst h; rw [this]; simp
    · rw [List.mem_cons, this, List.mem_cons (b := x)]
theorem dedupC_sorted : ∀ {l : List Arc}, l.Pairwise (fun a b => ¬ ltArc b a) → (dedupC l).Pairwise ltArc
  | [], _ => by simp [dedupC]
  | [x], _ => by simp [dedupC]
  | x :: y :: l, h => by
    obtain ⟨h1, h2⟩ := List.pairwise_cons.1 h
    have ih := dedupC_sorted h2
    rw [dedupC]
    split
    · exact ih
    · rename_i hne
      refine List.pairwise_cons.2 ⟨fun z hz => ?_, ih⟩
      have hxy : ltArc x y := by
        rcases ltArc_tri x y with h | h | h
        · exact h
        · exact absurd h hne
        · exact absurd h (h1 y (by simp))
      rcases List.mem_cons.1 (mem_dedupC.1 hz) with rfl | hz
      · exact hxy
      · rcases ltArc_tri y z with h | h | h
        · exact ltArc_trans hxy h
        · exact h ▸ hxy
        · exact absurd h ((List.pairwise_cons.1 h2).1 z hz)
theorem srtA_sorted (l : List Arc) : (srtA l).Pairwise (fun a b => ¬ ltArc b a) := by
  have tr : ∀ a b c : Arc, (!(ltOf ordA) b a) = true → (!(ltOf ordA) c b) = true → (!(ltOf ordA) c a) = true := fun a b c h1 h2 => by
    simp only [Bool.not_eq_true'] at *
    exact swoA.ntrans _ _ _ h2 h1
  have to : ∀ a b : Arc, (!(ltOf ordA) b a || !(ltOf ordA) a b) = true := fun a b => by
    cases h1 : ltOf ordA b a with
    | false => rfl
    | true =>
      cases h2 : ltOf ordA a b with
      | false => rfl
      | true => have := swoA.trans _ _ _ h1 h2; rw [swoA.irrefl] at this; cases this
  exact (List.pairwise_mergeSort tr to l).imp fun {a b} h => (ltA' b a).1 (by simpa using h)
theorem canon_sorted (l : List Arc) : (canon l).Pairwise ltArc := dedupC_sorted (srtA_sorted l)
theorem mem_canon {l : List Arc} {x : Arc} : x ∈ canon l ↔ x ∈ l := mem_dedupC.trans (List.mergeSort_perm l _).mem_iff
theorem nodup_of_lt {l : List Arc} (h : l.Pairwise ltArc) : l.Nodup := h.imp (S := (· ≠ ·)) fun {a b} hl (e : a = b) => ltArc_irrefl (x := b) (by rw [e] at hl; exact hl)
theorem sorted_ext : ∀ {l l' : List Arc}, l.Pairwise ltArc → l'.Pairwise ltArc → (∀ x, x ∈ l ↔ x ∈ l') → l = l' := fun {l l'} h1 h2 h => by
  have n1 := nodup_of_lt h1
  have n2 := nodup_of_lt h2
  exact ((List.perm_ext_iff_of_nodup n1 n2).2 h).eq_of_pairwise (fun a b _ _ x y => absurd (ltArc_trans x y) ltArc_irrefl) h1 h2
/-! the reference's trimming -/
def kpB (up dn : List Bool) (i : Nat) : Bool := up.getD i false && dn.getD i false
def rk (kp : Nat → Bool) (k : Nat) : Nat := ((List.range k).filter kp).length
theorem rk_hit {kp : Nat → Bool} {k : Nat} (h : kp k = true) : (rk kp k : Int) + 1 = (rk kp (k + 1) : Int) := by
  simp [rk, List.range_succ, List.filter_append, h]
theorem rk_skip {kp : Nat → Bool} {k : Nat} (h : kp k = false) : rk kp (k + 1) = rk kp k := by
  simp [rk, List.range_succ, List.filter_append, h]
theorem rk_le (kp : Nat → Bool) (k : Nat) : rk kp k ≤ k := by have := List.length_filter_le kp (List.range k); simpa [rk] using this
/-! the raw composition's ranges -/
theorem validT_fin {t : Tra} (h : validT t = true) : ∀ f ∈ t.finals, 0 ≤ f ∧ f < t.states := by
  simp only [validT, Bool.and_eq_true] at h
  intro f hf
  obtain ⟨i, hi⟩ := List.getElem?_of_mem hf
  have := List.all_eq_true.1 h.2.1.1 i (List.mem_range.2 (List.getElem?_eq_some_iff.1 hi).1)
  rw [finAt_of hi] at this
  simp only [Bool.not_eq_true', Bool.or_eq_false_iff, inR, Bool.not_eq_false', Bool.and_eq_true, decide_eq_true_eq] at this
  exact this.1
end Go.Proofs.Ytfepjcmjkaolgaa.G
