/- Walk library, part 9: slices.SortFunc over a slice of one's own (structs), by the kit's contract. -/
/- The orders of arcs and of pairs: total, strict. Plain Lean. -/
import Derived.Test.YtmjieefhjmiagaaGreatDoorGBfs
import Derived.Shelf.SlSortCmp.NoneTotal
set_option linter.all false
namespace Go.Proofs.YtmjieefhjmiagaaGreatDoor.G
open Go Go.RowKit Go.Sort Go.Shelf

section
variable {P : Program} {α : Type} {E : ET P α}
theorem flat_all [Inhabited α] (xs : List α) : flatK E.cells E.sz xs.toArray = (E.all xs).toArray := by
  apply Array.ext_getElem?
  intro t
  by_cases ht : t < xs.length * E.sz
  · obtain ⟨x, v, h1, h2, h3⟩ := all_get (E := E) xs t ht
    have hs : t < (flatK E.cells E.sz xs.toArray).size := by simpa using ht
    have hg := get_flatK E.cells E.sz xs.toArray t (by simpa using ht)
    rw [getElem!_pos (flatK E.cells E.sz xs.toArray) t hs] at hg
    rw [Array.getElem?_eq_getElem hs, hg]
    have e1 : (xs.toArray[t / E.sz]!) = x := by
      have := (List.getElem?_eq_some_iff.1 h1)
      obtain ⟨hl, he⟩ := this
      rw [getElem!_pos xs.toArray (t / E.sz) (by simpa using hl)]
      simpa using he
    rw [e1]
    obtain ⟨hl, he⟩ := List.getElem?_eq_some_iff.1 h2
    rw [getElem!_pos (E.cells x) (t % E.sz) hl, he]
    simpa using h3.symm
  · rw [Array.getElem?_eq_none (by simpa using Nat.le_of_not_lt ht), Array.getElem?_eq_none (by simpa [E.all_length] using Nat.le_of_not_lt ht)]
end
/-- Blocks and draws alone came to it. -/
theorem grown_of {w w' : World} (b : Below w.heap.size w w') (hd : w.drawn ≤ w'.drawn) : ∃ q os, w' = grow (w.drewN q) os := by
  refine ⟨w'.drawn - w.drawn, w'.heap.extract w.heap.size w'.heap.size, ?_⟩
  have hh : w'.heap = w.heap ++ w'.heap.extract w.heap.size w'.heap.size := by
    apply Array.ext_getElem?
    intro k
    rw [Array.getElem?_append]
    split
    · rename_i h; exact b.block k h
    · rename_i h
      rw [Array.getElem?_extract]
      have hs := b.size
      by_cases hk : k < w'.heap.size
      · rw [if_pos (by omega)]
        congr 1; omega
      · rw [if_neg (by omega), Array.getElem?_eq_none (by omega)]
  cases w' with
  | mk heap tape drawn os output =>
    simp only at hd hh
    unfold grow World.drewN
    simp only [World.mk.injEq]
    exact ⟨hh, b.tape, by omega, b.os, b.output⟩
theorem lays_of {P : Program} {α : Type} [Inhabited α] {E : ET P α} {g : Nat} {cb : Array Value} {cf : α → α → Int} (hc : ∀ (x y : α) {I : Heap} {w : World}, hle I (hp w) → Calls P g (#[.agg (E.cells x).toArray, .agg (E.cells y).toArray] ++ cb) w (Ret w I fun r _ => r = .int .i64 (cf x y))) (blk off size : Nat) (w : World) (h0 : 0 < w.heap.size) : CmpLays P g cb E.cells E.sz cf blk off size w :=
  fun m os dk hs x y => (hc x y (I := fun _ => none) (fun _ _ h => by cases h)).mono fun e w' h => by
    obtain ⟨v, I', rfl, g, rfl⟩ := h
    exact ⟨rfl, grown_of g.below (g.dr rfl (by show 0 < ((w.heap.modify blk _) ++ os).size; simp; omega))⟩
section
variable {P : Program} {α : Type} [Inhabited α] {E : ET P α} {w0 w : World} {I0 I : Heap} {L : List Res}
theorem holds_row {b o : Nat} {xs : List α} {cur : Array Value} {w : World} (hb : hp w b = some (.cells cur E.T (0, 0))) (hc : o + xs.length * E.sz ≤ cur.size) (hs : (cur.toList.drop o).take (xs.length * E.sz) = E.all xs) : HoldsK E.cells E.sz w b o xs.toArray := by
  intro j hj
  rw [flat_all] at hj ⊢
  have hj' : j < (E.all xs).length := by simpa using hj
  have h1 := ptr.cell (w := w) (b := b) (o := o) (cs := E.all xs) ⟨cur, E.T, (0, 0), hb, by rw [E.all_length]; exact hs⟩ j _ (List.getElem?_eq_getElem hj')
  rw [add_off] at h1
  refine ⟨by rw [h1, getElem!_pos _ j hj]; simp, ?_⟩
  have hb' : w.heap[b]? = some (.cells cur E.T (0, 0)) := hb
  simp [World.frozen?, hb']
theorem putCells_seg {o : Nat} {xs ys : List α} {cur : Array Value} (hl : ys.length = xs.length) (hc : o + xs.length * E.sz ≤ cur.size) :
    ((putCells id o (flatK E.cells E.sz ys.toArray) cur).toList.drop o).take (ys.length * E.sz) = E.all ys := by
  apply List.ext_getElem?
  intro t
  rw [List.getElem?_take]
  split
  · rename_i ht
    have hl2 : (E.all ys).length = ys.length * E.sz := E.all_length ys
    have hto : o + t < cur.size := by rw [hl] at ht; omega
    rw [List.getElem?_drop, Array.getElem?_toList, putCells, Array.getElem?_mapIdx, Array.getElem?_eq_getElem hto]
    simp only [Option.map_some]
    rw [if_pos (by rw [flat_all]; simp [hl2]; omega), flat_all]
    have : o + t - o = t := by omega
    rw [this, getElem!_pos (E.all ys).toArray t (by simp [hl2]; omega)]
    simp only [id, List.getElem_toArray]
    exact (List.getElem?_eq_getElem (by omega)).symm
  · rename_i ht
    rw [List.getElem?_eq_none]
    rw [E.all_length]; omega
/-- The world behind a sort. -/
theorem sort_mem {i : Nat} {b o c n : Nat} {xs ys : List α} {os : Array Obj} (M : Mem w0 I0 I L w) (hL : L[i]? = some (row E (.slice (some ⟨b, o, none⟩) xs.length c) xs)) (hne : xs ≠ []) (hl : ys.length = xs.length) :
    Mem w0 I0 I (L.set i (row E (.slice (some ⟨b, o, none⟩) xs.length c) ys)) (sortWorldK E.cells E.sz w b o n ys.toArray os) := by
  have hri := getElem?_mem' hL
  rcases (M.holds _ hri : rowHolds E _ xs (hp w)) with ⟨hv, _⟩ | ⟨b', o', c', cur, hv, hb, h1, h2, h3, h4⟩
  · cases hv
  · cases hv
    have hbl : b < w.heap.size := hp_lt hb
    have hc : o + xs.length * E.sz ≤ cur.size := by have := Nat.mul_le_mul_right E.sz h1; omega
    have hheap : ∀ k, k < w.heap.size → hp (sortWorldK E.cells E.sz w b o n ys.toArray os) k = if b = k then (w.heap[k]?).map (onCells (putCells id o (flatK E.cells E.sz ys.toArray))) else w.heap[k]? := fun k hk => by
      show ((w.heap.modify b (onCells (putCells id o (flatK E.cells E.sz ys.toArray)))) ++ os)[k]? = _
      rw [Array.getElem?_append_left (by simpa using hk), Array.getElem?_modify]
    have hnb : hp (sortWorldK E.cells E.sz w b o n ys.toArray os) b = some (.cells (putCells id o (flatK E.cells E.sz ys.toArray) cur) E.T (0, 0)) := by
      rw [hheap b hbl, if_pos rfl, show w.heap[b]? = _ from hb]; rfl
    have hsz : w.heap.size ≤ (sortWorldK E.cells E.sz w b o n ys.toArray os).heap.size := by
      show _ ≤ ((w.heap.modify b _) ++ os).size
      simp
    refine M.upd i hL _ ⟨rfl, rfl, rfl, hsz, fun k hk hn => ?_, Nat.le_add_right _ _⟩ (by simp [row, Value.ownBlock]) (fun x hx => .inl hx) (fun x hx => ?_) (.inr ⟨b, o, c, _, by rw [hl], hnb, by rw [hl]; exact h1, h2, ?_, putCells_seg hl hc⟩)
    · have := hheap k hk
      rw [if_neg (fun e => hn (by simp [row, Value.ownBlock, e]))] at this
      exact this
    · exact Nat.lt_of_lt_of_le (M.own hri hx).2.1 hsz
    · simpa [putCells] using h3
/-- slices.SortFunc on a row. -/
theorem sort_calls {ρ : Ren} (Ly : SlLaysF0.n6 P ρ) (aE : ∀ w, (isAgg (ρ.t 24)).run P w = .ok true w) (zE : ∀ w, (Go.sizeOf (ρ.t 24)).run P w = .ok E.sz w) (cf : α → α → Int) (hO : SWO (ltOf cf)) (hT : ∀ x y, (ltOf cf) x y = false → (ltOf cf) y x = false → x = y) {g : Nat} {cb : Array Value}
    (eg : ∀ args w, (callFunc g args).run P w = .ok (.enter g args) w) (hc : ∀ (x y : α) {I : Heap} {w : World}, hle I (hp w) → Calls P g (#[.agg (E.cells x).toArray, .agg (E.cells y).toArray] ++ cb) w (Ret w I fun r _ => r = .int .i64 (cf x y)))
    (i : Nat) {u : SV} {xs : List α} (M : Mem w0 I0 I L w) (hL : L[i]? = some (row E (sv u) xs)) (hsz : xs.length < 4611686018427387904) :
    Calls P (ρ.f 6) #[sv u, .func (.func g) #[] cb] w fun e w' => ∃ v, e = .returned v ∧ Mem w0 I0 I (L.set i (row E (sv u) (xs.mergeSort fun x y => !(ltOf cf) y x))) w' := by
  by_cases hne : xs = []
  · subst hne
    have hu : ∃ p cap, sv u = .slice p 0 cap := by
      rcases (M.holds _ (getElem?_mem' hL) : rowHolds E _ [] (hp w)) with ⟨hv, _⟩ | ⟨b', o', c', cur, hv, _⟩
      · exact ⟨none, 0, hv⟩
      · exact ⟨_, c', hv⟩
    obtain ⟨p, cap, hu⟩ := hu
    rw [hu] at hL ⊢
    refine (AnyF.slices_SortFunc_none Ly p cap _ w).mono fun e w' h => ⟨_, h.1, ?_⟩
    rw [h.2, List.mergeSort_nil]
    have : L.set i (row E (.slice p 0 cap) []) = L := by
      apply List.ext_getElem?
      intro j
      rw [List.getElem?_set]
      split
      · rename_i e; subst e
        split
        · exact hL.symm
        · rename_i h; rw [List.getElem?_eq_none (by omega)]
      · rfl
    rw [this]; exact M
  · rcases (M.holds _ (getElem?_mem' hL) : rowHolds E _ xs (hp w)) with ⟨_, hx⟩ | ⟨b, o, c, cur, hv, hb, h1, h2, h3, h4⟩
    · exact absurd hx hne
    · rw [hv] at hL ⊢
      have hcc : o + xs.length * E.sz ≤ cur.size := by have := Nat.mul_le_mul_right E.sz h1; omega
      have hH := holds_row (E := E) hb hcc h4
      have := AnyQ.slices_SortFunc_total Ly E.sz aE zE E.cells E.len E.one cf hO g cb b o c xs.toArray w eg (lays_of hc b o xs.toArray.size w (Nat.lt_of_le_of_lt (Nat.zero_le _) (hp_lt hb))) hH (hp_lt hb) (by simpa using hsz) hT
      simp only [List.size_toArray] at this
      refine this.mono fun e w' h => ⟨_, h.1, ?_⟩
      obtain ⟨_, n, os, rfl⟩ := h
      exact sort_mem M hL hne (by simp)
end
end Go.Proofs.YtmjieefhjmiagaaGreatDoor.G

set_option linter.all false
namespace Go.Proofs.YtmjieefhjmiagaaGreatDoor.G
open Go Go.RowKit Go.Sort Go.Shelf
instance : Inhabited Arc := ⟨⟨0, 0, 0, 0⟩⟩
instance : Inhabited Pair := ⟨⟨0, 0⟩⟩
def ltArc (x y : Arc) : Prop := x.src < y.src ∨ (x.src = y.src ∧ (x.dst < y.dst ∨ (x.dst = y.dst ∧ (x.inp < y.inp ∨ (x.inp = y.inp ∧ x.out < y.out)))))
def ltPair (x y : Pair) : Prop := x.p < y.p ∨ (x.p = y.p ∧ x.q < y.q)
theorem orL_cons (x y : Int) (l : List Int) : orL (cmpI x y :: l) < 0 ↔ x < y ∨ (x = y ∧ orL l < 0) := by
  simp only [orL, cmpI]
  by_cases h1 : x < y
  · simp [h1]
  · by_cases h2 : y < x
    · simp [h1, h2]; omega
    · have : x = y := by omega
      simp [this]
theorem ordA_lt (x y : Arc) : ordA x y < 0 ↔ ltArc x y := by
  unfold ordA ltArc
  rw [orL_cons, orL_cons, orL_cons, orL_cons]
  simp [orL]
theorem ordP_lt (x y : Pair) : ordP x y < 0 ↔ ltPair x y := by
  unfold ordP ltPair
  rw [orL_cons, orL_cons]
  simp [orL]
theorem ltA (x y : Arc) : ltOf ordA x y = true ↔ ltArc x y := by simp [ltOf, ordA_lt]
theorem ltA' (x y : Arc) : ltOf ordA x y = false ↔ ¬ ltArc x y := by rw [← ltA]; simp
theorem ltP (x y : Pair) : ltOf ordP x y = true ↔ ltPair x y := by simp [ltOf, ordP_lt]
theorem ltP' (x y : Pair) : ltOf ordP x y = false ↔ ¬ ltPair x y := by rw [← ltP]; simp
theorem swoA : SWO (ltOf ordA) where
  irrefl x := by rw [ltA']; unfold ltArc; omega
  trans x y z h1 h2 := by rw [ltA] at *; unfold ltArc at *; omega
  ntrans x y z h1 h2 := by rw [ltA'] at *; unfold ltArc at *; omega
theorem swoP : SWO (ltOf ordP) where
  irrefl x := by rw [ltP']; unfold ltPair; omega
  trans x y z h1 h2 := by rw [ltP] at *; unfold ltPair at *; omega
  ntrans x y z h1 h2 := by rw [ltP'] at *; unfold ltPair at *; omega
theorem totA (x y : Arc) (h1 : ltOf ordA x y = false) (h2 : ltOf ordA y x = false) : x = y := by
  rw [ltA'] at *; unfold ltArc at *
  cases x; cases y; simp at *; omega
theorem totP (x y : Pair) (h1 : ltOf ordP x y = false) (h2 : ltOf ordP y x = false) : x = y := by
  rw [ltP'] at *; unfold ltPair at *
  cases x; cases y; simp at *; omega
/-- Sorted. -/
def srtA (l : List Arc) : List Arc := l.mergeSort fun x y => !(ltOf ordA) y x
def srtP (l : List Pair) : List Pair := l.mergeSort fun x y => !(ltOf ordP) y x
end Go.Proofs.YtmjieefhjmiagaaGreatDoor.G
