/- From a law's row to its walk: arguments opened, the result handed back. Plain theorems over any program. -/
import Derived.Test.YtmjieefhjmiagaaDoorGRow
import Derived.ProofKit
import Derived.OpenShut
import Derived.LaidMore
import Derived.Carry
set_option linter.all false
namespace Go.Proofs.YtmjieefhjmiagaaDoor.G
open Go Go.RowKit Go.ChangeShapes
section
variable {H : Type} {enc : TypeId × Value → H} {P : Program} {w : World} {base : Nat} {sp : Nat → Bool} {held : Bool}
theorem list_of {α : Type} {p : Nat → α → Prop} : ∀ (n : Nat), (∀ i, i < n → ∃ x, p i x) → ∃ xs : List α, xs.length = n ∧ ∀ i x, xs[i]? = some x → p i x
  | 0, _ => ⟨[], rfl, by simp⟩
  | n + 1, h => by
    obtain ⟨xs, h1, h2⟩ := list_of n fun i hi => h i (by omega)
    obtain ⟨x, hx⟩ := h n (by omega)
    refine ⟨xs ++ [x], by simp [h1], fun i y hy => ?_⟩
    rw [List.getElem?_append] at hy
    split at hy
    · exact h2 i y hy
    · have : i = n := by
        have := (List.getElem?_eq_some_iff.1 hy).1
        simp at this; omega
      subst this
      rw [h1, Nat.sub_self] at hy
      simp at hy; subst hy; exact hx
theorem add_add (a : Addr) (n m : Nat) : (a.add n).add m = a.add (n + m) := by
  unfold Addr.add
  split <;> split <;> split <;> simp_all <;> omega
/-- A slice of an element type that reads. -/
theorem open_sl {α : Type} {E : ET P α} {Rp : α → Prop} {t : TypeId} (ht : P.underlying t = some (.slice E.T)) (hc : P.cellsOf E.T = E.sz) (hel : ∀ fuel cs x, DataW.trod enc P w base sp held fuel E.T cs = some x → ∃ a, cs = E.cells a ∧ Rp a) {fuel : Nat} {cs : List Value} {x : DataW H × List MemPlace} (h : DataW.trod enc P w base sp held fuel t cs = some x) :
    ∃ (u : SV) (xs : List α), cs = [sv u] ∧ rdSl E (hp w) (sv u) xs ∧ ∀ a ∈ xs, Rp a := by
  rcases DataW.trod_slice ht h with ⟨rfl, _⟩ | ⟨a, len, cap, elems, rest, n, _, rfl, _, _, hl, hm, hlen, hel', _⟩
  · exact ⟨nilV, [], rfl, rdSl_nil _, by simp⟩
  · obtain ⟨xs, hx1, hx2⟩ := list_of (p := fun i (x : α) => (∀ j v, (E.cells x)[j]? = some v → w.cell? (a.add (i * E.sz + j)) = some v) ∧ Rp x) len fun i hi => by
      have h2 := hel' i hi
      rw [List.getElem?_eq_getElem (by omega), Option.bind_eq_some_iff] at h2
      obtain ⟨cs, h3, h4⟩ := h2
      obtain ⟨x, rfl, hx⟩ := hel _ _ _ h4
      refine ⟨x, fun j v hj => ?_, hx⟩
      rw [hc] at h3
      have h5 := (World.cells?_some h3).2.2 j (by have := (List.getElem?_eq_some_iff.1 hj).1; rw [E.len] at this; exact this)
      rw [add_add] at h5
      rw [h5]; exact hj
    refine ⟨(some a, len, cap), xs, rfl, ⟨some a, cap, by simp [sv, hx1], by rw [hx1]; exact hl, hm, fun hne => ?_⟩, fun y hy => ?_⟩
    · have hpos := E.pos
      have h0 : 0 < len := by
        rw [← hx1]; exact List.length_pos_iff.2 hne
      have hat : ∀ t, t < xs.length * E.sz → ∃ v, (E.all xs)[t]? = some v ∧ w.cell? (a.add t) = some v := fun t ht => by
        obtain ⟨x, v, e1, e2, e3⟩ := all_get (E := E) xs t ht
        refine ⟨v, e3, ?_⟩
        have := (hx2 _ _ e1).1 _ _ e2
        rwa [Nat.mul_comm, Nat.div_add_mod] at this
      obtain ⟨v0, _, hv0⟩ := hat 0 (Nat.mul_pos (by omega) hpos)
      have ha0 : a.add 0 = a := rfl
      rw [ha0] at hv0
      unfold World.cell? at hv0
      split at hv0
      · rename_i cur T fr hb
        split at hv0
        · cases hv0
        · rename_i hs
          obtain ⟨b, o, s⟩ := a
          have hs' : s = none := by cases s with | none => rfl | some _ => simp at hs
          subst hs'
          refine ⟨b, o, rfl, cur, T, fr, hb, ?_⟩
          apply List.ext_getElem?
          intro t
          rw [List.getElem?_take]
          split
          · rename_i ht
            rw [E.all_length] at ht
            obtain ⟨v, e1, e2⟩ := hat t ht
            rw [e1, List.getElem?_drop, Array.getElem?_toList]
            rw [add_off] at e2
            have hb' : w.heap[b]? = some (.cells cur T fr) := hb
            simpa [World.cell?, hb'] using e2
          · rename_i ht
            rw [List.getElem?_eq_none (by omega)]
      · cases hv0
    · obtain ⟨i, hi⟩ := List.getElem?_of_mem hy
      exact (hx2 i y hi).2
theorem open_i {t : TypeId} {k : IntKind} (ht : P.underlying t = some (.int k)) {fuel : Nat} {cs : List Value} {x : DataW H × List MemPlace} (h : DataW.trod enc P w base sp held fuel t cs = some x) : ∃ n : Int, cs = [.int k n] := by
  obtain ⟨n, h1, _⟩ := DataW.trod_int ht h; exact ⟨n, h1⟩
theorem open_s {t : TypeId} (ht : P.underlying t = some .string) {fuel : Nat} {cs : List Value} {x : DataW H × List MemPlace} (h : DataW.trod enc P w base sp held fuel t cs = some x) : ∃ s : ByteArray, cs = [.string s] ∧ s.size ≤ maxLen := by
  obtain ⟨n, h1, _, h2⟩ := DataW.trod_string ht h; exact ⟨n, h1, h2⟩
/-- A field of a struct. -/
theorem fld {t : TypeId} {fs : Array Field} (ht : P.underlying t = some (.struct fs)) {fuel : Nat} {cs : List Value} {x : DataW H × List MemPlace} (h : DataW.trod enc P w base sp held fuel t cs = some x) :
    cs.length = P.cellsOf t ∧ ∀ (i : Nat) (f : Field), fs[i]? = some f → ∃ n y, DataW.trod enc P w base sp held n f.type ((cs.drop f.offset).take (P.cellsOf f.type)) = some y := by
  obtain ⟨xs, n, _, _, hl, hlen, hf⟩ := DataW.trod_struct ht h
  refine ⟨hl, fun i f hi => ?_⟩
  have := hf i f hi
  have hx : i < xs.length := by rw [hlen]; exact (Array.getElem?_eq_some_iff.1 hi).1
  rw [List.getElem?_eq_getElem hx] at this
  exact ⟨n, _, this⟩
theorem agg_of {t : TypeId} {fs : Array Field} (ht : P.underlying t = some (.struct fs)) {r : Reach} {b0 : Nat} {v : Value} (hv : Value.okWide P w r b0 t v) : ∃ l : List Value, v = .agg l.toArray := by
  unfold Value.okWide at hv
  rw [ht] at hv
  obtain ⟨cs, rfl, _⟩ := hv
  exact ⟨cs.toList, by simp⟩
theorem one_of {v : Value} {x : Value} (h : v.cells.toList = [x]) (h1 : x.oneCell' = true) (hv : ∀ l, v ≠ .agg l) : v = x := by
  cases v <;> first | (simp [Value.cells] at h; exact h) | exact absurd rfl (hv _)
theorem notAgg {t : TypeId} {d : TypeDesc} (ht : P.underlying t = some d) (hd : oneKind d = true) {r : Reach} {b0 : Nat} {v : Value} (hv : Value.okWide P w r b0 t v) : ∀ l, v ≠ .agg l := by
  rintro l rfl
  unfold Value.okWide at hv
  rw [ht] at hv
  cases d <;> first | (simp [oneKind] at hd; done) | (simp [Cell.okWide, ht, Cell.ok] at hv)
theorem four {cs : List Value} (h : cs.length = 4) : ∃ a b c d, cs = [a, b, c, d] := by
  match cs, h with
  | [a, b, c, d], _ => exact ⟨a, b, c, d, rfl⟩
theorem trodAll_below {ts : List TypeId} : ∀ {vs : List Value} {ds : List (DataW H)} {ps : List MemPlace} (hl : laidOutB P = true) (hr : (ts.all fun t => P.readableRec t && decide (t < P.types.size)) = true) {w' : World} (h : DataW.TrodAll enc P w 0 (fun _ => true) true ts vs ds ps) (hb : Below w.heap.size w w') (hlt : ∀ x ∈ ps, x.block < w.heap.size),
    DataW.TrodAll enc P w' 0 (fun b => decide (b < w.heap.size)) true ts vs ds ps := by
  induction ts with
  | nil => intro vs ds ps _ _ w' h _ _; cases vs <;> cases ds <;> exact h
  | cons t ts ih =>
    intro vs ds ps hl hr w' h hb hlt
    match vs, ds, h with
    | [], _, h => cases h
    | _ :: _, [], h => cases h
    | v :: vs, d :: ds, h =>
      obtain ⟨p, q, h1, h2, rfl⟩ := h
      simp only [List.all_cons, Bool.and_eq_true, decide_eq_true_eq] at hr
      exact ⟨p, q, Below.trod hl hr.1.1 hr.1.2 h1 hb fun x hx => hlt x (List.mem_append_left _ hx), ih hl hr.2 h2 hb fun x hx => hlt x (List.mem_append_right _ hx), rfl⟩
/-- A law's outcome. -/
theorem law_post {f : Func} {s : ChangeSpec} {apart fresh handsOn : Bool} {W W' : World} {args : Array Value} {ds : List (DataW H)} {before : List MemPlace} {tb : TypeId} (hl : laidOutB P = true) (hr : (f.params.toList.all fun t => P.readableRec t && decide (t < P.types.size)) = true) (hres : f.resultTypes = #[tb]) (htb : P.underlying tb = some .bool) (hv : s.vars = [])
    (hfn : s.fn H ds = { results := [.lit (.bool true)], args := ds }) (hW : DataW.Whole enc P f.params.toList s.vars apart W args.toList ds [] before) (bel : Below W.heap.size W W') : s.post enc P f apart fresh handsOn false W args (.bool true) W' := by
  have hW' := hW
  obtain ⟨p, q, h1, h2, rfl, _, _⟩ := hW
  refine ⟨ds, [], p ++ q, [], p, [], hW', ?_, ?_, ?_, bel.frame _, fun h => by cases h⟩
  · rw [List.append_nil, hfn, hres]
    exact trodAll_mk1 (shut_bool htb _)
  · rw [List.append_nil, hfn]
    exact trodAll_below hl hr h1 bel fun x hx => hW'.lt x (List.mem_append_left _ hx)
  · rw [List.append_nil, hfn, hv]
    rfl
theorem whole_vars {s : ChangeSpec} {ts : List TypeId} {apart : Bool} {W : World} {vs : List Value} {ds gs : List (DataW H)} {ps : List MemPlace} (hv : s.vars = []) (h : DataW.Whole enc P ts s.vars apart W vs ds gs ps) : gs = [] := by
  obtain ⟨p, q, _, h2, _⟩ := h
  rw [hv] at h2
  exact (trodVars_none h2).1
theorem ret_true {w : World} {I : Heap} {e : Ending} {w' : World} (h : Ret w I (fun r _ => r = .bool true) e w') : e = .returned (.bool true) ∧ Below w.heap.size w w' := by
  obtain ⟨v, I', rfl, g, rfl⟩ := h
  exact ⟨rfl, g.below⟩
end
end Go.Proofs.YtmjieefhjmiagaaDoor.G
