/- algebra.visit: the search with a stack. slices.Sort at ints. Plain Lean; the contract of the sort on a row. -/
import Derived.Test.YtoilmeiikgegcaaDoorGTrm
import Derived.Test.YtoilmeiikgegcaaDoorGSort
import Derived.Test.YtoilmeiikgegcaaDoorGLayS
import Derived.Shelf.Sort.Plain
import Derived.Shelf.Slices.In.SortNone
set_option linter.all false
namespace Go.Proofs.YtoilmeiikgegcaaDoor.G
open Go Go.RowKit Go.Sort Go.Shelf
section
variable {P : Program} {n : Nat} {ops : Array Oper} {e : Env} {dst : Option Tmp} {ty : TypeId} {pos : String} {af : Array Go.Edge} {w0 w : World} {I0 I : Heap} {L : List Res}
/-- A load that comes up among effects. -/
theorem e_ldb (i : Nat) {x : Operand} {b o : Nat} {T T0 : TypeId} {d : TypeDesc} {cs : List Value} {v : Value} (M : Mem w0 I0 I L w) (hu : P.underlying T = some d) (hd : oneKind d = true) (hi : L[i]? = some (box b T0 cs)) (hx : evo e x = some (.pointer (some ⟨b, o, none⟩))) (hv : cs[o]? = some v) :
    Eff P n ops ⟨dst, .load T x, ty, pos, af, none⟩ e w fun v' w' => v' = v ∧ Mem w0 I0 I L w' := by
  replace hx := ev_of hx
  exact Eff.run (by simp [execOp, hx, Instr.loadAt, Instr.sureAddr, load_box M i hu hd hi hv]) rfl ⟨rfl, M⟩
end
def addT (sn : List Bool) (td : List Int) (s : Int) : List Int := if sn.getD s.toNat false = true then td else td ++ [s]
theorem set_same {l : List Bool} {i : Nat} (h : l[i]? = some true) : l.set i true = l := by
  apply List.ext_getElem?
  intro j
  rw [List.getElem?_set]
  split
  · rename_i e; subst e
    split
    · exact h.symm
    · rename_i h1; rw [List.getElem?_eq_none (by omega)]
  · rfl
theorem addT_old {sn : List Bool} {td : List Int} {s : Int} (h : sn[s.toNat]? = some true) : addT sn td s = td := by rw [addT, if_pos (by rw [List.getD_eq_getElem?_getD, h]; rfl)]
theorem addT_new {sn : List Bool} {td : List Int} {s : Int} (h : sn[s.toNat]? = some false) : addT sn td s = td ++ [s] := by rw [addT, if_neg (by rw [List.getD_eq_getElem?_getD, h]; simp)]
/-- sn: what is marked; td: the stack; ex: whose steps are being gone through. -/
structure Vs (E : Int → List Int) (fr : List Int) (m : Nat) (ex : Int → Prop) (sn : List Bool) (td : List Int) : Prop where
  len : sn.length = m
  sub : ∀ s, bt sn s → Reach E (· ∈ fr) s
  tds : ∀ s ∈ td, bt sn s
  cl : ∀ s, bt sn s → s ∈ td ∨ ex s ∨ ∀ r ∈ E s, bt sn r
  bnd : td.length + sn.count false ≤ m
section
variable {E : Int → List Int} {fr : List Int} {m : Nat} {ex : Int → Prop} {sn : List Bool} {td : List Int} {s x : Int}
theorem Vs.init : Vs E fr m (fun _ => False) (List.replicate m false) [] :=
  ⟨by simp, fun s h => absurd h bt_rep, by simp, fun s h => absurd h bt_rep, by simp [List.count_replicate]⟩
theorem Vs.some (h : Vs E fr m ex sn td) (hx : 0 ≤ x ∧ x < m) : sn[x.toNat]? = some true ∨ sn[x.toNat]? = some false := by
  have h1 : x.toNat < sn.length := by rw [h.len]; omega
  rw [List.getElem?_eq_getElem h1]
  cases sn[x.toNat] <;> simp
theorem Vs.add (h : Vs E fr m ex sn td) (hx : 0 ≤ x ∧ x < m) (hr : Reach E (· ∈ fr) x) : Vs E fr m ex (sn.set x.toNat true) (addT sn td x) := by
  rcases h.some hx with h1 | h1
  · rw [addT_old h1, set_same h1]; exact h
  · have hb : 0 ≤ x ∧ x < sn.length := by rw [h.len]; exact hx
    rw [addT_new h1]
    refine ⟨by simp [h.len], fun r hs => ?_, fun r hs => ?_, fun r hs => ?_, ?_⟩
    · rcases (bt_set hb).1 hs with rfl | h2
      · exact hr
      · exact h.sub r h2
    · rcases List.mem_append.1 hs with h2 | h2
      · exact (bt_set hb).2 (.inr (h.tds r h2))
      · exact (bt_set hb).2 (.inl (List.mem_singleton.1 h2))
    · rcases (bt_set hb).1 hs with rfl | h2
      · exact .inl (by simp)
      · rcases h.cl r h2 with h3 | h3 | h3
        · exact .inl (List.mem_append_left _ h3)
        · exact .inr (.inl h3)
        · exact .inr (.inr fun q hq => (bt_set hb).2 (.inr (h3 q hq)))
    · have h2 := count_set h1
      have h3 := h.bnd
      simp only [List.length_append, List.length_singleton]
      omega
theorem Vs.add_on (h : Vs E fr m ex sn td) (hx : 0 ≤ x ∧ x < m) : bt (sn.set x.toNat true) x := (bt_set (by rw [h.len]; exact hx)).2 (.inl rfl)
theorem Vs.add_mono (h : Vs E fr m ex sn td) (hx : 0 ≤ x ∧ x < m) {y : Int} (hy : bt sn y) : bt (sn.set x.toNat true) y := (bt_set (by rw [h.len]; exact hx)).2 (.inr hy)
theorem Vs.add_mu (h : Vs E fr m ex sn td) (hx : 0 ≤ x ∧ x < m) : 2 * (sn.set x.toNat true).count false + (addT sn td x).length ≤ 2 * sn.count false + td.length := by
  rcases h.some hx with h1 | h1
  · rw [addT_old h1, set_same h1]; exact Nat.le_refl _
  · rw [addT_new h1]
    have h2 := count_set h1
    simp only [List.length_append, List.length_singleton]
    omega
theorem Vs.pop (h : Vs E fr m (fun _ => False) sn (td ++ [s])) : Vs E fr m (· = s) sn td := by
  refine ⟨h.len, h.sub, fun r hr => h.tds r (List.mem_append_left _ hr), fun r hr => ?_, by have := h.bnd; simp only [List.length_append, List.length_singleton] at this; omega⟩
  rcases h.cl r hr with h1 | h1 | h1
  · rcases List.mem_append.1 h1 with h2 | h2
    · exact .inl h2
    · exact .inr (.inl (List.mem_singleton.1 h2))
  · exact h1.elim
  · exact .inr (.inr h1)
theorem Vs.close (h : Vs E fr m (· = s) sn td) (hd : ∀ r ∈ E s, bt sn r) : Vs E fr m (fun _ => False) sn td :=
  ⟨h.len, h.sub, h.tds, fun r hr => by
    rcases h.cl r hr with h1 | h1 | h1
    · exact .inl h1
    · exact .inr (.inr (h1 ▸ hd))
    · exact .inr (.inr h1), h.bnd⟩
theorem Vs.fin (h : Vs E fr m (fun _ => False) sn []) (hf : ∀ s ∈ fr, bt sn s) (s : Int) : bt sn s ↔ Reach E (· ∈ fr) s := by
  refine ⟨h.sub s, fun hr => ?_⟩
  induction hr with
  | base h1 => exact hf _ h1
  | tail _ hy ih =>
    rcases h.cl _ ih with h1 | h1 | h1
    · simp at h1
    · exact h1.elim
    · exact h1 _ hy
end
/-! slices.Sort -/
def srtI (l : List Int) : List Int := l.mergeSort fun x y => decide (x ≤ y)
theorem srtI_len (l : List Int) : (srtI l).length = l.length := List.length_mergeSort l
theorem mem_srtI {l : List Int} {x : Int} : x ∈ srtI l ↔ x ∈ l := (List.mergeSort_perm l _).mem_iff
theorem srtI_sorted (l : List Int) : (srtI l).Pairwise (· ≤ ·) :=
  (List.pairwise_mergeSort (le := fun x y : Int => decide (x ≤ y)) (fun a b c h1 h2 => by simp at *; omega) (fun a b => by simp; omega) l).imp fun h => by simpa using h
theorem dedupI_sorted : ∀ {l : List Int}, l.Pairwise (· ≤ ·) → (dedupC l).Pairwise (· < ·)
  | [], _ => by simp [dedupC]
  | [x], _ => by simp [dedupC]
  | x :: y :: l, h => by
    obtain ⟨h1, h2⟩ := List.pairwise_cons.1 h
    have ih := dedupI_sorted h2
    rw [dedupC]
    split
    · exact ih
    · rename_i hne
      refine List.pairwise_cons.2 ⟨fun z hz => ?_, ih⟩
      have hz' := mem_dedupC.1 hz
      have hxy := h1 y (by simp)
      rcases List.mem_cons.1 hz' with rfl | hz'
      · omega
      · have := (List.pairwise_cons.1 h2).1 z hz'
        omega
section
variable {w0 w : World} {I0 I : Heap} {L : List Res}
theorem flat_int (ys : List Int) : flatK EInt.cells EInt.sz ys.toArray = (ys.map (Value.int .i64)).toArray := by
  rw [flat_all, all_ints (fun _ => rfl)]
theorem put_int (ys : List Int) (o : Nat) (cur : Array Value) : putCells (Value.int .i64) o ys.toArray cur = putCells id o (flatK EInt.cells EInt.sz ys.toArray) cur := by
  rw [flat_int]
  apply Array.ext_getElem?
  intro k
  simp only [putCells, Array.getElem?_mapIdx, List.size_toArray, List.length_map]
  cases cur[k]? with
  | none => rfl
  | some v =>
    simp only [Option.map_some]
    split
    · rename_i h
      have hk : k - o < ys.length := by omega
      rw [getElem!_pos ys.toArray (k - o) (by simpa using hk), getElem!_pos (ys.map (Value.int .i64)).toArray (k - o) (by simpa using hk)]
      simp
    · rfl
theorem sortI_world (w : World) (b o n : Nat) (ys : List Int) (os : Array Obj) : grow (putRow (Value.int .i64) (Sort.ahead w n) b o ys.toArray) os = sortWorldK EInt.cells EInt.sz w b o n ys.toArray os := by
  unfold sortWorldK putRowK putRow
  congr 2
  funext c
  exact put_int ys o c
theorem sortI_c (i : Nat) {u : SV} {xs : List Int} (M : Mem w0 I0 I L w) (hL : L[i]? = some (row EInt (sv u) xs)) (hsz : xs.length < 4611686018427387904) :
    Calls A 70 #[sv u] w fun e w' => ∃ v, e = .returned v ∧ Mem w0 I0 I (L.set i (row EInt (sv u) (srtI xs))) w' := by
  by_cases hne : xs = []
  · subst hne
    have hu : ∃ p cap, sv u = .slice p 0 cap := by
      rcases (M.holds _ (getElem?_mem' hL) : rowHolds EInt _ [] (hp w)) with ⟨hv, _⟩ | ⟨b', o', c', cur, hv, _⟩
      · exact ⟨none, 0, hv⟩
      · exact ⟨_, c', hv⟩
    obtain ⟨p, cap, hu⟩ := hu
    rw [hu] at hL ⊢
    refine (Any.slices_Sort_int_none Tryd.sortI p cap w).mono fun e w' h => ⟨_, h.1, ?_⟩
    rw [h.2, srtI, List.mergeSort_nil]
    have : L.set i (row EInt (.slice p 0 cap) []) = L := by
      apply List.ext_getElem?
      intro j
      rw [List.getElem?_set]
      split
      · rename_i e; subst e
        split
        · exact hL.symm
        · rename_i h; rw [List.getElem?_eq_none (by omega)]
      · rfl
    rw [this]; exact M
  · rcases (M.holds _ (getElem?_mem' hL) : rowHolds EInt _ xs (hp w)) with ⟨_, hx⟩ | ⟨b, o, c, cur, hv, hb, h1, h2, h3, h4⟩
    · exact absurd hx hne
    · rw [hv] at hL ⊢
      have hcc : o + xs.length * EInt.sz ≤ cur.size := by have := Nat.mul_le_mul_right EInt.sz h1; omega
      have hK := holds_row (E := EInt) hb hcc h4
      have hH : Holds (Value.int .i64) w b o xs.toArray := fun j hj => by
        have := hK j (by rw [flat_int]; simpa using hj)
        rw [flat_int] at this
        have hj' : j < xs.length := by simpa using hj
        rw [getElem!_pos (xs.map (Value.int .i64)).toArray j (by simpa using hj')] at this
        rw [getElem!_pos xs.toArray j hj]
        simpa using this
      refine (Any.slices_Sort_int Tryd.sortI b o c xs w hH (hp_lt hb) hsz).mono fun e w' h => ⟨_, h.1, ?_⟩
      obtain ⟨_, n, os, rfl⟩ := h
      rw [sortI_world]
      exact sort_mem M hL hne (srtI_len xs)
end
end Go.Proofs.YtoilmeiikgegcaaDoor.G
