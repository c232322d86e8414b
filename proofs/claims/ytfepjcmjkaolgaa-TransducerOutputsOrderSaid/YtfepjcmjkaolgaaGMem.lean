/- Walk library, part 2 (memory): an immutable part of the heap, owned resources, element types, slices that are read. Plain theorems over any program. -/
import Derived.Test.YtfepjcmjkaolgaaGCtl
set_option linter.all false
namespace Go.Proofs.Ytfepjcmjkaolgaa.G
open Go Go.RowKit

abbrev Heap := Nat → Option Obj
def hp (w : World) : Heap := fun b => w.heap[b]?
def hle (h h' : Heap) : Prop := ∀ b o, h b = some o → h' b = some o
theorem hle.refl (h : Heap) : hle h h := fun _ _ e => e
theorem hle.trans {a b c : Heap} (h : hle a b) (k : hle b c) : hle a c := fun x o e => k x o (h x o e)
theorem hp_lt {w : World} {b : Nat} {o : Obj} (h : hp w b = some o) : b < w.heap.size := (Array.getElem?_eq_some_iff.1 h).1
theorem hle_lt {I : Heap} {w : World} (h : hle I (hp w)) {b : Nat} {o : Obj} (e : I b = some o) : b < w.heap.size := hp_lt (h b o e)

/-- Something owned: it lies in some blocks and speaks of these alone. -/
structure Res where
  blks : List Nat
  holds : Heap → Prop
  loc : ∀ h h' : Heap, (∀ b ∈ blks, h b = h' b) → holds h → holds h'

structure Mem (w0 : World) (I0 I : Heap) (L : List Res) (w : World) : Prop where
  below : Below w0.heap.size w0 w
  old : ∀ b, b < w0.heap.size → I b = I0 b
  imm : hle I (hp w)
  nodup : (L.flatMap Res.blks).Nodup
  mine : ∀ b ∈ L.flatMap Res.blks, w0.heap.size ≤ b ∧ b < w.heap.size ∧ I b = none
  holds : ∀ r ∈ L, r.holds (hp w)
  dr : I0 0 = none → 0 < w0.heap.size → w0.drawn ≤ w.drawn

/-- What a call leaves: nothing that was there has turned; the immutable part has grown. -/
structure Grow (w : World) (I : Heap) (w' : World) (I' : Heap) : Prop where
  below : Below w.heap.size w w'
  imm : hle I' (hp w')
  old : ∀ b, b < w.heap.size → I' b = I b
  dr : I 0 = none → 0 < w.heap.size → w.drawn ≤ w'.drawn

def Ret (w : World) (I : Heap) (post : Value → Heap → Prop) : Ending → World → Prop := fun e w' => ∃ v I', e = .returned v ∧ Grow w I w' I' ∧ post v I'

theorem Mem.start {I : Heap} {w : World} (h : hle I (hp w)) : Mem w I I [] w :=
  ⟨Below.refl _ _, fun _ _ => rfl, h, by simp, by simp, by simp, fun _ _ => Nat.le_refl _⟩
theorem Mem.grow {w0 w : World} {I0 I : Heap} {L : List Res} (M : Mem w0 I0 I L w) : Grow w0 I0 w I := ⟨M.below, M.imm, M.old, M.dr⟩
theorem Grow.hle {w w' : World} {I I' : Heap} (h : hle I (hp w)) (g : Grow w I w' I') : G.hle I I' := fun b o e => by rw [g.old b (hle_lt h e)]; exact e
theorem Grow.refl {w : World} {I : Heap} (h : G.hle I (hp w)) : Grow w I w I := ⟨Below.refl _ _, h, fun _ _ => rfl, fun _ _ => Nat.le_refl _⟩
section
variable {w0 w w' : World} {I0 I I' : Heap} {L : List Res}

theorem mem_blks {r : Res} (hr : r ∈ L) {b : Nat} (hb : b ∈ r.blks) : b ∈ L.flatMap Res.blks := List.mem_flatMap.2 ⟨r, hr, hb⟩
theorem Mem.own (M : Mem w0 I0 I L w) {r : Res} (hr : r ∈ L) {b : Nat} (hb : b ∈ r.blks) : w0.heap.size ≤ b ∧ b < w.heap.size ∧ I b = none := M.mine b (mem_blks hr hb)
theorem Mem.size (M : Mem w0 I0 I L w) : w0.heap.size ≤ w.heap.size := M.below.size

/-- The same heap. -/
theorem Mem.same (M : Mem w0 I0 I L w) (hh : w'.heap = w.heap) (ho : w'.os = w.os) (ht : w'.tape = w.tape) (hu : w'.output = w.output) (hd : w.drawn ≤ w'.drawn) : Mem w0 I0 I L w' := by
  have hpe : hp w' = hp w := by funext b; simp [hp, hh]
  refine ⟨⟨ho.trans M.below.os, ht.trans M.below.tape, hu.trans M.below.output, by rw [hh]; exact M.below.size, fun k hk => by rw [hh]; exact M.below.block k hk⟩, M.old, hpe ▸ M.imm, M.nodup, fun b hb => by rw [hh]; exact M.mine b hb, fun r hr => hpe ▸ M.holds r hr, fun h1 h2 => Nat.le_trans (M.dr h1 h2) hd⟩
theorem Mem.drew (M : Mem w0 I0 I L w) : Mem w0 I0 I L w.drew := M.same rfl rfl rfl rfl (Nat.le_succ _)
theorem Mem.drewN (M : Mem w0 I0 I L w) (k : Nat) : Mem w0 I0 I L (w.drewN k) := M.same rfl rfl rfl rfl (Nat.le_add_right _ _)

theorem hp_alloc_new (w : World) (o : Obj) : hp (w.alloc o) w.heap.size = some o := Go.heap_alloc_new w o
theorem hp_alloc_old (w : World) (o : Obj) {b : Nat} (h : b < w.heap.size) : hp (w.alloc o) b = hp w b := Go.heap_alloc_old w o h
theorem below_alloc' (M : Mem w0 I0 I L w) (o : Obj) : Below w0.heap.size w0 (w.alloc o) := M.below.alloc M.size o

/-- A new block of one's own. -/
theorem Mem.alloc (M : Mem w0 I0 I L w) (o : Obj) (r : Res) (hb : r.blks = [w.heap.size]) (hr : ∀ h : Heap, h w.heap.size = some o → r.holds h) : Mem w0 I0 I (r :: L) (w.alloc o) := by
  refine ⟨below_alloc' M o, M.old, fun b x e => by rw [hp_alloc_old w o (hle_lt M.imm e)]; exact M.imm b x e, ?_, ?_, ?_, M.dr⟩
  · simp only [List.flatMap_cons, hb, List.singleton_append, List.nodup_cons]
    exact ⟨fun h => by have := (M.mine _ h).2.1; omega, M.nodup⟩
  · intro b h
    simp only [List.flatMap_cons, hb, List.singleton_append, List.mem_cons] at h
    rcases h with rfl | h
    · refine ⟨M.size, by simp, ?_⟩
      cases e : I w.heap.size with
      | none => rfl
      | some x => exact absurd (hle_lt M.imm e) (by omega)
    · have := M.mine b h
      exact ⟨this.1, by simp; omega, this.2.2⟩
  · intro x hx
    rcases List.mem_cons.1 hx with rfl | hx
    · exact hr _ (hp_alloc_new w o)
    · exact x.loc _ _ (fun b hb => (hp_alloc_old w o (M.own hx hb).2.1).symm) (M.holds x hx)

/-- A new block that nobody writes any more. -/
def addI (I : Heap) (b : Nat) (o : Obj) : Heap := fun x => if x = b then some o else I x
theorem addI_le {I : Heap} {w : World} (h : hle I (hp w)) (o : Obj) : hle I (addI I w.heap.size o) := fun b x e => by
  have := hle_lt h e
  unfold addI
  rw [if_neg (by omega)]
  exact e
theorem Mem.allocI (M : Mem w0 I0 I L w) (o : Obj) : Mem w0 I0 (addI I w.heap.size o) L (w.alloc o) := by
  refine ⟨below_alloc' M o, fun b hb => ?_, fun b x e => ?_, M.nodup, fun b hb => ?_, fun x hx => x.loc _ _ (fun b hb => (hp_alloc_old w o (M.own hx hb).2.1).symm) (M.holds x hx), M.dr⟩
  · have := M.size
    unfold addI
    rw [if_neg (by omega)]
    exact M.old b hb
  · unfold addI at e
    split at e
    · rename_i h; subst h; rw [hp_alloc_new]; exact e
    · rw [hp_alloc_old w o (hle_lt M.imm e)]; exact M.imm b x e
  · have := M.mine b hb
    refine ⟨this.1, by simp; omega, ?_⟩
    unfold addI
    rw [if_neg (by omega)]
    exact this.2.2

/-- Blocks of bs alone may have turned. -/
structure Chg (w w' : World) (bs : List Nat) : Prop where
  os : w'.os = w.os
  tape : w'.tape = w.tape
  output : w'.output = w.output
  size : w.heap.size ≤ w'.heap.size
  block : ∀ k, k < w.heap.size → k ∉ bs → w'.heap[k]? = w.heap[k]?
  dr : w.drawn ≤ w'.drawn

theorem getElem?_mem' {r : Res} {i : Nat} (h : L[i]? = some r) : r ∈ L := List.mem_of_getElem? h
theorem mem_set {r x : Res} {i : Nat} (h : x ∈ L.set i r) : x = r ∨ ∃ j, j ≠ i ∧ L[j]? = some x := by
  obtain ⟨j, hj⟩ := List.getElem?_of_mem h
  rw [List.getElem?_set] at hj
  split at hj
  · rename_i e; split at hj
    · exact .inl (by simpa using hj.symm)
    · cases hj
  · rename_i e; exact .inr ⟨j, fun h => e h.symm, hj⟩
/-- Two resources at two places share no block. -/
theorem apart_of_nodup : ∀ {L : List Res} (hn : (L.flatMap Res.blks).Nodup) {i j : Nat} {r s : Res}, L[i]? = some r → L[j]? = some s → i ≠ j → ∀ b, b ∈ r.blks → b ∉ s.blks := by
  intro L
  induction L with
  | nil => intro hn i j r s hi; simp at hi
  | cons x L ih =>
    intro hn i j r s hi hj hne b hb hb'
    simp only [List.flatMap_cons, List.nodup_append] at hn
    obtain ⟨h1, h2, h3⟩ := hn
    cases i with
    | zero =>
      simp at hi
      subst hi
      cases j with
      | zero => exact hne rfl
      | succ j => simp at hj; exact h3 b hb b (mem_blks (List.mem_of_getElem? hj) hb') rfl
    | succ i =>
      simp at hi
      cases j with
      | zero => simp at hj; subst hj; exact h3 b hb' b (mem_blks (List.mem_of_getElem? hi) hb) rfl
      | succ j => simp at hj; exact ih h2 hi hj (by omega) b hb hb'
theorem nodup_set : ∀ {L : List Res} {i : Nat} {r r' : Res} {m : Nat} (hn : (L.flatMap Res.blks).Nodup) (hm : ∀ b ∈ L.flatMap Res.blks, b < m) (hi : L[i]? = some r) (h1 : r'.blks.Nodup) (h2 : ∀ b ∈ r'.blks, b ∈ r.blks ∨ m ≤ b), ((L.set i r').flatMap Res.blks).Nodup := by
  intro L
  induction L with
  | nil => intro i r r' m hn hm hi; simp at hi
  | cons x L ih =>
    intro i r r' m hn hm hi h1 h2
    simp only [List.flatMap_cons, List.nodup_append] at hn
    obtain ⟨n1, n2, n3⟩ := hn
    cases i with
    | zero =>
      simp at hi
      subst hi
      simp only [List.set_cons_zero, List.flatMap_cons, List.nodup_append]
      refine ⟨h1, n2, fun a ha b hb => ?_⟩
      rcases h2 a ha with h | h
      · exact n3 a h b hb
      · have := hm b (by simp only [List.flatMap_cons, List.mem_append]; exact .inr hb); omega
    | succ i =>
      simp at hi
      simp only [List.set_cons_succ, List.flatMap_cons, List.nodup_append]
      refine ⟨n1, ih n2 (fun b hb => hm b (by simp only [List.flatMap_cons, List.mem_append]; exact .inr hb)) hi h1 h2, fun a ha b hb => ?_⟩
      obtain ⟨y, hy, hby⟩ := List.mem_flatMap.1 hb
      rcases mem_set hy with rfl | ⟨j, _, hj⟩
      · rcases h2 b hby with h | h
        · exact n3 a ha b (mem_blks (List.mem_of_getElem? hi) h)
        · have := hm a (by simp only [List.flatMap_cons, List.mem_append]; exact .inl ha); omega
      · exact n3 a ha b (mem_blks (List.mem_of_getElem? hj) hby)

/-- One resource is changed. -/
theorem Mem.upd (M : Mem w0 I0 I L w) (i : Nat) {r : Res} (hi : L[i]? = some r) (r' : Res) (hc : Chg w w' r.blks) (h1 : r'.blks.Nodup) (h2 : ∀ b ∈ r'.blks, b ∈ r.blks ∨ w.heap.size ≤ b) (h3 : ∀ b ∈ r'.blks, b < w'.heap.size) (hr : r'.holds (hp w')) : Mem w0 I0 I (L.set i r') w' := by
  have hri := getElem?_mem' hi
  have notI : ∀ b o, I b = some o → b ∉ r.blks := fun b o e hb => by have := (M.own hri hb).2.2; rw [this] at e; cases e
  refine ⟨⟨hc.os.trans M.below.os, hc.tape.trans M.below.tape, hc.output.trans M.below.output, Nat.le_trans M.below.size hc.size, fun k hk => ?_⟩, M.old, fun b o e => ?_, nodup_set M.nodup (fun b hb => (M.mine b hb).2.1) hi h1 h2, fun b hb => ?_, fun x hx => ?_, fun h1 h2 => Nat.le_trans (M.dr h1 h2) hc.dr⟩
  · rw [hc.block k (Nat.lt_of_lt_of_le hk M.size) (fun h => by have := (M.own hri h).1; omega)]
    exact M.below.block k hk
  · show w'.heap[b]? = some o
    rw [hc.block b (hle_lt M.imm e) (notI b o e)]
    exact M.imm b o e
  · obtain ⟨y, hy, hby⟩ := List.mem_flatMap.1 hb
    rcases mem_set hy with rfl | ⟨j, _, hj⟩
    · rcases h2 b hby with h | h
      · have := M.own hri h; exact ⟨this.1, h3 b hby, this.2.2⟩
      · refine ⟨Nat.le_trans M.size h, h3 b hby, ?_⟩
        cases e : I b with
        | none => rfl
        | some o => have := hle_lt M.imm e; omega
    · have := M.own (List.mem_of_getElem? hj) hby
      exact ⟨this.1, Nat.lt_of_lt_of_le this.2.1 hc.size, this.2.2⟩
  · rcases mem_set hx with rfl | ⟨j, hne, hj⟩
    · exact hr
    · refine x.loc _ _ (fun b hb => ?_) (M.holds x (List.mem_of_getElem? hj))
      exact (hc.block b (M.own (List.mem_of_getElem? hj) hb).2.1 (apart_of_nodup M.nodup hj hi hne b hb)).symm

theorem flat_sublist {α β : Type} (f : α → List β) {a b : List α} (h : a.Sublist b) : (a.flatMap f).Sublist (b.flatMap f) := by
  induction h with
  | slnil => simp
  | cons x _ ih => rw [List.flatMap_cons]; exact ih.trans (List.sublist_append_right _ _)
  | cons_cons x _ ih => rw [List.flatMap_cons, List.flatMap_cons]; exact (List.Sublist.refl _).append ih
/-- Fewer resources; less that is known as immutable. -/
theorem Mem.weak (M : Mem w0 I0 I L w) {L' : List Res} (hs : L'.Sublist L) : Mem w0 I0 I L' w :=
  ⟨M.below, M.old, M.imm, M.nodup.sublist (flat_sublist _ hs), fun b hb => M.mine b ((flat_sublist _ hs).subset hb), fun r hr => M.holds r (hs.subset hr), M.dr⟩
theorem Mem.less (M : Mem w0 I0 I' L w) (h : hle I I') (ho : ∀ b, b < w0.heap.size → I b = I0 b) : Mem w0 I0 I L w :=
  ⟨M.below, ho, h.trans M.imm, M.nodup, fun b hb => by
    have := M.mine b hb
    refine ⟨this.1, this.2.1, ?_⟩
    cases e : I b with
    | none => rfl
    | some o => have := h b o e; simp_all, M.holds, M.dr⟩
theorem Mem.drop (M : Mem w0 I0 I L w) (i : Nat) : Mem w0 I0 I (L.eraseIdx i) w := M.weak (List.eraseIdx_sublist L i)

/-- A resource becomes immutable. -/
def frzI (I : Heap) (w : World) (bs : List Nat) : Heap := fun b => if b ∈ bs then w.heap[b]? else I b
theorem Mem.freeze (M : Mem w0 I0 I L w) (i : Nat) {r : Res} (hi : L[i]? = some r) : Mem w0 I0 (frzI I w r.blks) (L.eraseIdx i) w ∧ hle I (frzI I w r.blks) ∧ r.holds (frzI I w r.blks) := by
  have hri := getElem?_mem' hi
  have hle1 : hle I (frzI I w r.blks) := fun b o e => by
    unfold frzI
    rw [if_neg (fun hb => by have := (M.own hri hb).2.2; rw [this] at e; cases e)]
    exact e
  refine ⟨⟨M.below, fun b hb => ?_, fun b o e => ?_, (M.drop i).nodup, fun b hb => ?_, (M.drop i).holds, M.dr⟩, hle1, ?_⟩
  · unfold frzI
    rw [if_neg (fun h => by have := (M.own hri h).1; omega)]
    exact M.old b hb
  · unfold frzI at e
    split at e
    · exact e
    · exact M.imm b o e
  · have h1 := (M.drop i).mine b hb
    refine ⟨h1.1, h1.2.1, ?_⟩
    unfold frzI
    rw [if_neg ?_]
    · exact h1.2.2
    · intro hbr
      obtain ⟨y, hy, hby⟩ := List.mem_flatMap.1 hb
      obtain ⟨k, hk⟩ := List.getElem?_of_mem hy
      rw [List.getElem?_eraseIdx] at hk
      split at hk
      · exact apart_of_nodup M.nodup hi hk (by omega) b hbr hby
      · exact apart_of_nodup M.nodup hi hk (by omega) b hbr hby
  · refine r.loc _ _ (fun b hb => ?_) (M.holds r hri)
    unfold frzI
    rw [if_pos hb]
    rfl

/-- Behind a call. -/
theorem Mem.call (M : Mem w0 I0 I L w) (g : Grow w I w' I') : Mem w0 I0 I' L w' := by
  refine ⟨⟨g.below.os.trans M.below.os, g.below.tape.trans M.below.tape, g.below.output.trans M.below.output, Nat.le_trans M.below.size g.below.size, fun k hk => (g.below.block k (Nat.lt_of_lt_of_le hk M.size)).trans (M.below.block k hk)⟩,
    fun b hb => (g.old b (Nat.lt_of_lt_of_le hb M.size)).trans (M.old b hb), g.imm, M.nodup, fun b hb => ?_, fun r hr => ?_, fun h1 h2 => Nat.le_trans (M.dr h1 h2) (g.dr (by rw [M.old 0 h2]; exact h1) (Nat.lt_of_lt_of_le h2 M.size))⟩
  · have := M.mine b hb
    exact ⟨this.1, Nat.lt_of_lt_of_le this.2.1 g.below.size, by rw [g.old b this.2.1]; exact this.2.2⟩
  · exact r.loc _ _ (fun b hb => (g.below.block b (M.own hr hb).2.1).symm) (M.holds r hr)
end

/-! ### memory cells -/
theorem add_off (b o j : Nat) : (⟨b, o, none⟩ : Addr).add j = ⟨b, o + j, none⟩ := by unfold Addr.add; split <;> simp_all
/-- At (b, o) of the heap these cells lie. -/
def ptr (h : Heap) (b o : Nat) (cs : List Value) : Prop := ∃ cur T fr, h b = some (.cells cur T fr) ∧ (cur.toList.drop o).take cs.length = cs
theorem ptr.mono {h h' : Heap} {b o : Nat} {cs : List Value} (k : hle h h') (p : ptr h b o cs) : ptr h' b o cs := by
  obtain ⟨cur, T, fr, e, hc⟩ := p
  exact ⟨cur, T, fr, k _ _ e, hc⟩
theorem ptr.cell {w : World} {b o : Nat} {cs : List Value} (p : ptr (hp w) b o cs) (j : Nat) (v : Value) (hj : cs[j]? = some v) : w.cell? ((⟨b, o, none⟩ : Addr).add j) = some v := by
  obtain ⟨cur, T, fr, e, hc⟩ := p
  rw [add_off, cell_of_row w b (o + j) cur T fr e]
  have : ((cur.toList.drop o).take cs.length)[j]? = some v := by rw [hc]; exact hj
  rw [List.getElem?_take] at this
  split at this
  · rw [List.getElem?_drop] at this; simpa using this
  · cases this
theorem ptr.part {h : Heap} {b o : Nat} {cs ds es : List Value} (p : ptr h b o (cs ++ ds ++ es)) : ptr h b (o + cs.length) ds := by
  obtain ⟨cur, T, fr, e, hc⟩ := p
  refine ⟨cur, T, fr, e, ?_⟩
  have h1 : (((cur.toList.drop o).take (cs ++ ds ++ es).length).drop cs.length).take ds.length = ds := by
    rw [hc]; simp
  rw [List.drop_take, List.take_take] at h1
  rw [← List.drop_drop]
  have : min ds.length ((cs ++ ds ++ es).length - cs.length) = ds.length := by simp only [List.length_append]; omega
  rw [this] at h1
  exact h1

/-! ### element types -/
structure ET (P : Program) (α : Type) where
  T : TypeId
  sz : Nat
  by' : Nat
  cells : α → List Value
  val : α → Value
  len : ∀ x, (cells x).length = sz
  pos : 0 < sz
  one : ∀ x, ∀ v ∈ cells x, v.oneCell' = true
  vcells : ∀ x, (val x).cells = (cells x).toArray
  load : ∀ (w : World) (a : Addr) x, (∀ j v, (cells x)[j]? = some v → w.cell? (a.add j) = some v) → (loadVar T a).run P w = .ok (val x) w
  info : ∃ i z, P.info? T = some i ∧ i.size = sz ∧ i.bytes = by' ∧ i.zero = some z ∧ z.cells.size = sz
  byb : 0 < by'

def oneKind : TypeDesc → Bool
  | .struct _ | .array _ _ => false
  | _ => true
theorem run_loadVar_one {P : Program} {T : TypeId} {d : TypeDesc} (hu : P.underlying T = some d) (hd : oneKind d = true) (w : World) (a : Addr) (v : Value) (h : w.cell? a = some v) : (loadVar T a).run P w = .ok v w := by
  have hagg : (isAgg T).run P w = .ok false w := by
    unfold isAgg
    rw [Sem.run_bind, run_underlying hu w]
    cases d <;> first | rfl | (simp [oneKind] at hd)
  simp [loadVar, Sem.run_bind, hagg, h]
theorem run_loadVar_agg {P : Program} {T : TypeId} {d : TypeDesc} (hu : P.underlying T = some d) (hd : oneKind d = false) {k : Nat} (hi : (P.info? T).map (·.size) = some k) (w : World) (a : Addr) (cs : List Value) (hk : cs.length = k) (h : ∀ j v, cs[j]? = some v → w.cell? (a.add j) = some v) : (loadVar T a).run P w = .ok (.agg cs.toArray) w := by
  have hagg : (isAgg T).run P w = .ok true w := by
    unfold isAgg
    rw [Sem.run_bind, run_underlying hu w]
    cases d <;> first | rfl | (simp [oneKind] at hd)
  cases hq : P.info? T with
  | none => simp [hq] at hi
  | some i =>
    have hs : i.size = k := by simpa [hq] using hi
    have hl := run_loadCells_list (P := P) w a cs h
    rw [hk] at hl
    simp [loadVar, Sem.run_bind, hagg, sizeOf, typeInfo, hq, hs, hl]
theorem info_of {P : Program} {T k b : Nat} {z : Value} (h : (P.info? T).map (fun i => (i.zero, i.size, i.bytes)) = some (some z, k, b)) (hz : z.cells.size = k) : ∃ i z, P.info? T = some i ∧ i.size = k ∧ i.bytes = b ∧ i.zero = some z ∧ z.cells.size = k := by
  obtain ⟨i, hi, he⟩ := Option.map_eq_some_iff.1 h
  simp only [Prod.mk.injEq] at he
  exact ⟨i, z, hi, he.2.1, he.2.2, he.1, hz⟩
/-- A type of one cell. -/
def ET.one1 {P : Program} {α : Type} (T : TypeId) (b : Nat) (f : α → Value) (d : TypeDesc) (hu : P.underlying T = some d) (hd : oneKind d = true) (z : Value) (hz : z.cells.size = 1)
    (hi : (P.info? T).map (fun i => (i.zero, i.size, i.bytes)) = some (some z, 1, b)) (hb : 0 < b) (h1 : ∀ x, (f x).oneCell' = true) : ET P α where
  T := T
  sz := 1
  by' := b
  cells x := [f x]
  val := f
  len _ := rfl
  pos := Nat.one_pos
  one x v hv := by rw [List.mem_singleton.1 hv]; exact h1 x
  vcells x := by
    have := h1 x
    cases hx : f x <;> first | rfl | (rw [hx] at this; simp [Value.oneCell'] at this)
  load w a x h := by
    refine run_loadVar_one hu hd w a _ ?_
    have := h 0 (f x) rfl
    rwa [show a.add 0 = a from rfl] at this
  info := info_of hi hz
  byb := hb
/-- A struct. -/
def ET.agg {P : Program} {α : Type} (T k b : Nat) (f : α → List Value) (d : TypeDesc) (hu : P.underlying T = some d) (hd : oneKind d = false) (z : Value) (hz : z.cells.size = k)
    (hi : (P.info? T).map (fun i => (i.zero, i.size, i.bytes)) = some (some z, k, b)) (hk : 0 < k) (hb : 0 < b) (hl : ∀ x, (f x).length = k) (h1 : ∀ x, ∀ v ∈ f x, v.oneCell' = true) : ET P α where
  T := T
  sz := k
  by' := b
  cells := f
  val x := .agg (f x).toArray
  len := hl
  pos := hk
  one := h1
  vcells _ := rfl
  load w a x h := by
    refine run_loadVar_agg hu hd (k := k) ?_ w a _ (hl x) h
    obtain ⟨i, hi', he⟩ := Option.map_eq_some_iff.1 hi
    simp only [Prod.mk.injEq] at he
    rw [hi']
    simp [he.2.1]
  info := info_of hi hz
  byb := hb

section
variable {P : Program} {α : Type} (E : ET P α)
def ET.all (xs : List α) : List Value := xs.flatMap E.cells
theorem ET.all_append (xs ys : List α) : E.all (xs ++ ys) = E.all xs ++ E.all ys := by simp [ET.all]
theorem ET.all_one (x : α) : E.all [x] = E.cells x := by simp [ET.all]
theorem ET.all_length (xs : List α) : (E.all xs).length = xs.length * E.sz := by
  induction xs with
  | nil => simp [ET.all]
  | cons x xs ih =>
    have : E.all (x :: xs) = E.cells x ++ E.all xs := by simp [ET.all]
    rw [this, List.length_append, E.len, ih, List.length_cons, Nat.add_mul]
    omega
theorem ET.all_one' (xs : List α) : ∀ v ∈ E.all xs, v.oneCell' = true := fun v hv => by
  obtain ⟨x, _, h⟩ := List.mem_flatMap.1 hv
  exact E.one x v h
theorem ET.all_split (xs : List α) {j : Nat} {x : α} (h : xs[j]? = some x) : E.all xs = E.all (xs.take j) ++ E.cells x ++ E.all (xs.drop (j + 1)) := by
  obtain ⟨hj, hx⟩ := List.getElem?_eq_some_iff.1 h
  have : xs = xs.take j ++ [x] ++ xs.drop (j + 1) := by
    rw [← hx]
    simp
  rw [← E.all_one, ← E.all_append, ← E.all_append, ← this]

/-- A slice that reads as xs. -/
def rdSl (h : Heap) (v : Value) (xs : List α) : Prop :=
  ∃ A c, v = .slice A xs.length c ∧ xs.length ≤ c ∧ c ≤ maxLen ∧ (xs ≠ [] → ∃ b o, A = some ⟨b, o, none⟩ ∧ ptr h b o (E.all xs))
variable {E}
theorem rdSl.mono {h h' : Heap} {v : Value} {xs : List α} (k : hle h h') (r : rdSl E h v xs) : rdSl E h' v xs := by
  obtain ⟨A, c, e, h1, h2, h3⟩ := r
  exact ⟨A, c, e, h1, h2, fun hx => let ⟨b, o, ha, hp⟩ := h3 hx; ⟨b, o, ha, hp.mono k⟩⟩
theorem rdSl_nil (h : Heap) : rdSl E h (.slice none 0 0) [] := ⟨none, 0, rfl, by simp, by simp [maxLen], fun hx => absurd rfl hx⟩
theorem rdSl.len_le {h : Heap} {v : Value} {xs : List α} (r : rdSl E h v xs) : xs.length ≤ 9223372036854775807 := by
  obtain ⟨A, c, e, h1, h2, _⟩ := r
  have : maxLen = 9223372036854775807 := by decide
  omega
/-- The place of an element. -/
theorem rdSl.at_ {h : Heap} {v : Value} {xs : List α} (r : rdSl E h v xs) {j : Nat} {x : α} (hj : xs[j]? = some x) : ∃ b o c, v = .slice (some ⟨b, o, none⟩) xs.length c ∧ ptr h b (o + j * E.sz) (E.cells x) := by
  obtain ⟨A, c, e, h1, h2, h3⟩ := r
  have hl := (List.getElem?_eq_some_iff.1 hj).1
  obtain ⟨b, o, rfl, p⟩ := h3 (by intro e; subst e; simp at hl)
  refine ⟨b, o, c, e, ?_⟩
  rw [E.all_split xs hj] at p
  have := p.part
  rwa [E.all_length, List.length_take, Nat.min_eq_left (by omega)] at this
end

/-- A slice's three words. -/
abbrev SV := Option Addr × Nat × Nat
def sv (u : SV) : Value := .slice u.1 u.2.1 u.2.2
def nilV : SV := (none, 0, 0)
/-- The element type of a slice of slices. -/
def ESl {P : Program} (T el : TypeId) (hu : P.underlying T = some (.slice el)) (hi : (P.info? T).map (fun i => (i.zero, i.size, i.bytes)) = some (some (.slice none 0 0), 1, 24)) : ET P SV :=
  ET.one1 T 24 sv (.slice el) hu rfl (.slice none 0 0) rfl hi (by decide) (fun _ => rfl)


/-! ### resources -/
/-- A block of known cells. -/
def box (b : Nat) (T : TypeId) (cs : List Value) : Res where
  blks := [b]
  holds h := h b = some (.cells cs.toArray T (0, 0))
  loc h h' e k := by rw [← e b (by simp)]; exact k
/-- A slice of one's own that reads as xs. -/
def rowHolds {P : Program} {α : Type} (E : ET P α) (v : Value) (xs : List α) (h : Heap) : Prop :=
  (v = .slice none 0 0 ∧ xs = []) ∨ ∃ b o c cur, v = .slice (some ⟨b, o, none⟩) xs.length c ∧ h b = some (.cells cur E.T (0, 0)) ∧ xs.length ≤ c ∧ c ≤ maxLen ∧ o + c * E.sz ≤ cur.size ∧ (cur.toList.drop o).take (xs.length * E.sz) = E.all xs
def row {P : Program} {α : Type} (E : ET P α) (v : Value) (xs : List α) : Res where
  blks := v.ownBlock.toList
  holds := rowHolds E v xs
  loc h h' e k := by
    rcases k with k | ⟨b, o, c, cur, hv, hb, r⟩
    · exact .inl k
    · subst hv
      refine .inr ⟨b, o, c, cur, rfl, ?_, r⟩
      rw [← e b (by simp [Value.ownBlock])]
      exact hb
section
variable {P : Program} {α : Type} {E : ET P α}
theorem rowHolds.rd {h : Heap} {v : Value} {xs : List α} (r : rowHolds E v xs h) : rdSl E h v xs := by
  rcases r with ⟨rfl, rfl⟩ | ⟨b, o, c, cur, rfl, hb, h1, h2, h3, h4⟩
  · exact rdSl_nil h
  · exact ⟨_, c, rfl, h1, h2, fun _ => ⟨b, o, rfl, cur, E.T, (0, 0), hb, by rw [E.all_length]; exact h4⟩⟩
theorem rowHolds_slice {v : Value} {xs : List α} {h : Heap} (r : rowHolds E v xs h) : ∃ u : SV, v = sv u := by
  rcases r with ⟨rfl, _⟩ | ⟨b, o, c, cur, rfl, _⟩
  · exact ⟨nilV, rfl⟩
  · exact ⟨(some ⟨b, o, none⟩, xs.length, c), rfl⟩
theorem rowHolds_nil (h : Heap) : rowHolds E (.slice none 0 0) [] h := .inl ⟨rfl, rfl⟩
theorem Mem.rd {w0 w : World} {I0 I : Heap} {L : List Res} (M : Mem w0 I0 I L w) {i : Nat} {v : Value} {xs : List α} (hi : L[i]? = some (row E v xs)) : rdSl E (hp w) v xs := (M.holds _ (getElem?_mem' hi) : rowHolds E v xs (hp w)).rd
theorem rdSl_slice {v : Value} {xs : List α} {h : Heap} (r : rdSl E h v xs) : ∃ u : SV, v = sv u := by
  obtain ⟨A, c, rfl, _⟩ := r
  exact ⟨(A, xs.length, c), rfl⟩
/-- A nil slice is owned by whoever wants it. -/
theorem Mem.nilRow {w0 w : World} {I0 I : Heap} {L : List Res} (M : Mem w0 I0 I L w) (E : ET P α) : Mem w0 I0 I (row E (.slice none 0 0) [] :: L) w :=
  ⟨M.below, M.old, M.imm, by simpa [row, Value.ownBlock] using M.nodup, fun b hb => M.mine b (by simpa [row, Value.ownBlock] using hb), fun r hr => by
    rcases List.mem_cons.1 hr with rfl | hr
    · exact rowHolds_nil _
    · exact M.holds r hr, M.dr⟩
/-- A row becomes immutable. -/
theorem Mem.frzRow {w0 w : World} {I0 I : Heap} {L : List Res} (M : Mem w0 I0 I L w) (i : Nat) {v : Value} {xs : List α} (hi : L[i]? = some (row E v xs)) : ∃ I', Mem w0 I0 I' (L.eraseIdx i) w ∧ hle I I' ∧ rdSl E I' v xs := by
  obtain ⟨h1, h2, h3⟩ := M.freeze i hi
  exact ⟨_, h1, h2, (h3 : rowHolds E v xs _).rd⟩
end
end Go.Proofs.Ytfepjcmjkaolgaa.G
