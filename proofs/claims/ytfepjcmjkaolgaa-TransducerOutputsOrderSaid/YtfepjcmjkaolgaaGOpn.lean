/- The arguments of this seat's laws, opened; the tables of unicode/utf8 as the row lists them. -/
import Derived.Shelf.SlSortCmp.NoneTotal
import Derived.Shelf.SlGeneric
import Derived.Ground.SlsfProg
import Derived.Test.YtfepjcmjkaolgaaProg
import Derived.Test.YtfepjcmjkaolgaaGBfs
import Derived.Test.YtfepjcmjkaolgaaGMap
import Derived.Test.YtfepjcmjkaolgaaGBln
import Derived.Test.YtfepjcmjkaolgaaGStr
import Derived.Shelf.Unicode.ValidAny
import Derived.Test.YtfepjcmjkaolgaaGRel
import Derived.Test.YtfepjcmjkaolgaaRows
import Derived.Test.YtfepjcmjkaolgaaChecked
import Derived.Lib.LaidIn
import Derived.Lay
import Derived.SevenTiedAt
import Derived.Stop.Joined
namespace Go.Proofs
open Go.Shelf
def Try.sortA_ren : Go.Shelf.Ren := ⟨fun | 6 => 49 | 15 => 72 | 14 => 71 | 28 => 88 | 29 => 89 | 20 => 80 | 21 => 81 | 22 => 82 | 23 => 83 | 24 => 84 | 25 => 85 | 26 => 86 | 27 => 87 | 46 => 92 | 47 => 93 | 48 => 94 | 49 => 95 | 50 => 96 | 57 => 106 | n => n, fun | 22 => 23 | 24 => 50 | 25 => 96 | 3 => 3 | 39 => 118 | 0 => 0 | 53 => 130 | 55 => 132 | 4 => 4 | 46 => 124 | 45 => 123 | 50 => 105 | 5 => 5 | 9 => 9 | 66 => 135 | 70 => 139 | 76 => 147 | 77 => 148 | n => n, fun | n => n⟩
theorem Try.sortA : Go.Proofs.SlLaysF0.n6 Try.prog Try.sortA_ren := {
  mixed := by kernel_rfl
  f6 := ⟨Try.f49.name, by decide, Try.func49.trans (congrArg some (by kernel_rfl))⟩
  f14 := ⟨Try.f71.name, by decide, Try.func71.trans (congrArg some (by kernel_rfl))⟩
  f15 := Try.func72.trans (congrArg some (by kernel_rfl))
  f20 := ⟨Try.f80.name, by decide, Try.func80.trans (congrArg some (by kernel_rfl))⟩
  f21 := ⟨Try.f81.name, by decide, Try.func81.trans (congrArg some (by kernel_rfl))⟩
  f22 := ⟨Try.f82.name, by decide, Try.func82.trans (congrArg some (by kernel_rfl))⟩
  f23 := ⟨Try.f83.name, by decide, Try.func83.trans (congrArg some (by kernel_rfl))⟩
  f24 := ⟨Try.f84.name, by decide, Try.func84.trans (congrArg some (by kernel_rfl))⟩
  f25 := ⟨Try.f85.name, by decide, Try.func85.trans (congrArg some (by kernel_rfl))⟩
  f26 := ⟨Try.f86.name, by decide, Try.func86.trans (congrArg some (by kernel_rfl))⟩
  f27 := ⟨Try.f87.name, by decide, Try.func87.trans (congrArg some (by kernel_rfl))⟩
  f28 := Try.func88.trans (congrArg some (by kernel_rfl))
  f29 := Try.func89.trans (congrArg some (by kernel_rfl))
  f46 := ⟨Try.f92.name, by decide, Try.func92.trans (congrArg some (by kernel_rfl))⟩
  f47 := Try.func93.trans (congrArg some (by kernel_rfl))
  f48 := Try.func94.trans (congrArg some (by kernel_rfl))
  f49 := ⟨Try.f95.name, by decide, Try.func95.trans (congrArg some (by kernel_rfl))⟩
  f50 := ⟨Try.f96.name, by decide, Try.func96.trans (congrArg some (by kernel_rfl))⟩
  f57 := ⟨Try.f106.name, by decide, Try.func106.trans (congrArg some (by kernel_rfl))⟩
  t0 := Try.underlying0
  a0 := Try.isAgg0
  z0 := Try.sizeOf0
  v0 := Try.zeroValue0
  t3 := Try.underlying3
  a3 := Try.isAgg3
  z3 := Try.sizeOf3
  v3 := Try.zeroValue3
  t4 := Try.underlying4
  a4 := Try.isAgg4
  z4 := Try.sizeOf4
  v4 := Try.zeroValue4
  t5 := Try.underlying5
  a5 := Try.isAgg5
  z5 := Try.sizeOf5
  v5 := Try.zeroValue5
  t9 := Try.underlying9
  a9 := Try.isAgg9
  z9 := Try.sizeOf9
  v9 := Try.zeroValue9
  t22 := Try.underlying23
  a22 := Try.isAgg23
  z22 := Try.sizeOf23
  v22 := Try.zeroValue23
  t25 := Try.underlying96
  a25 := Try.isAgg96
  z25 := Try.sizeOf96
  v25 := Try.zeroValue96
  t39 := Try.underlying118
  a39 := Try.isAgg118
  z39 := Try.sizeOf118
  v39 := Try.zeroValue118
  t45 := Try.underlying123
  a45 := Try.isAgg123
  z45 := Try.sizeOf123
  v45 := Try.zeroValue123
  t46 := Try.underlying124
  a46 := Try.isAgg124
  z46 := Try.sizeOf124
  v46 := Try.zeroValue124
  t50 := Try.underlying105
  a50 := Try.isAgg105
  z50 := Try.sizeOf105
  v50 := Try.zeroValue105
  t53 := Try.underlying130
  a53 := Try.isAgg130
  z53 := Try.sizeOf130
  v53 := Try.zeroValue130
  t55 := Try.underlying132
  a55 := Try.isAgg132
  z55 := Try.sizeOf132
  v55 := Try.zeroValue132
  t66 := Try.underlying135
  a66 := Try.isAgg135
  z66 := Try.sizeOf135
  v66 := Try.zeroValue135
  t70 := Try.underlying139
  a70 := Try.isAgg139
  z70 := Try.sizeOf139
  v70 := Try.zeroValue139
  t76 := Try.underlying147
  a76 := Try.isAgg147
  z76 := Try.sizeOf147
  v76 := Try.zeroValue147
  t77 := Try.underlying148
  a77 := Try.isAgg148
  z77 := Try.sizeOf148
  v77 := Try.zeroValue148 }
end Go.Proofs

set_option linter.all false
namespace Go.Proofs.Ytfepjcmjkaolgaa.G
open Go Go.RowKit
def spkB (zs : List Int) (i j : Nat) (t u : Arc) : List (Int × Config) := if (eatB zs j u.out && decide (u.inp = t.out)) = true then [(t.out, ⟨t.dst, eatK i t.inp, u.dst, eatK j u.out⟩)] else []
def spkA (xs zs : List Int) (i j : Nat) (us : List Arc) (t : Arc) : List (Int × Config) := if (!(eatB xs i t.inp) || decide (t.out = 0)) = true then [] else us.flatMap (spkB zs i j t)
def silL (a b : Tra) (xs zs : List Int) (c : Config) : List Config := (a.outs c.p).flatMap (silA xs c.i.toNat c.q.toNat c.j.toNat) ++ (b.outs c.q).flatMap (silB zs c.p.toNat c.i.toNat c.j.toNat)
def spkL (a b : Tra) (xs zs : List Int) (c : Config) : List (Int × Config) := (a.outs c.p).flatMap (spkA xs zs c.i.toNat c.j.toNat (b.outs c.q))
def cfgN (a b : Tra) (xs zs : List Int) (c : Config) : List Config := silL a b xs zs c ++ (spkL a b xs zs c).map (·.2)
section
variable {κ β γ : Type} [DecidableEq κ]
theorem grp_nodup (key : γ → κ) (f : γ → β) (ls : List γ) : (gk (grp key f ls)).Nodup := by
  refine rev_ind (P := fun ls => (gk (grp key f ls)).Nodup) (by simp [gk, grp]) (fun l x ih => ?_) ls
  rw [grp_snoc]; exact nodup_aput ih _ _
theorem mem_gk_grp (key : γ → κ) (f : γ → β) (ls : List γ) (k : κ) : k ∈ gk (grp key f ls) ↔ ∃ e ∈ ls, key e = k := by
  refine rev_ind (P := fun ls => k ∈ gk (grp key f ls) ↔ ∃ e ∈ ls, key e = k) (by simp [gk, grp]) (fun l x ih => ?_) ls
  rw [grp_snoc, gk, keys_aput]
  simp only [gk] at ih
  split
  · rename_i h
    rw [ih]
    constructor
    · rintro ⟨e, he, h2⟩; exact ⟨e, List.mem_append.2 (.inl he), h2⟩
    · rintro ⟨e, he, h2⟩
      rcases List.mem_append.1 he with he | he
      · exact ⟨e, he, h2⟩
      · rw [List.mem_singleton.1 he] at h2
        rw [h2] at h
        exact ih.1 h
  · rw [List.mem_append, ih, List.mem_singleton]
    constructor
    · rintro (⟨e, he, h2⟩ | rfl)
      · exact ⟨e, List.mem_append.2 (.inl he), h2⟩
      · exact ⟨x, List.mem_append.2 (.inr (by simp)), rfl⟩
    · rintro ⟨e, he, h2⟩
      rcases List.mem_append.1 he with he | he
      · exact .inl ⟨e, he, h2⟩
      · rw [List.mem_singleton.1 he] at h2; exact .inr h2.symm
end
theorem flat_len_eq {α β : Type} {f : α → List β} {B : Nat} (hf : ∀ x, (f x).length = B) (xs : List α) : (xs.flatMap f).length = xs.length * B := by
  induction xs with
  | nil => simp
  | cons x xs ih => rw [List.flatMap_cons, List.length_append, ih, hf, List.length_cons, Nat.succ_mul]; omega
def doneB (a b : Tra) (xs zs : List Int) (c : Config) : Bool := ((decide (c.i = (xs.length : Int)) && decide (c.j = (zs.length : Int))) && decide (c.p ∈ a.finals)) && decide (c.q ∈ b.finals)
end Go.Proofs.Ytfepjcmjkaolgaa.G

set_option linter.all false
namespace Go.Proofs.Ytfepjcmjkaolgaa.G
open Go Go.RowKit
/-- A string that can be read. -/
def okS (s : ByteArray) : Bool := Lib.validD s.data.toList && !decide ((0 : Int) ∈ bytesL s)
def longS (s : ByteArray) : Bool := decide (40 < ((runesL s).length : Int))
/-- The error of strings that are read or written. -/
def chkS (ss : List ByteArray) : Int := if ss.all okS = true then (if ss.all (fun s => !longS s) = true then 0 else 2) else 1
end Go.Proofs.Ytfepjcmjkaolgaa.G

set_option linter.all false
namespace Go.Proofs.Ytfepjcmjkaolgaa.G
open Go Go.RowKit
/-- The error of a search's arguments. -/
def btwE (a b : Tra) (x z : ByteArray) : Int := if (!(validT a) || !(validT b)) = true then 1 else chkS [x, z]
open Classical in
noncomputable def thrS (a b : Tra) (x z : ByteArray) : Bool × Int := if btwE a b x z = 0 then (decide (∃ c, Reach (cfgN a b (runesL x) (runesL z)) (· = ⟨a.start, 0, b.start, 0⟩) c ∧ doneB a b (runesL x) (runesL z) c = true), 0) else (false, btwE a b x z)
end Go.Proofs.Ytfepjcmjkaolgaa.G

set_option linter.all false
namespace Go.Proofs.Ytfepjcmjkaolgaa.G
open Go Go.RowKit
theorem eatB_fit {l : List Int} {k : Nat} {r : Int} : eatB l k r = fitB l (k : Int) r := by
  unfold eatB fitB
  by_cases h : r = 0
  · simp [h]
  · rw [if_neg h]
    simp only [h, decide_false, Bool.false_or, Int.toNat_natCast]
    rw [Bool.eq_iff_iff]
    simp only [Bool.and_eq_true, decide_eq_true_eq]
    constructor
    · rintro ⟨h1, h2⟩
      have hk : k < l.length := by omega
      rw [getD_of (List.getElem?_eq_getElem hk)] at h2
      rw [List.getElem?_eq_getElem hk, h2]
    · intro h1
      obtain ⟨h2, h3⟩ := List.getElem?_eq_some_iff.1 h1
      exact ⟨by omega, by rw [getD_of h1]⟩
theorem valid_rng {t : Tra} (h : validT t = true) : ∃ m, t.Ok m ∧ ∀ p ∈ t.finals, 0 ≤ p ∧ p < (m : Int) := by
  obtain ⟨m, ha, _, _⟩ := validT_ok h
  exact ⟨m, ha, fun p hp => by have := validT_fin h p hp; rwa [ha.st] at this⟩
end Go.Proofs.Ytfepjcmjkaolgaa.G

set_option linter.all false
namespace Go.Proofs.Ytfepjcmjkaolgaa.G
open Go Go.RowKit
def on (l : List Bool) (i : Nat) : Prop := l[i]? = some true
theorem on_set {l : List Bool} {i j : Nat} (h : j < l.length) : on (l.set j true) i ↔ i = j ∨ on l i := by
  unfold on
  rw [List.getElem?_set]
  by_cases e : j = i
  · subst e; simp [h]
  · rw [if_neg e]
    constructor
    · exact .inr
    · rintro (rfl | h)
      · exact absurd rfl e
      · exact h
/-- While the pairs D are gone through: l0 what was marked at the round's head, l what is marked now, ag whether something has turned. R: what may be marked; S: what is marked from the start. -/
structure PassN (R S : Nat → Prop) (m : Nat) (l0 : List Bool) (D : List (Nat × Nat)) (l : List Bool) (ag : Bool) : Prop where
  len : l.length = m
  sub : ∀ s, on l s → R s
  frm : ∀ s, S s → on l s
  up : ag = true → l.count false < l0.count false
  cl : ag = false → l = l0 ∧ ∀ e ∈ D, on l e.1 → on l e.2
section
variable {R S : Nat → Prop} {m : Nat} {l0 l : List Bool} {D : List (Nat × Nat)} {ag : Bool}
theorem PassN.start (hl : l.length = m) (h1 : ∀ s, on l s → R s) (h2 : ∀ s, S s → on l s) : PassN R S m l [] l false :=
  ⟨hl, h1, h2, nofun, fun _ => ⟨rfl, by simp⟩⟩
theorem PassN.skip (h : PassN R S m l0 D l ag) (X : List (Nat × Nat)) (hn : ∀ e ∈ X, on l e.1 → on l e.2) : PassN R S m l0 (D ++ X) l ag :=
  ⟨h.len, h.sub, h.frm, h.up, fun e => ⟨(h.cl e).1, fun y hy => by
    rcases List.mem_append.1 hy with hy | hy
    · exact (h.cl e).2 y hy
    · exact hn y hy⟩⟩
theorem PassN.hit (h : PassN R S m l0 D l ag) {x y : Nat} (D' : List (Nat × Nat)) (hx : on l x) (hy : l[y]? = some false) (hR : R x → R y) : PassN R S m l0 D' (l.set y true) true := by
  have hlt := (List.getElem?_eq_some_iff.1 hy).1
  refine ⟨by simp [h.len], fun s hs => ?_, fun s hs => (on_set hlt).2 (.inr (h.frm s hs)), fun _ => ?_, nofun⟩
  · rcases (on_set hlt).1 hs with rfl | hs
    · exact hR (h.sub x hx)
    · exact h.sub s hs
  · have h1 := count_set hy
    cases hag : ag with
    | true => have := h.up hag; omega
    | false => have := (h.cl hag).1; subst this; omega
end
/-! places as numbers -/
section
variable {t : Tra} {m : Nat} {xs ys : List Int}
theorem pl_rng (hr : t.Rng m) {c : Place} (h : Reach (plN t xs ys) (· = ⟨t.start, 0, 0⟩) c) : ∃ s i j : Nat, c = ⟨(s : Int), (i : Int), (j : Int)⟩ ∧ s < m ∧ i ≤ xs.length ∧ j ≤ ys.length := by
  obtain ⟨i, j, h1, h2, h3, h4, hrun⟩ := pl_run h
  have hs : 0 ≤ c.state ∧ c.state < m := by
    clear h1 h2 hrun
    cases h with
    | base h => subst h; exact hr.start
    | tail _ hd => obtain ⟨x, hx, _, _, _, rfl⟩ := mem_plN.1 hd; exact (hr.arcs x hx).2
  exact ⟨c.state.toNat, i, j, by cases c; simp at *; omega, by omega, h3, h4⟩
end
open Classical in
noncomputable def relB (t : Tra) (xs ys : List Int) : Bool := decide (Rel t xs ys)
theorem relB_iff {t : Tra} {xs ys : List Int} : relB t xs ys = true ↔ Rel t xs ys := by simp [relB]
theorem relB_false {t : Tra} {xs ys : List Int} : relB t xs ys = false ↔ ¬ Rel t xs ys := by simp [relB]
end Go.Proofs.Ytfepjcmjkaolgaa.G

set_option linter.all false
namespace Go.Proofs.Ytfepjcmjkaolgaa.G
open Go Go.RowKit Go.ChangeShapes Go.Lib
set_option maxRecDepth 100000
theorem open_Arc {H : Type} {enc : TypeId × Value → H} {w : World} {base : Nat} {sp : Nat → Bool} {held : Bool} {fuel : Nat} {cs : List Value} {x : DataW H × List MemPlace} (h : DataW.trod enc A w base sp held fuel 50 cs = some x) : ∃ a : Arc, cs = EArc.cells a ∧ True := by
  obtain ⟨hl, hf⟩ := fld Try.underlying50 h
  rw [show A.cellsOf 50 = 4 by kernel_rfl] at hl
  match cs, hl with
  | [a0, a1, a2, a3], _ =>
    obtain ⟨_, _, h0⟩ := hf 0 _ rfl
    change DataW.trod enc A w base sp held _ 3 (([a0, a1, a2, a3].drop 0).take (A.cellsOf 3)) = _ at h0
    rw [show A.cellsOf 3 = 1 by kernel_rfl] at h0
    obtain ⟨n0, e0⟩ := open_i Try.underlying3 h0
    obtain ⟨_, _, h1⟩ := hf 1 _ rfl
    change DataW.trod enc A w base sp held _ 3 (([a0, a1, a2, a3].drop 1).take (A.cellsOf 3)) = _ at h1
    rw [show A.cellsOf 3 = 1 by kernel_rfl] at h1
    obtain ⟨n1, e1⟩ := open_i Try.underlying3 h1
    obtain ⟨_, _, h2⟩ := hf 2 _ rfl
    change DataW.trod enc A w base sp held _ 21 (([a0, a1, a2, a3].drop 2).take (A.cellsOf 21)) = _ at h2
    rw [show A.cellsOf 21 = 1 by kernel_rfl] at h2
    obtain ⟨n2, e2⟩ := open_i Try.underlying21 h2
    obtain ⟨_, _, h3⟩ := hf 3 _ rfl
    change DataW.trod enc A w base sp held _ 21 (([a0, a1, a2, a3].drop 3).take (A.cellsOf 21)) = _ at h3
    rw [show A.cellsOf 21 = 1 by kernel_rfl] at h3
    obtain ⟨n3, e3⟩ := open_i Try.underlying21 h3
    obtain rfl : a0 = _ := (List.cons.inj e0).1
    obtain rfl : a1 = _ := (List.cons.inj e1).1
    obtain rfl : a2 = _ := (List.cons.inj e2).1
    obtain rfl : a3 = _ := (List.cons.inj e3).1
    exact ⟨⟨n0, n1, n2, n3⟩, rfl, trivial⟩
theorem open_Int {H : Type} {enc : TypeId × Value → H} {w : World} {base : Nat} {sp : Nat → Bool} {held : Bool} {fuel : Nat} {cs : List Value} {x : DataW H × List MemPlace} (h : DataW.trod enc A w base sp held fuel 3 cs = some x) : ∃ a : Int, cs = EInt.cells a ∧ True := by
  obtain ⟨n, e⟩ := open_i Try.underlying3 h
  exact ⟨n, e, trivial⟩
theorem open_RTra {H : Type} {enc : TypeId × Value → H} {w : World} {base : Nat} {sp : Nat → Bool} {held : Bool} {fuel : Nat} {cs : List Value} {x : DataW H × List MemPlace} (h : DataW.trod enc A w base sp held fuel 25 cs = some x) : ∃ a : RTra, cs = ETra.cells a ∧ ∃ t : Tra, t.rd (hp w) (.agg a.cells.toArray) := by
  obtain ⟨hl, hf⟩ := fld Try.underlying25 h
  rw [show A.cellsOf 25 = 4 by kernel_rfl] at hl
  match cs, hl with
  | [a0, a1, a2, a3], _ =>
    obtain ⟨_, _, h0⟩ := hf 0 _ rfl
    change DataW.trod enc A w base sp held _ 3 (([a0, a1, a2, a3].drop 0).take (A.cellsOf 3)) = _ at h0
    rw [show A.cellsOf 3 = 1 by kernel_rfl] at h0
    obtain ⟨n0, e0⟩ := open_i Try.underlying3 h0
    obtain ⟨_, _, h1⟩ := hf 1 _ rfl
    change DataW.trod enc A w base sp held _ 3 (([a0, a1, a2, a3].drop 1).take (A.cellsOf 3)) = _ at h1
    rw [show A.cellsOf 3 = 1 by kernel_rfl] at h1
    obtain ⟨n1, e1⟩ := open_i Try.underlying3 h1
    obtain ⟨_, _, h2⟩ := hf 2 _ rfl
    change DataW.trod enc A w base sp held _ 22 (([a0, a1, a2, a3].drop 2).take (A.cellsOf 22)) = _ at h2
    rw [show A.cellsOf 22 = 1 by kernel_rfl] at h2
    obtain ⟨u2, xs, e2, R2, _⟩ := open_sl (E := EInt) (Rp := fun _ => True) Try.underlying22 (by kernel_rfl) (fun _ _ _ h => open_Int h) h2
    obtain ⟨_, _, h3⟩ := hf 3 _ rfl
    change DataW.trod enc A w base sp held _ 23 (([a0, a1, a2, a3].drop 3).take (A.cellsOf 23)) = _ at h3
    rw [show A.cellsOf 23 = 1 by kernel_rfl] at h3
    obtain ⟨u3, ys, e3, R3, _⟩ := open_sl (E := EArc) (Rp := fun _ => True) Try.underlying23 (by kernel_rfl) (fun _ _ _ h => open_Arc h) h3
    obtain rfl : a0 = _ := (List.cons.inj e0).1
    obtain rfl : a1 = _ := (List.cons.inj e1).1
    obtain rfl : a2 = _ := (List.cons.inj e2).1
    obtain rfl : a3 = _ := (List.cons.inj e3).1
    exact ⟨⟨n0, n1, u2, u3⟩, rfl, ⟨n0, n1, xs, ys⟩, u2, u3, rfl, R2, R3⟩
theorem open_tra {H : Type} {enc : TypeId × Value → H} {w : World} {base : Nat} {sp : Nat → Bool} {held : Bool} {r : Go.Reach} {b0 : Nat} {v : Value} {d : DataW H} {ps : List MemPlace} (hv : Value.okWide A w r b0 25 v) (h : DataW.Trod enc A w base sp held 25 v d ps) : ∃ t : Tra, t.rd (hp w) v := by
  obtain ⟨l, rfl⟩ := agg_of Try.underlying25 hv
  obtain ⟨fuel, h⟩ := h
  change DataW.trod enc A w base sp held fuel 25 l.toArray.toList = _ at h
  rw [List.toList_toArray] at h
  obtain ⟨a, rfl, t, ht⟩ := open_RTra h
  exact ⟨t, ht⟩
theorem open_str {H : Type} {enc : TypeId × Value → H} {w : World} {base : Nat} {sp : Nat → Bool} {held : Bool} {r : Go.Reach} {b0 : Nat} {v : Value} {d : DataW H} {ps : List MemPlace} (hv : Value.okWide A w r b0 9 v) (h : DataW.Trod enc A w base sp held 9 v d ps) : ∃ s : ByteArray, v = .string s := by
  obtain ⟨fuel, h⟩ := h
  obtain ⟨s, e, _⟩ := open_s Try.underlying9 h
  exact ⟨s, one_of e rfl (notAgg Try.underlying9 rfl hv)⟩
theorem open_u8 {H : Type} {enc : TypeId × Value → H} {w : World} {base : Nat} {sp : Nat → Bool} {held : Bool} {r : Go.Reach} {b0 : Nat} {v : Value} {d : DataW H} {ps : List MemPlace} (hv : Value.okWide A w r b0 5 v) (h : DataW.Trod enc A w base sp held 5 v d ps) : ∃ n : Int, v = .int .u8 n ∧ 0 ≤ n ∧ n ≤ 255 := by
  obtain ⟨fuel, h⟩ := h
  obtain ⟨s, e, hx⟩ := DataW.trod_int Try.underlying5 h
  have h2 := hx.2
  simp only [Lit.wf, Bool.and_eq_true, decide_eq_true_eq] at h2
  have e1 : IntKind.u8.min = 0 := by decide
  have e2 : IntKind.u8.max = 255 := by decide
  rw [e1, e2] at h2
  exact ⟨s, one_of e rfl (notAgg Try.underlying5 rfl hv), h2⟩
theorem own : ownKnob A.godebug = none := by kernel_rfl
theorem laidOut : laidOutB A = true := by kernel_rfl
end Go.Proofs.Ytfepjcmjkaolgaa.G
