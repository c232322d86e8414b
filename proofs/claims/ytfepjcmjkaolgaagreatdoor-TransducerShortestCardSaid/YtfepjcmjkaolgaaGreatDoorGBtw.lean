/- The search for a middle string: the steps between configurations. Plain Lean. -/
/- utf8.ValidString and utf8.RuneCountInString at this seat, by the kit's contracts. -/
/- The search for a middle string: its block in memory; what newBetween and Through answer. -/
import Derived.Test.YtfepjcmjkaolgaaGreatDoorGBfs
import Derived.Test.YtfepjcmjkaolgaaGreatDoorGMap
import Derived.Test.YtfepjcmjkaolgaaGreatDoorGTyp
import Derived.Test.YtfepjcmjkaolgaaGreatDoorGStr
import Derived.Test.YtfepjcmjkaolgaaGreatDoorGLay
import Derived.Shelf.Unicode.ValidAny
import Derived.Test.YtfepjcmjkaolgaaGreatDoorGRel
set_option linter.all false
namespace Go.Proofs.YtfepjcmjkaolgaaGreatDoor.G
open Go Go.RowKit
def spkB (zs : List Int) (i j : Nat) (t u : Arc) : List (Int × Config) := if (eatB zs j u.out && decide (u.inp = t.out)) = true then [(t.out, ⟨t.dst, eatK i t.inp, u.dst, eatK j u.out⟩)] else []
def spkA (xs zs : List Int) (i j : Nat) (us : List Arc) (t : Arc) : List (Int × Config) := if (!(eatB xs i t.inp) || decide (t.out = 0)) = true then [] else us.flatMap (spkB zs i j t)
def silL (a b : Tra) (xs zs : List Int) (c : Config) : List Config := (a.outs c.p).flatMap (silA xs c.i.toNat c.q.toNat c.j.toNat) ++ (b.outs c.q).flatMap (silB zs c.p.toNat c.i.toNat c.j.toNat)
def spkL (a b : Tra) (xs zs : List Int) (c : Config) : List (Int × Config) := (a.outs c.p).flatMap (spkA xs zs c.i.toNat c.j.toNat (b.outs c.q))
def cfgN (a b : Tra) (xs zs : List Int) (c : Config) : List Config := silL a b xs zs c ++ (spkL a b xs zs c).map (·.2)
section
variable {κ β γ : Type} [DecidableEq κ]
theorem grp_nodup (key : γ → κ) (f : γ → β) (ls : List γ) : (gk (grp key f ls)).Nodup := by
  refine rev_ind (P := fun ls => (gk (grp key f ls)).Nodup) (by simp [gk, grp]) (fun l x ih => ?_) ls
  rw [grp_snoc]; exact nodup_aput ih _ _
theorem mem_gk_grp (key : γ → κ) (f : γ → β) (ls : List γ) (k : κ) : k ∈ gk (grp key f ls) ↔ ∃ e ∈ ls, key e = k := by
  refine rev_ind (P := fun ls => k ∈ gk (grp key f ls) ↔ ∃ e ∈ ls, key e = k) (by simp [gk, grp]) (fun l x ih => ?_) ls
  rw [grp_snoc, gk, keys_aput]
  simp only [gk] at ih
  split
  · rename_i h
    rw [ih]
    constructor
    · rintro ⟨e, he, h2⟩; exact ⟨e, List.mem_append.2 (.inl he), h2⟩
    · rintro ⟨e, he, h2⟩
      rcases List.mem_append.1 he with he | he
      · exact ⟨e, he, h2⟩
      · rw [List.mem_singleton.1 he] at h2
        rw [h2] at h
        exact ih.1 h
  · rw [List.mem_append, ih, List.mem_singleton]
    constructor
    · rintro (⟨e, he, h2⟩ | rfl)
      · exact ⟨e, List.mem_append.2 (.inl he), h2⟩
      · exact ⟨x, List.mem_append.2 (.inr (by simp)), rfl⟩
    · rintro ⟨e, he, h2⟩
      rcases List.mem_append.1 he with he | he
      · exact .inl ⟨e, he, h2⟩
      · rw [List.mem_singleton.1 he] at h2; exact .inr h2.symm
end
theorem flat_len_eq {α β : Type} {f : α → List β} {B : Nat} (hf : ∀ x, (f x).length = B) (xs : List α) : (xs.flatMap f).length = xs.length * B := by
  induction xs with
  | nil => simp
  | cons x xs ih => rw [List.flatMap_cons, List.length_append, ih, hf, List.length_cons, Nat.succ_mul]; omega
def doneB (a b : Tra) (xs zs : List Int) (c : Config) : Bool := ((decide (c.i = (xs.length : Int)) && decide (c.j = (zs.length : Int))) && decide (c.p ∈ a.finals)) && decide (c.q ∈ b.finals)
end Go.Proofs.YtfepjcmjkaolgaaGreatDoor.G

set_option linter.all false
namespace Go.Proofs.YtfepjcmjkaolgaaGreatDoor.G
open Go Go.RowKit
/-- The tables of unicode/utf8 lie in the part of memory that nobody writes. -/
def Tabs (I : Heap) : Prop := (∃ o, I 0 = some o) ∧ ∀ w, hle I (hp w) → Lib.Utf8Tabs (Tryz.laysValid_ren.g 3) (Tryz.laysValid_ren.g 4) w
theorem Tabs.mono {I I' : Heap} (h : Tabs I) (k : hle I I') : Tabs I' := ⟨let ⟨o, e⟩ := h.1; ⟨o, k _ _ e⟩, fun w hw => h.2 w (k.trans hw)⟩
theorem grow_of {w w' : World} {I : Heap} (hI : hle I (hp w)) (hb : Below w.heap.size w w') (hd : I 0 = none → w.drawn ≤ w'.drawn) : Grow w I w' I :=
  ⟨hb, fun b o e => by
    have h := hI b o e
    show w'.heap[b]? = _
    rw [hb.block b (hp_lt h)]; exact h, fun _ _ => rfl, fun h _ => hd h⟩
theorem validS_c (s : ByteArray) (hs : s.size ≤ 70368744177664) {I : Heap} {w : World} (hI : hle I (hp w)) (hT : Tabs I) : Calls A 60 #[.string s] w (Ret w I fun r _ => r = .bool (Lib.validD s.data.toList)) :=
  (Any.utf8_ValidString Tryz.laysValid s w (by omega) (hT.2 w hI)).mono fun e w' h => ⟨_, I, h.1, grow_of hI h.2 (fun h0 => by obtain ⟨o, ho⟩ := hT.1; rw [ho] at h0; cases h0), rfl⟩
/-- A string that can be read. -/
def okS (s : ByteArray) : Bool := Lib.validD s.data.toList && !decide ((0 : Int) ∈ bytesL s)
def longS (s : ByteArray) : Bool := decide (40 < ((runesL s).length : Int))
/-- The error of strings that are read or written. -/
def chkS (ss : List ByteArray) : Int := if ss.all okS = true then (if ss.all (fun s => !longS s) = true then 0 else 2) else 1
end Go.Proofs.YtfepjcmjkaolgaaGreatDoor.G

set_option linter.all false
namespace Go.Proofs.YtfepjcmjkaolgaaGreatDoor.G
open Go Go.RowKit
/-- The error of a search's arguments. -/
def btwE (a b : Tra) (x z : ByteArray) : Int := if (!(validT a) || !(validT b)) = true then 1 else chkS [x, z]
open Classical in
noncomputable def thrS (a b : Tra) (x z : ByteArray) : Bool × Int := if btwE a b x z = 0 then (decide (∃ c, Reach (cfgN a b (runesL x) (runesL z)) (· = ⟨a.start, 0, b.start, 0⟩) c ∧ doneB a b (runesL x) (runesL z) c = true), 0) else (false, btwE a b x z)
end Go.Proofs.YtfepjcmjkaolgaaGreatDoor.G
