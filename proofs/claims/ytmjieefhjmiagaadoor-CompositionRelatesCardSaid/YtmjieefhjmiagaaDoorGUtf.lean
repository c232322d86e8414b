/- utf8.ValidString and utf8.RuneCountInString at this seat, by the kit's contracts. -/
import Derived.Test.YtmjieefhjmiagaaDoorGTyp
import Derived.Test.YtmjieefhjmiagaaDoorGStr
import Derived.Test.YtmjieefhjmiagaaDoorGLay
import Derived.Shelf.Unicode.ValidAny
import Derived.Shelf.Utf8.RuneCount
set_option linter.all false
namespace Go.Proofs.YtmjieefhjmiagaaDoor.G
open Go Go.RowKit
/-- The tables of unicode/utf8 lie in the part of memory that nobody writes. -/
def Tabs (I : Heap) : Prop := (∃ o, I 0 = some o) ∧ ∀ w, hle I (hp w) → Lib.Utf8Tabs (Tryd.laysValid_ren.g 3) (Tryd.laysValid_ren.g 4) w
theorem Tabs.mono {I I' : Heap} (h : Tabs I) (k : hle I I') : Tabs I' := ⟨let ⟨o, e⟩ := h.1; ⟨o, k _ _ e⟩, fun w hw => h.2 w (k.trans hw)⟩
theorem grow_of {w w' : World} {I : Heap} (hI : hle I (hp w)) (hb : Below w.heap.size w w') (hd : I 0 = none → w.drawn ≤ w'.drawn) : Grow w I w' I :=
  ⟨hb, fun b o e => by
    have h := hI b o e
    show w'.heap[b]? = _
    rw [hb.block b (hp_lt h)]; exact h, fun _ _ => rfl, fun h _ => hd h⟩
theorem validS_c (s : ByteArray) (hs : s.size ≤ 70368744177664) {I : Heap} {w : World} (hI : hle I (hp w)) (hT : Tabs I) : Calls A 80 #[.string s] w (Ret w I fun r _ => r = .bool (Lib.validD s.data.toList)) :=
  (Any.utf8_ValidString Tryd.laysValid s w (by omega) (hT.2 w hI)).mono fun e w' h => ⟨_, I, h.1, grow_of hI h.2 (fun h0 => by obtain ⟨o, ho⟩ := hT.1; rw [ho] at h0; cases h0), rfl⟩
theorem runeCount_c (s : ByteArray) (hs : s.size ≤ 70368744177664) {I : Heap} {w : World} (hI : hle I (hp w)) : Calls A 76 #[.string s] w (Ret w I fun r _ => r = .int .i64 ((runesL s).length : Int)) :=
  (Any.utf8_RuneCountInString Tryd.laysCount s w (by omega)).mono fun e w' h => by
    obtain ⟨h1, q, rfl⟩ := h
    exact ⟨_, I, h1, grow_of hI ((Below.refl _ _).alloc (Nat.le_refl _) _) (fun _ => Nat.le_refl _), by rw [runesL_len]⟩
/-- A string that can be read. -/
def okS (s : ByteArray) : Bool := Lib.validD s.data.toList && !decide ((0 : Int) ∈ bytesL s)
def longS (s : ByteArray) : Bool := decide (40 < ((runesL s).length : Int))
/-- The error of strings that are read or written. -/
def chkS (ss : List ByteArray) : Int := if ss.all okS = true then (if ss.all (fun s => !longS s) = true then 0 else 2) else 1
end Go.Proofs.YtmjieefhjmiagaaDoor.G
