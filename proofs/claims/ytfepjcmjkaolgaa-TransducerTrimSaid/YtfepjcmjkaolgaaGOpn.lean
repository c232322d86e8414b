/- The arguments of this seat's laws, opened; the tables of unicode/utf8 as the row lists them. -/
import Derived.Test.YtfepjcmjkaolgaaGBtw
import Derived.Test.YtfepjcmjkaolgaaGBfs
import Derived.Test.YtfepjcmjkaolgaaGStr
import Derived.Test.YtfepjcmjkaolgaaRows
import Derived.Test.YtfepjcmjkaolgaaChecked
import Derived.Lib.LaidIn
import Derived.Lay
import Derived.SevenTiedAt
import Derived.Stop.Joined
set_option linter.all false
namespace Go.Proofs.Ytfepjcmjkaolgaa.G
open Go Go.RowKit Go.ChangeShapes Go.Lib
set_option maxRecDepth 100000
theorem open_Arc {H : Type} {enc : TypeId × Value → H} {w : World} {base : Nat} {sp : Nat → Bool} {held : Bool} {fuel : Nat} {cs : List Value} {x : DataW H × List MemPlace} (h : DataW.trod enc A w base sp held fuel 50 cs = some x) : ∃ a : Arc, cs = EArc.cells a ∧ True := by
  obtain ⟨hl, hf⟩ := fld Try.underlying50 h
  rw [show A.cellsOf 50 = 4 by kernel_rfl] at hl
  match cs, hl with
  | [a0, a1, a2, a3], _ =>
    obtain ⟨_, _, h0⟩ := hf 0 _ rfl
    change DataW.trod enc A w base sp held _ 3 (([a0, a1, a2, a3].drop 0).take (A.cellsOf 3)) = _ at h0
    rw [show A.cellsOf 3 = 1 by kernel_rfl] at h0
    obtain ⟨n0, e0⟩ := open_i Try.underlying3 h0
    obtain ⟨_, _, h1⟩ := hf 1 _ rfl
    change DataW.trod enc A w base sp held _ 3 (([a0, a1, a2, a3].drop 1).take (A.cellsOf 3)) = _ at h1
    rw [show A.cellsOf 3 = 1 by kernel_rfl] at h1
    obtain ⟨n1, e1⟩ := open_i Try.underlying3 h1
    obtain ⟨_, _, h2⟩ := hf 2 _ rfl
    change DataW.trod enc A w base sp held _ 21 (([a0, a1, a2, a3].drop 2).take (A.cellsOf 21)) = _ at h2
    rw [show A.cellsOf 21 = 1 by kernel_rfl] at h2
    obtain ⟨n2, e2⟩ := open_i Try.underlying21 h2
    obtain ⟨_, _, h3⟩ := hf 3 _ rfl
    change DataW.trod enc A w base sp held _ 21 (([a0, a1, a2, a3].drop 3).take (A.cellsOf 21)) = _ at h3
    rw [show A.cellsOf 21 = 1 by kernel_rfl] at h3
    obtain ⟨n3, e3⟩ := open_i Try.underlying21 h3
    obtain rfl : a0 = _ := (List.cons.inj e0).1
    obtain rfl : a1 = _ := (List.cons.inj e1).1
    obtain rfl : a2 = _ := (List.cons.inj e2).1
    obtain rfl : a3 = _ := (List.cons.inj e3).1
    exact ⟨⟨n0, n1, n2, n3⟩, rfl, trivial⟩
theorem open_Int {H : Type} {enc : TypeId × Value → H} {w : World} {base : Nat} {sp : Nat → Bool} {held : Bool} {fuel : Nat} {cs : List Value} {x : DataW H × List MemPlace} (h : DataW.trod enc A w base sp held fuel 3 cs = some x) : ∃ a : Int, cs = EInt.cells a ∧ True := by
  obtain ⟨n, e⟩ := open_i Try.underlying3 h
  exact ⟨n, e, trivial⟩
theorem open_Str {H : Type} {enc : TypeId × Value → H} {w : World} {base : Nat} {sp : Nat → Bool} {held : Bool} {fuel : Nat} {cs : List Value} {x : DataW H × List MemPlace} (h : DataW.trod enc A w base sp held fuel 9 cs = some x) : ∃ a : ByteArray, cs = EStr.cells a ∧ a.size ≤ maxLen := by
  obtain ⟨n, e, hs⟩ := open_s Try.underlying9 h
  exact ⟨n, e, hs⟩
theorem open_RTra {H : Type} {enc : TypeId × Value → H} {w : World} {base : Nat} {sp : Nat → Bool} {held : Bool} {fuel : Nat} {cs : List Value} {x : DataW H × List MemPlace} (h : DataW.trod enc A w base sp held fuel 25 cs = some x) : ∃ a : RTra, cs = ETra.cells a ∧ ∃ t : Tra, t.rd (hp w) (.agg a.cells.toArray) := by
  obtain ⟨hl, hf⟩ := fld Try.underlying25 h
  rw [show A.cellsOf 25 = 4 by kernel_rfl] at hl
  match cs, hl with
  | [a0, a1, a2, a3], _ =>
    obtain ⟨_, _, h0⟩ := hf 0 _ rfl
    change DataW.trod enc A w base sp held _ 3 (([a0, a1, a2, a3].drop 0).take (A.cellsOf 3)) = _ at h0
    rw [show A.cellsOf 3 = 1 by kernel_rfl] at h0
    obtain ⟨n0, e0⟩ := open_i Try.underlying3 h0
    obtain ⟨_, _, h1⟩ := hf 1 _ rfl
    change DataW.trod enc A w base sp held _ 3 (([a0, a1, a2, a3].drop 1).take (A.cellsOf 3)) = _ at h1
    rw [show A.cellsOf 3 = 1 by kernel_rfl] at h1
    obtain ⟨n1, e1⟩ := open_i Try.underlying3 h1
    obtain ⟨_, _, h2⟩ := hf 2 _ rfl
    change DataW.trod enc A w base sp held _ 22 (([a0, a1, a2, a3].drop 2).take (A.cellsOf 22)) = _ at h2
    rw [show A.cellsOf 22 = 1 by kernel_rfl] at h2
    obtain ⟨u2, xs, e2, R2, _⟩ := open_sl (E := EInt) (Rp := fun _ => True) Try.underlying22 (by kernel_rfl) (fun _ _ _ h => open_Int h) h2
    obtain ⟨_, _, h3⟩ := hf 3 _ rfl
    change DataW.trod enc A w base sp held _ 23 (([a0, a1, a2, a3].drop 3).take (A.cellsOf 23)) = _ at h3
    rw [show A.cellsOf 23 = 1 by kernel_rfl] at h3
    obtain ⟨u3, ys, e3, R3, _⟩ := open_sl (E := EArc) (Rp := fun _ => True) Try.underlying23 (by kernel_rfl) (fun _ _ _ h => open_Arc h) h3
    obtain rfl : a0 = _ := (List.cons.inj e0).1
    obtain rfl : a1 = _ := (List.cons.inj e1).1
    obtain rfl : a2 = _ := (List.cons.inj e2).1
    obtain rfl : a3 = _ := (List.cons.inj e3).1
    exact ⟨⟨n0, n1, u2, u3⟩, rfl, ⟨n0, n1, xs, ys⟩, u2, u3, rfl, R2, R3⟩
theorem open_tra {H : Type} {enc : TypeId × Value → H} {w : World} {base : Nat} {sp : Nat → Bool} {held : Bool} {r : Go.Reach} {b0 : Nat} {v : Value} {d : DataW H} {ps : List MemPlace} (hv : Value.okWide A w r b0 25 v) (h : DataW.Trod enc A w base sp held 25 v d ps) : ∃ t : Tra, t.rd (hp w) v := by
  obtain ⟨l, rfl⟩ := agg_of Try.underlying25 hv
  obtain ⟨fuel, h⟩ := h
  change DataW.trod enc A w base sp held fuel 25 l.toArray.toList = _ at h
  rw [List.toList_toArray] at h
  obtain ⟨a, rfl, t, ht⟩ := open_RTra h
  exact ⟨t, ht⟩
theorem open_str {H : Type} {enc : TypeId × Value → H} {w : World} {base : Nat} {sp : Nat → Bool} {held : Bool} {r : Go.Reach} {b0 : Nat} {v : Value} {d : DataW H} {ps : List MemPlace} (hv : Value.okWide A w r b0 9 v) (h : DataW.Trod enc A w base sp held 9 v d ps) : ∃ s : ByteArray, v = .string s := by
  obtain ⟨fuel, h⟩ := h
  obtain ⟨s, e, _⟩ := open_s Try.underlying9 h
  exact ⟨s, one_of e rfl (notAgg Try.underlying9 rfl hv)⟩
theorem open_strd {H : Type} {enc : TypeId × Value → H} {w : World} {base : Nat} {sp : Nat → Bool} {held : Bool} {r : Go.Reach} {b0 : Nat} {v : Value} {d : DataW H} {ps : List MemPlace} (hv : Value.okWide A w r b0 9 v) (h : DataW.Trod enc A w base sp held 9 v d ps) : ∃ s : ByteArray, v = .string s ∧ d = .lit (.string s.data.toList) := by
  obtain ⟨fuel, h⟩ := h
  obtain ⟨s, e, hx, _⟩ := DataW.trod_string Try.underlying9 h
  exact ⟨s, one_of e rfl (notAgg Try.underlying9 rfl hv), congrArg Prod.fst hx⟩
theorem bulk_part {H : Type} {d : DataW H} {l : List (DataW H)} (h : d ∈ l) : Rows.uptoBulk d ≤ Rows.uptoBulkAll l := by
  induction l with
  | nil => cases h
  | cons x r ih =>
    simp only [Rows.uptoBulkAll]
    rcases List.mem_cons.1 h with e | e
    · subst e; omega
    · have := ih e; omega
theorem bulk_str {H : Type} {l : List (DataW H)} {d : DataW H} {s : ByteArray} (hk : Rows.uptoSmall H l = true) (hd : d = .lit (.string s.data.toList)) (hm : d ∈ l) : s.size ≤ 1048576 := by
  have h1 := bulk_part hm
  have h2 : Rows.uptoBulkAll l ≤ 1048576 := of_decide_eq_true hk
  subst hd
  simp only [Rows.uptoBulk, Array.length_toList] at h1
  have : s.data.size = s.size := rfl
  omega
theorem open_int {H : Type} {enc : TypeId × Value → H} {w : World} {base : Nat} {sp : Nat → Bool} {held : Bool} {r : Go.Reach} {b0 : Nat} {v : Value} {d : DataW H} {ps : List MemPlace} (hv : Value.okWide A w r b0 3 v) (h : DataW.Trod enc A w base sp held 3 v d ps) : ∃ n : Int, v = .int .i64 n := by
  obtain ⟨fuel, h⟩ := h
  obtain ⟨s, e⟩ := open_i Try.underlying3 h
  exact ⟨s, one_of e rfl (notAgg Try.underlying3 rfl hv)⟩
theorem open_rune {H : Type} {enc : TypeId × Value → H} {w : World} {base : Nat} {sp : Nat → Bool} {held : Bool} {r : Go.Reach} {b0 : Nat} {v : Value} {d : DataW H} {ps : List MemPlace} (hv : Value.okWide A w r b0 21 v) (h : DataW.Trod enc A w base sp held 21 v d ps) : ∃ n : Int, v = .int .i32 n := by
  obtain ⟨fuel, h⟩ := h
  obtain ⟨s, e⟩ := open_i Try.underlying21 h
  exact ⟨s, one_of e rfl (notAgg Try.underlying21 rfl hv)⟩
theorem open_strs {H : Type} {enc : TypeId × Value → H} {w : World} {base : Nat} {sp : Nat → Bool} {held : Bool} {r : Go.Reach} {b0 : Nat} {v : Value} {d : DataW H} {ps : List MemPlace} (hv : Value.okWide A w r b0 30 v) (h : DataW.Trod enc A w base sp held 30 v d ps) : ∃ (u : SV) (xs : List ByteArray), v = sv u ∧ rdSl EStr (hp w) (sv u) xs := by
  obtain ⟨fuel, h⟩ := h
  obtain ⟨u, xs, e, R, _⟩ := open_sl (E := EStr) (Rp := fun _ => True) Try.underlying30 (by kernel_rfl) (fun _ _ _ h => (open_Str h).imp fun _ h => ⟨h.1, trivial⟩) h
  exact ⟨u, xs, one_of e rfl (notAgg Try.underlying30 rfl hv), R⟩
theorem open_ints {H : Type} {enc : TypeId × Value → H} {w : World} {base : Nat} {sp : Nat → Bool} {held : Bool} {r : Go.Reach} {b0 : Nat} {v : Value} {d : DataW H} {ps : List MemPlace} (hv : Value.okWide A w r b0 22 v) (h : DataW.Trod enc A w base sp held 22 v d ps) : ∃ (u : SV) (xs : List Int), v = sv u ∧ rdSl EInt (hp w) (sv u) xs := by
  obtain ⟨fuel, h⟩ := h
  obtain ⟨u, xs, e, R, _⟩ := open_sl (E := EInt) (Rp := fun _ => True) Try.underlying22 (by kernel_rfl) (fun _ _ _ h => (open_Int h).imp fun _ h => ⟨h.1, trivial⟩) h
  exact ⟨u, xs, one_of e rfl (notAgg Try.underlying22 rfl hv), R⟩
theorem own : ownKnob A.godebug = none := by kernel_rfl
theorem laidOut : laidOutB A = true := by kernel_rfl
end Go.Proofs.Ytfepjcmjkaolgaa.G
