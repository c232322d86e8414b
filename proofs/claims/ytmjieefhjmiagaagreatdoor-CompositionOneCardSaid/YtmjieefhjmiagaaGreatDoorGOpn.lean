/- The arguments of this seat's laws, opened; the tables of unicode/utf8 as the row lists them. -/
import Derived.Test.YtmjieefhjmiagaaGreatDoorGBtw
import Derived.Test.YtmjieefhjmiagaaGreatDoorGBfs
import Derived.Test.YtmjieefhjmiagaaGreatDoorGStr
import Derived.Test.YtmjieefhjmiagaaGreatDoorTie
import Derived.Lib.LaidU8T
import Derived.Lib.LaidIn
import Derived.Lay
import Derived.SevenTiedAt
import Derived.Stop.Joined
set_option linter.all false
namespace Go.Proofs.YtmjieefhjmiagaaGreatDoor.G
open Go Go.RowKit Go.ChangeShapes Go.Lib
set_option maxRecDepth 100000
theorem open_Arc {H : Type} {enc : TypeId × Value → H} {w : World} {base : Nat} {sp : Nat → Bool} {held : Bool} {fuel : Nat} {cs : List Value} {x : DataW H × List MemPlace} (h : DataW.trod enc A w base sp held fuel 51 cs = some x) : ∃ a : Arc, cs = EArc.cells a ∧ True := by
  obtain ⟨hl, hf⟩ := fld Tryz.underlying51 h
  rw [show A.cellsOf 51 = 4 by kernel_rfl] at hl
  match cs, hl with
  | [a0, a1, a2, a3], _ =>
    obtain ⟨_, _, h0⟩ := hf 0 _ rfl
    change DataW.trod enc A w base sp held _ 3 (([a0, a1, a2, a3].drop 0).take (A.cellsOf 3)) = _ at h0
    rw [show A.cellsOf 3 = 1 by kernel_rfl] at h0
    obtain ⟨n0, e0⟩ := open_i Tryz.underlying3 h0
    obtain ⟨_, _, h1⟩ := hf 1 _ rfl
    change DataW.trod enc A w base sp held _ 3 (([a0, a1, a2, a3].drop 1).take (A.cellsOf 3)) = _ at h1
    rw [show A.cellsOf 3 = 1 by kernel_rfl] at h1
    obtain ⟨n1, e1⟩ := open_i Tryz.underlying3 h1
    obtain ⟨_, _, h2⟩ := hf 2 _ rfl
    change DataW.trod enc A w base sp held _ 21 (([a0, a1, a2, a3].drop 2).take (A.cellsOf 21)) = _ at h2
    rw [show A.cellsOf 21 = 1 by kernel_rfl] at h2
    obtain ⟨n2, e2⟩ := open_i Tryz.underlying21 h2
    obtain ⟨_, _, h3⟩ := hf 3 _ rfl
    change DataW.trod enc A w base sp held _ 21 (([a0, a1, a2, a3].drop 3).take (A.cellsOf 21)) = _ at h3
    rw [show A.cellsOf 21 = 1 by kernel_rfl] at h3
    obtain ⟨n3, e3⟩ := open_i Tryz.underlying21 h3
    obtain rfl : a0 = _ := (List.cons.inj e0).1
    obtain rfl : a1 = _ := (List.cons.inj e1).1
    obtain rfl : a2 = _ := (List.cons.inj e2).1
    obtain rfl : a3 = _ := (List.cons.inj e3).1
    exact ⟨⟨n0, n1, n2, n3⟩, rfl, trivial⟩
theorem open_Int {H : Type} {enc : TypeId × Value → H} {w : World} {base : Nat} {sp : Nat → Bool} {held : Bool} {fuel : Nat} {cs : List Value} {x : DataW H × List MemPlace} (h : DataW.trod enc A w base sp held fuel 3 cs = some x) : ∃ a : Int, cs = EInt.cells a ∧ True := by
  obtain ⟨n, e⟩ := open_i Tryz.underlying3 h
  exact ⟨n, e, trivial⟩
theorem open_Str {H : Type} {enc : TypeId × Value → H} {w : World} {base : Nat} {sp : Nat → Bool} {held : Bool} {fuel : Nat} {cs : List Value} {x : DataW H × List MemPlace} (h : DataW.trod enc A w base sp held fuel 9 cs = some x) : ∃ a : ByteArray, cs = EStr.cells a ∧ a.size ≤ maxLen := by
  obtain ⟨n, e, hs⟩ := open_s Tryz.underlying9 h
  exact ⟨n, e, hs⟩
theorem open_RTra {H : Type} {enc : TypeId × Value → H} {w : World} {base : Nat} {sp : Nat → Bool} {held : Bool} {fuel : Nat} {cs : List Value} {x : DataW H × List MemPlace} (h : DataW.trod enc A w base sp held fuel 25 cs = some x) : ∃ a : RTra, cs = ETra.cells a ∧ ∃ t : Tra, t.rd (hp w) (.agg a.cells.toArray) := by
  obtain ⟨hl, hf⟩ := fld Tryz.underlying25 h
  rw [show A.cellsOf 25 = 4 by kernel_rfl] at hl
  match cs, hl with
  | [a0, a1, a2, a3], _ =>
    obtain ⟨_, _, h0⟩ := hf 0 _ rfl
    change DataW.trod enc A w base sp held _ 3 (([a0, a1, a2, a3].drop 0).take (A.cellsOf 3)) = _ at h0
    rw [show A.cellsOf 3 = 1 by kernel_rfl] at h0
    obtain ⟨n0, e0⟩ := open_i Tryz.underlying3 h0
    obtain ⟨_, _, h1⟩ := hf 1 _ rfl
    change DataW.trod enc A w base sp held _ 3 (([a0, a1, a2, a3].drop 1).take (A.cellsOf 3)) = _ at h1
    rw [show A.cellsOf 3 = 1 by kernel_rfl] at h1
    obtain ⟨n1, e1⟩ := open_i Tryz.underlying3 h1
    obtain ⟨_, _, h2⟩ := hf 2 _ rfl
    change DataW.trod enc A w base sp held _ 22 (([a0, a1, a2, a3].drop 2).take (A.cellsOf 22)) = _ at h2
    rw [show A.cellsOf 22 = 1 by kernel_rfl] at h2
    obtain ⟨u2, xs, e2, R2, _⟩ := open_sl (E := EInt) (Rp := fun _ => True) Tryz.underlying22 (by kernel_rfl) (fun _ _ _ h => open_Int h) h2
    obtain ⟨_, _, h3⟩ := hf 3 _ rfl
    change DataW.trod enc A w base sp held _ 23 (([a0, a1, a2, a3].drop 3).take (A.cellsOf 23)) = _ at h3
    rw [show A.cellsOf 23 = 1 by kernel_rfl] at h3
    obtain ⟨u3, ys, e3, R3, _⟩ := open_sl (E := EArc) (Rp := fun _ => True) Tryz.underlying23 (by kernel_rfl) (fun _ _ _ h => open_Arc h) h3
    obtain rfl : a0 = _ := (List.cons.inj e0).1
    obtain rfl : a1 = _ := (List.cons.inj e1).1
    obtain rfl : a2 = _ := (List.cons.inj e2).1
    obtain rfl : a3 = _ := (List.cons.inj e3).1
    exact ⟨⟨n0, n1, u2, u3⟩, rfl, ⟨n0, n1, xs, ys⟩, u2, u3, rfl, R2, R3⟩
theorem open_tra {H : Type} {enc : TypeId × Value → H} {w : World} {base : Nat} {sp : Nat → Bool} {held : Bool} {r : Go.Reach} {b0 : Nat} {v : Value} {d : DataW H} {ps : List MemPlace} (hv : Value.okWide A w r b0 25 v) (h : DataW.Trod enc A w base sp held 25 v d ps) : ∃ t : Tra, t.rd (hp w) v := by
  obtain ⟨l, rfl⟩ := agg_of Tryz.underlying25 hv
  obtain ⟨fuel, h⟩ := h
  change DataW.trod enc A w base sp held fuel 25 l.toArray.toList = _ at h
  rw [List.toList_toArray] at h
  obtain ⟨a, rfl, t, ht⟩ := open_RTra h
  exact ⟨t, ht⟩
theorem open_str {H : Type} {enc : TypeId × Value → H} {w : World} {base : Nat} {sp : Nat → Bool} {held : Bool} {r : Go.Reach} {b0 : Nat} {v : Value} {d : DataW H} {ps : List MemPlace} (hv : Value.okWide A w r b0 9 v) (h : DataW.Trod enc A w base sp held 9 v d ps) : ∃ s : ByteArray, v = .string s := by
  obtain ⟨fuel, h⟩ := h
  obtain ⟨s, e, _⟩ := open_s Tryz.underlying9 h
  exact ⟨s, one_of e rfl (notAgg Tryz.underlying9 rfl hv)⟩
theorem open_int {H : Type} {enc : TypeId × Value → H} {w : World} {base : Nat} {sp : Nat → Bool} {held : Bool} {r : Go.Reach} {b0 : Nat} {v : Value} {d : DataW H} {ps : List MemPlace} (hv : Value.okWide A w r b0 3 v) (h : DataW.Trod enc A w base sp held 3 v d ps) : ∃ n : Int, v = .int .i64 n := by
  obtain ⟨fuel, h⟩ := h
  obtain ⟨s, e⟩ := open_i Tryz.underlying3 h
  exact ⟨s, one_of e rfl (notAgg Tryz.underlying3 rfl hv)⟩
theorem open_SPair {H : Type} {enc : TypeId × Value → H} {w : World} {base : Nat} {sp : Nat → Bool} {held : Bool} {fuel : Nat} {cs : List Value} {x : DataW H × List MemPlace} (h : DataW.trod enc A w base sp held fuel 149 cs = some x) : ∃ a : SPair, cs = ESPair.cells a ∧ True := by
  obtain ⟨xs, m, _, _, hl, hlen, hf⟩ := DataW.trod_array Tryz.underlying149 h
  rw [show A.cellsOf 149 = 2 by kernel_rfl] at hl
  match cs, hl with
  | [a0, a1], _ =>
    obtain ⟨y0, hy0⟩ : ∃ y, xs[0]? = some y := ⟨_, List.getElem?_eq_getElem (by omega)⟩
    obtain ⟨y1, hy1⟩ : ∃ y, xs[1]? = some y := ⟨_, List.getElem?_eq_getElem (by omega)⟩
    have h0 := hf 0 (by decide)
    have h1 := hf 1 (by decide)
    rw [show A.cellsOf 9 = 1 by kernel_rfl, hy0] at h0
    rw [show A.cellsOf 9 = 1 by kernel_rfl, hy1] at h1
    obtain ⟨s0, e0, _⟩ := open_s Tryz.underlying9 h0
    obtain ⟨s1, e1, _⟩ := open_s Tryz.underlying9 h1
    obtain rfl : a0 = _ := (List.cons.inj e0).1
    obtain rfl : a1 = _ := (List.cons.inj e1).1
    exact ⟨⟨s0, s1⟩, rfl, trivial⟩
theorem open_pairs {H : Type} {enc : TypeId × Value → H} {w : World} {base : Nat} {sp : Nat → Bool} {held : Bool} {r : Go.Reach} {b0 : Nat} {v : Value} {d : DataW H} {ps : List MemPlace} (hv : Value.okWide A w r b0 148 v) (h : DataW.Trod enc A w base sp held 148 v d ps) : ∃ (u : SV) (xs : List SPair), v = sv u ∧ rdSl ESPair (hp w) (sv u) xs := by
  obtain ⟨fuel, h⟩ := h
  obtain ⟨u, xs, e, R, _⟩ := open_sl (E := ESPair) (Rp := fun _ => True) Tryz.underlying148 (by kernel_rfl) (fun _ _ _ h => (open_SPair h).imp fun _ h => ⟨h.1, trivial⟩) h
  exact ⟨u, xs, one_of e rfl (notAgg Tryz.underlying148 rfl hv), R⟩
theorem open_strs {H : Type} {enc : TypeId × Value → H} {w : World} {base : Nat} {sp : Nat → Bool} {held : Bool} {r : Go.Reach} {b0 : Nat} {v : Value} {d : DataW H} {ps : List MemPlace} (hv : Value.okWide A w r b0 31 v) (h : DataW.Trod enc A w base sp held 31 v d ps) : ∃ (u : SV) (xs : List ByteArray), v = sv u ∧ rdSl EStr (hp w) (sv u) xs := by
  obtain ⟨fuel, h⟩ := h
  obtain ⟨u, xs, e, R, _⟩ := open_sl (E := EStr) (Rp := fun _ => True) Tryz.underlying31 (by kernel_rfl) (fun _ _ _ h => (open_Str h).imp fun _ h => ⟨h.1, trivial⟩) h
  exact ⟨u, xs, one_of e rfl (notAgg Tryz.underlying31 rfl hv), R⟩
theorem open_ints {H : Type} {enc : TypeId × Value → H} {w : World} {base : Nat} {sp : Nat → Bool} {held : Bool} {r : Go.Reach} {b0 : Nat} {v : Value} {d : DataW H} {ps : List MemPlace} (hv : Value.okWide A w r b0 22 v) (h : DataW.Trod enc A w base sp held 22 v d ps) : ∃ (u : SV) (xs : List Int), v = sv u ∧ rdSl EInt (hp w) (sv u) xs := by
  obtain ⟨fuel, h⟩ := h
  obtain ⟨u, xs, e, R, _⟩ := open_sl (E := EInt) (Rp := fun _ => True) Tryz.underlying22 (by kernel_rfl) (fun _ _ _ h => (open_Int h).imp fun _ h => ⟨h.1, trivial⟩) h
  exact ⟨u, xs, one_of e rfl (notAgg Tryz.underlying22 rfl hv), R⟩
theorem open_tras {H : Type} {enc : TypeId × Value → H} {w : World} {base : Nat} {sp : Nat → Bool} {held : Bool} {r : Go.Reach} {b0 : Nat} {v : Value} {d : DataW H} {ps : List MemPlace} (hv : Value.okWide A w r b0 54 v) (h : DataW.Trod enc A w base sp held 54 v d ps) : ∃ ts : List Tra, rdTras (hp w) v ts := by
  obtain ⟨fuel, h⟩ := h
  obtain ⟨u, xs, e, R, hR⟩ := open_sl (E := ETra) (Rp := fun a => ∃ t : Tra, t.rd (hp w) (.agg a.cells.toArray)) Tryz.underlying54 (by kernel_rfl) (fun _ _ _ h => open_RTra h) h
  obtain ⟨ts, h1, h2⟩ := list_of (p := fun i (t : Tra) => ∀ a, xs[i]? = some a → t.rd (hp w) (.agg a.cells.toArray)) xs.length fun i hi => by
    obtain ⟨t, ht⟩ := hR xs[i] (List.getElem_mem hi)
    refine ⟨t, fun a ha => ?_⟩
    rw [List.getElem?_eq_getElem hi] at ha
    rw [← Option.some.inj ha]; exact ht
  exact ⟨ts, xs, by rw [one_of e rfl (notAgg Tryz.underlying54 rfl hv)]; exact R, h1.symm, fun j a t ha ht => h2 j t ht a ha⟩
theorem own : ownKnob A.godebug = none := by kernel_rfl
theorem laidOut : laidOutB A = true := by kernel_rfl
theorem cell_up {w w' : World} {a : Addr} {v : Value} (h : w.cell? a = some v) (k : hle (hp w) (hp w')) : w'.cell? a = some v := by
  unfold World.cell? at h ⊢
  split at h
  · rename_i c T fr hb
    have : w'.heap[a.block]? = some (.cells c T fr) := k _ _ hb
    rw [this]; exact h
  · cases h
def utfLaid : List (String × DataW Unit) := [("unicode/utf8.acceptRanges", Rows.laid_unicode_utf8_acceptRanges), ("unicode/utf8.first", Rows.laid_unicode_utf8_first)]
theorem acc_eq : (Rows.laid_unicode_utf8_acceptRanges : DataW Unit) = acceptData := by kernel_rfl
theorem first_eq : Rows.laid_unicode_utf8_first = firstData := by kernel_rfl
theorem tabs_of {W : World} (h : laidMetH A utfLaid W) : Tabs (hp W) := by
  rw [MakeChecks.laidMetH_plain _ _ _ (by kernel_rfl)] at h
  have hA := Lib.laidMet.reads h (List.Mem.head _)
  have hF := Lib.laidMet.reads h (List.Mem.tail _ (List.Mem.head _))
  rw [acc_eq] at hA
  rw [first_eq] at hF
  have htab : Lib.Utf8Tabs (Tryz.laysValid_ren.g 3) (Tryz.laysValid_ren.g 4) W :=
    utf8Tabs_of_readsT (U8Types.of196 Tryz.laysValid) ⟨by kernel_rfl, by kernel_rfl, by kernel_rfl, by kernel_rfl, by kernel_rfl, by kernel_rfl, by kernel_rfl⟩ hF hA
  refine ⟨?_, fun w hw => ⟨fun c hc => cell_up (htab.1 c hc) hw, fun i hi => ⟨cell_up (htab.2 i hi).1 hw, cell_up (htab.2 i hi).2 hw⟩⟩⟩
  have h0 := htab.1 0 (by decide)
  unfold World.cell? at h0
  split at h0
  · rename_i c T fr hb; exact ⟨_, hb⟩
  · cases h0
end Go.Proofs.YtmjieefhjmiagaaGreatDoor.G
