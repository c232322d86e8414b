/- Rounds over the runes of a string. -/
import Derived.Test.YtoilmeiikgegcaaDoorGArr
import Derived.Laws.RangeString
set_option linter.all false
namespace Go.Proofs.YtoilmeiikgegcaaDoor.G
open Go Go.RowKit
open Go.ChangeMaps (setBlock)
def sitr (r : Nat) (s : ByteArray) (pos : Nat) : Res where
  blks := [r]
  holds h := h r = some (.stringIter s pos)
  loc h h' e k := by rw [← e r (by simp)]; exact k
section
variable {P : Program} {n : Nat} {ops : Array Oper} {e : Env} {dst : Option Tmp} {ty : TypeId} {ps : String} {af : Array Go.Edge} {w0 w : World} {I0 I : Heap} {L : List Res}
theorem e_rngS {t : TypeId} {x : Operand} {s : ByteArray} (M : Mem w0 I0 I L w) (ht : P.underlying t = some .string) (hx : evo e x = some (.string s)) :
    Eff P n ops ⟨dst, .range t x, ty, ps, af, none⟩ e w fun v w' => ∃ r, v = .pointer (some ⟨r, 0, none⟩) ∧ Mem w0 I0 I (sitr r s 0 :: L) w' := by
  replace hx := ev_of hx
  refine Eff.run (v := .pointer (some ⟨w.heap.size, 0, none⟩)) (w' := w.alloc (.stringIter s 0)) ?_ rfl ⟨_, rfl, M.alloc _ _ rfl (fun h eh => eh)⟩
  simp only [execOp, hx, Sem.run_bind, run_range_string w t s ht, Result.andThen_ok, Sem.run_pure, World.iter]
theorem run_next_rune {w : World} {s : ByteArray} {r pos : Nat} (hr : hp w r = some (.stringIter s pos)) (h : pos < s.size) :
    (Instr.next (.pointer (some ⟨r, 0, none⟩)) true ty).run P w = .ok (.tuple #[.bool true, .int .i64 pos, .int .i32 (Utf8.decode s pos).1]) (setBlock w r (.stringIter s (pos + (Utf8.decode s pos).2))) := by
  have hr' : w.heap[r]? = some (.stringIter s pos) := hr
  have hl : r < w.heap.size := hp_lt hr
  simp only [Instr.next, getObj, setObj, Sem.run_bind, Sem.run, hr', Result.andThen, h, if_true]
  simp [goInt, Sem.run, setBlock, hr']
theorem run_next_over {w : World} {s : ByteArray} {r pos : Nat} (hr : hp w r = some (.stringIter s pos)) (h : ¬ pos < s.size) :
    (Instr.next (.pointer (some ⟨r, 0, none⟩)) true ty).run P w = .ok (.tuple #[.bool false]) w := by
  have hr' : w.heap[r]? = some (.stringIter s pos) := hr
  simp [Instr.next, getObj, Sem.run, hr', h]
theorem e_nxS (i : Nat) {it : Operand} {r pos : Nat} {s : ByteArray} (M : Mem w0 I0 I L w) (hi : L[i]? = some (sitr r s pos)) (hit : evo e it = some (.pointer (some ⟨r, 0, none⟩))) :
    Eff P n ops ⟨dst, .next it true, ty, ps, af, none⟩ e w fun v w' => (v = .tuple #[.bool false] ∧ ¬ pos < s.size ∧ Mem w0 I0 I L w') ∨ (v = .tuple #[.bool true, .int .i64 pos, .int .i32 (Utf8.decode s pos).1] ∧ pos < s.size ∧ Mem w0 I0 I (L.set i (sitr r s (pos + (Utf8.decode s pos).2))) w') := by
  replace hit := ev_of hit
  have hr : hp w r = some (.stringIter s pos) := M.holds _ (getElem?_mem' hi)
  by_cases h : pos < s.size
  · refine Eff.run (v := .tuple #[.bool true, .int .i64 pos, .int .i32 (Utf8.decode s pos).1]) (w' := setBlock w r (.stringIter s (pos + (Utf8.decode s pos).2))) ?_ rfl (.inr ⟨rfl, h, M.upd i hi _ (chg_setBlock w r _) (by simp [sitr]) (fun c hc => .inl hc) (fun c hc => ?_) (setBlock_heap hr)⟩)
    · simp only [execOp, hit, Sem.run_bind, run_next_rune (P := P) (ty := ty) hr h, Result.andThen_ok, Sem.run_pure]
    · exact Nat.lt_of_lt_of_le (M.own (getElem?_mem' hi) hc).2.1 (chg_setBlock w r _).size
  · refine Eff.run (v := .tuple #[.bool false]) (w' := w) ?_ rfl (.inl ⟨rfl, h, M⟩)
    simp only [execOp, hit, Sem.run_bind, run_next_over (P := P) (ty := ty) hr h, Result.andThen_ok, Sem.run_pure]
end
theorem text_step {s : ByteArray} {b pos : Nat} (h : pos < s.size) (hb : s.size ≤ pos + b) (hc : ¬ ((Utf8.decode s pos).1 : Int) = 0) : ((0 : Int) ∈ rnF s b pos ↔ (0 : Int) ∈ rnF s (b - 1) (pos + (Utf8.decode s pos).2)) ∧ s.size ≤ pos + (Utf8.decode s pos).2 + (b - 1) := by
  have hw := Lib.width_pos s pos
  obtain ⟨q, rfl⟩ : ∃ q, b = q + 1 := ⟨b - 1, by omega⟩
  refine ⟨?_, by omega⟩
  rw [rnF, if_pos h, List.mem_cons, Nat.add_sub_cancel]
  exact ⟨fun e => e.resolve_left fun e => hc e.symm, .inr⟩
theorem text_zero {s : ByteArray} {b pos : Nat} (h : pos < s.size) (hb : s.size ≤ pos + b) (hc : ((Utf8.decode s pos).1 : Int) = 0) : (0 : Int) ∈ rnF s b pos := by
  obtain ⟨q, rfl⟩ : ∃ q, b = q + 1 := ⟨b - 1, by omega⟩
  rw [rnF, if_pos h, hc]; simp
theorem text_end {s : ByteArray} {b pos : Nat} (h : ¬ pos < s.size) : ¬ (0 : Int) ∈ rnF s b pos := by
  cases b with
  | zero => simp [rnF]
  | succ b => rw [rnF, if_neg h]; simp
theorem okT_bad {s : ByteArray} (h : (0 : Int) ∈ runesL s) : okT s = false := by rw [okT, decide_eq_true h]; simp
theorem okT_good {s : ByteArray} (h : ¬ (0 : Int) ∈ runesL s) : okT s = decide (strL (runesL s) = s) := by rw [okT, decide_eq_false h]; simp
end Go.Proofs.YtoilmeiikgegcaaDoor.G
