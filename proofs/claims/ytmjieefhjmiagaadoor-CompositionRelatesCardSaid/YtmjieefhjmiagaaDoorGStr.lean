/- Walk library, part 11 (strings as runes and as bytes): conversions. Plain theorems over any program. -/
import Derived.Test.YtmjieefhjmiagaaDoorGRow
import Derived.Laws.IdiomStrings
import Derived.Laws.Cover4
import Derived.Laws.Strings
import Derived.Laws.Small
import Derived.Laws.Concat
import Derived.Laws.Runes
import Derived.Lib.RuneCount
import Derived.Lib.TrimU
set_option linter.all false
namespace Go.Proofs.YtmjieefhjmiagaaDoor.G
open Go Go.RowKit
/-- The runes of a string, from a place on. -/
def rnF (s : ByteArray) : Nat → Nat → List Int
  | 0, _ => []
  | b + 1, i => if i < s.size then ((Utf8.decode s i).1 : Int) :: rnF s b (i + (Utf8.decode s i).2) else []
def runesL (s : ByteArray) : List Int := rnF s s.size 0
theorem runesFrom_eq (s : ByteArray) : ∀ (b i : Nat) (acc : Array Value), Conv.runesFrom s b i acc = acc ++ ((rnF s b i).map (Value.int .i32)).toArray
  | 0, i, acc => by simp [Conv.runesFrom, rnF]
  | b + 1, i, acc => by
    unfold Conv.runesFrom rnF
    split
    · show Conv.runesFrom s b (i + (Utf8.decode s i).2) (acc.push (Value.int .i32 (Int.ofNat (Utf8.decode s i).1))) = _
      rw [runesFrom_eq s b]; simp
    · simp
theorem rnF_len (s : ByteArray) : ∀ (b i : Nat), (rnF s b i).length = Lib.runeCountFrom s b i
  | 0, i => rfl
  | b + 1, i => by
    unfold rnF Lib.runeCountFrom
    split
    · rw [List.length_cons, rnF_len s b]; omega
    · rfl
theorem runesL_len (s : ByteArray) : (runesL s).length = Lib.runeCount s := rnF_len s _ _
theorem rnF_le (s : ByteArray) : ∀ (b i : Nat), (rnF s b i).length ≤ b
  | 0, i => by simp [rnF]
  | b + 1, i => by
    unfold rnF
    split
    · rw [List.length_cons]; have := rnF_le s b (i + (Utf8.decode s i).2); omega
    · simp
theorem runesL_le (s : ByteArray) : (runesL s).length ≤ s.size := rnF_le s _ _
theorem rnF_rng (s : ByteArray) : ∀ (b i : Nat), ∀ r ∈ rnF s b i, 0 ≤ r ∧ r ≤ 1114111
  | 0, i, r, h => by simp [rnF] at h
  | b + 1, i, r, h => by
    unfold rnF at h
    split at h
    · rcases List.mem_cons.1 h with rfl | h
      · have := Lib.rune_le s i; omega
      · exact rnF_rng s b _ r h
    · simp at h
def bytesL (s : ByteArray) : List Int := s.data.toList.map fun b => (b.toNat : Int)
theorem bytesL_len (s : ByteArray) : (bytesL s).length = s.size := by simp [bytesL]
section
variable {P : Program} {n : Nat} {ops : Array Oper} {e : Env} {dst : Option Tmp} {ty : TypeId} {pos : String} {af : Array Edge} {w0 w : World} {I0 I : Heap} {L : List Res} {S : World → Prop}
theorem all_ints {E : ET P Int} {q : IntKind} (hc : ∀ x, E.cells x = [.int q x]) (xs : List Int) : E.all xs = xs.map (Value.int q) := by
  unfold ET.all
  induction xs with
  | nil => rfl
  | cons x xs ih => rw [List.flatMap_cons, ih, hc]; rfl
/-- []rune(s), as a slice that nobody writes. -/
theorem e_cvRI {E : ET P Int} {src d : TypeId} {x : Operand} {s : ByteArray} (M : Mem w0 I0 I L w) (hc : ∀ x, E.cells x = [.int .i32 x]) (hs : P.underlying src = some .string) (hd : P.underlying d = some (.slice E.T)) (he : P.underlying E.T = some (.int .i32)) (hz : s.size ≤ 70368744177664) (hx : evo e x = some (.string s)) :
    Eff P n ops ⟨dst, .convert src d x, ty, pos, af, none⟩ e w fun v w' => ∃ I', hle I I' ∧ rdSl E I' v (runesL s) ∧ Mem w0 I0 I' L w' := by
  replace hx := ev_of hx
  have hq : Conv.runesFrom s s.size 0 #[] = ((runesL s).map (Value.int .i32)).toArray := by rw [runesFrom_eq]; simp [runesL]
  have hlen := runesL_le s
  have hrun := run_runes_of_string w src d E.T s hs hd he (by rw [hq]; simp; omega)
  rw [hq] at hrun
  simp only [List.size_toArray, List.length_map] at hrun
  refine Eff.run (by simp only [execOp, hx, Sem.run_bind, hrun, Result.andThen_ok, Sem.run_pure]; rfl) rfl ⟨_, ?_, ?_, M.drew.allocI _⟩
  · exact addI_le M.drew.imm _
  · refine ⟨_, _, rfl, grownCap_ge w _ _ _, grownCap_le_maxLen w _ _ _ (by have : maxLen = 9223372036854775807 := by decide
                                                                           omega), fun _ => ⟨w.drew.heap.size, 0, rfl, _, E.T, (0, 0), by rw [addI, if_pos rfl], ?_⟩⟩
    rw [all_ints hc]
    simp
/-- []byte(s), as a slice that nobody writes. -/
theorem e_cvBI {E : ET P Int} {src d : TypeId} {x : Operand} {s : ByteArray} (M : Mem w0 I0 I L w) (hc : ∀ x, E.cells x = [.int .u8 x]) (hs : P.underlying src = some .string) (hd : P.underlying d = some (.slice E.T)) (he : P.underlying E.T = some (.int .u8)) (hz : s.size ≤ 70368744177664) (hx : evo e x = some (.string s)) :
    Eff P n ops ⟨dst, .convert src d x, ty, pos, af, none⟩ e w fun v w' => ∃ I', hle I I' ∧ rdSl E I' v (bytesL s) ∧ Mem w0 I0 I' L w' := by
  replace hx := ev_of hx
  have hrun := run_bytes_of_string w src d E.T s hs hd he
  refine Eff.run (by simp only [execOp, hx, Sem.run_bind, hrun, Result.andThen_ok, Sem.run_pure]; rfl) rfl ⟨_, ?_, ?_, M.drew.allocI _⟩
  · exact addI_le M.drew.imm _
  · have hl := bytesL_len s
    rw [← hl]
    refine ⟨_, _, rfl, grownCap_ge w _ _ _, grownCap_le_maxLen w _ _ _ (by have : maxLen = 9223372036854775807 := by decide
                                                                           omega), fun _ => ⟨w.drew.heap.size, 0, rfl, _, E.T, _, by rw [addI, if_pos rfl], ?_⟩⟩
    rw [all_ints hc, bytesRow, List.length_map, List.drop_zero, Array.toList_append, List.take_left' (by simp [bytesL])]
    simp [bytesL]
/-- The bytes of some runes. -/
def strL (l : List Int) : ByteArray := runesBytes l
/-- string(r) of a slice of runes. -/
theorem q_cvS {E : ET P Int} {src d : TypeId} {x : Operand} {v : Value} {xs : List Int} (hc : ∀ x, E.cells x = [.int .i32 x]) (hsz : E.sz = 1) (R : ∀ w, S w → rdSl E (hp w) v xs) (hs : P.underlying src = some (.slice E.T)) (he : P.underlying E.T = some (.int .i32)) (hd : P.underlying d = some .string) (hx : evo e x = some v) :
    Quiet P n ops S ⟨dst, .convert src d x, ty, pos, af, none⟩ e (.string (strL xs)) := by
  refine Quiet.run (fun a ha w hS => ?_) rfl
  have hx' := ev_of hx
  have hev : a.eval x = v := by rw [ha.eval]; exact hx'
  obtain ⟨A, c, rfl, h1, h2, h3⟩ := R w hS
  have hrun : (convert src d (.slice A xs.length c)).run P w = .ok (.string (strL xs)) w := by
    by_cases hne : xs = []
    · subst hne
      cases A with
      | none => exact run_convert_runes_nil w src d E.T _ _ hs he hd
      | some b => have := run_convert_runes w src d E.T b 0 c [] (by simp) hs he hd (by simp); simpa [strL] using this
    · obtain ⟨b, o, rfl, p⟩ := h3 hne
      have := run_convert_runes w src d E.T ⟨b, o, none⟩ xs.length c xs (Nat.le_refl _) hs he hd (fun j hj => by
        refine p.cell j _ ?_
        rw [all_ints hc, List.getElem?_map, List.getElem?_eq_getElem hj]
        simp [hj])
      simpa [strL] using this
  simp only [execOp, hev, Sem.run_bind, hrun, Result.andThen_ok, Sem.run_pure]
end
/-! comparing strings and bools; joining strings -/
section
variable {P : Program} {n : Nat} {ops : Array Oper} {e : Env} {dst : Option Tmp} {ty : TypeId} {pos : String} {af : Array Edge} {S : World → Prop}
theorem run_bin_str {op : BinOp} {T : TypeId} {x y : Operand} {a b : ByteArray} (w : World) (hx : evl e x = .string a) (hy : evl e y = .string b) {T2 : TypeId} :
    (execOp (evl e) ⟨dst, .binOp op T x y T2, ty, pos, af, none⟩).run P w = (do pure (.value (← binOp op T (.string a) (.string b))) : Sem Next).run P w := by
  simp only [execOp, hx, hy, eqGuard]
  cases op <;> simp
theorem run_bin_bool {op : BinOp} {T : TypeId} {x y : Operand} {a b : Bool} (w : World) (hx : evl e x = .bool a) (hy : evl e y = .bool b) {T2 : TypeId} :
    (execOp (evl e) ⟨dst, .binOp op T x y T2, ty, pos, af, none⟩).run P w = (do pure (.value (← binOp op T (.bool a) (.bool b))) : Sem Next).run P w := by
  simp only [execOp, hx, hy, eqGuard]
  cases op <;> simp
theorem list_dec (a b : ByteArray) : (a.toList == b.toList) = decide (a = b) := by
  rw [Bool.eq_iff_iff]
  simp only [beq_iff_eq, decide_eq_true_eq]
  exact ⟨toList_inj', fun h => by rw [h]⟩
theorem q_eqlS {T T2 : TypeId} {x y : Operand} {a b : ByteArray} (hx : evo e x = some (.string a)) (hy : evo e y = some (.string b)) : Quiet P n ops S ⟨dst, .binOp .eql T x y T2, ty, pos, af, none⟩ e (.bool (decide (a = b))) := by
  replace hx := ev_of hx
  replace hy := ev_of hy
  exact q_of rfl fun w _ => by rw [run_bin_str w hx hy, binOp_string_eql, list_dec]; rfl
theorem q_neqS {T T2 : TypeId} {x y : Operand} {a b : ByteArray} (hx : evo e x = some (.string a)) (hy : evo e y = some (.string b)) : Quiet P n ops S ⟨dst, .binOp .neq T x y T2, ty, pos, af, none⟩ e (.bool (!decide (a = b))) := by
  replace hx := ev_of hx
  replace hy := ev_of hy
  exact q_of rfl fun w _ => by rw [run_bin_str w hx hy, binOp_string_neq, list_dec]; rfl
theorem q_eqlB {T T2 : TypeId} {x y : Operand} {a b : Bool} (hu : P.underlying T = some .bool) (hx : evo e x = some (.bool a)) (hy : evo e y = some (.bool b)) : Quiet P n ops S ⟨dst, .binOp .eql T x y T2, ty, pos, af, none⟩ e (.bool (a == b)) := by
  replace hx := ev_of hx
  replace hy := ev_of hy
  exact q_of rfl fun w _ => by rw [run_bin_bool w hx hy]; simp only [Sem.run_bind, run_eql_bool w T a b hu, Result.andThen_ok, Sem.run_pure]
theorem q_addS {T T2 : TypeId} {x y : Operand} {a b : ByteArray} (hx : evo e x = some (.string a)) (hy : evo e y = some (.string b)) (hz : a.size + b.size ≤ 9223372036854775807) : Quiet P n ops S ⟨dst, .binOp .add T x y T2, ty, pos, af, none⟩ e (.string (a ++ b)) := by
  replace hx := ev_of hx
  replace hy := ev_of hy
  have hb : binOp .add T (.string a) (.string b) = Op.stringOp .add a b := by simp [binOp]
  exact q_of rfl fun w _ => by rw [run_bin_str w hx hy, hb]; simp only [Sem.run_bind, run_string_add_sum w a b hz, Result.andThen_ok, Sem.run_pure]
/-- string(r) of a rune. -/
theorem q_cvI {src d : TypeId} {x : Operand} {k : IntKind} {r : Int} (hs : (P.underlying src).isSome = true) (hd : P.underlying d = some .string) (hx : evo e x = some (.int k r)) : Quiet P n ops S ⟨dst, .convert src d x, ty, pos, af, none⟩ e (.string (Utf8.encode r)) := by
  replace hx := ev_of hx
  exact q_of rfl fun w _ => by simp only [execOp, hx, Sem.run_bind, run_convert_int_string (w := w) src d k r hs hd, Result.andThen_ok, Sem.run_pure]
end
/-! several effects that may come up in any order -/
section
variable {P : Program} {n : Nat} {ops : Array Oper} {K : Env → World → Prop} {S : World → Prop} {w : World} {l : List (Nat × Value)} {b : Env} {o : Oper}
def One (P : Program) (n : Nat) (ops : Array Oper) (S : World → Prop) (F : List Nat) (K : Env → World → Prop) (fuel : Nat) (listed : Array Bool) (l : List (Nat × Value)) (b : Env) (w : World) (i : Nat) : Prop :=
  ∃ (o : Oper) (d : Nat) (Post : Value → World → Prop), ops[i]? = some o ∧ Eff P n ops o (look l b) w Post ∧ o.dst = some d ∧ Nat.blt d n = true ∧
    ∀ v w', Post v w' → (fresh (listed.setIfInBounds i true) F = true → S w') ∧ WA P n ops S F K fuel (listed.setIfInBounds i true) (look ((d, v) :: l) b) w'
theorem one_e {F : List Nat} (i : Nat) {d : Nat} {fuel : Nat} {listed : Array Bool} {Post : Value → World → Prop} (hi : ops[i]? = some o) (he : Eff P n ops o (look l b) w Post) (hd : o.dst = some d) (hn : Nat.blt d n = true)
    (h : ∀ v w', Post v w' → (fresh (listed.setIfInBounds i true) F = true → S w') ∧ WA P n ops S F K fuel (listed.setIfInBounds i true) (look ((d, v) :: l) b) w') : One P n ops S F K fuel listed l b w i :=
  ⟨o, d, Post, hi, he, hd, hn, h⟩
def AllOne (p : Nat → Prop) : List Nat → Prop
  | [] => True
  | i :: l => p i ∧ AllOne p l
theorem AllOne.spec {p : Nat → Prop} : ∀ {l : List Nat}, AllOne p l → ∀ i ∈ l, p i
  | [], _, i, h => by simp at h
  | x :: l, h, i, hi => by
    rcases List.mem_cons.1 hi with rfl | hi
    · exact h.1
    · exact h.2.spec i hi
theorem wa_es {F : List Nat} {fuel : Nat} {listed : Array Bool} (rs : List Nat) (hr : Region.ready .any ops listed = rs) (hne : rs ≠ []) (h : AllOne (One P n ops S F K fuel listed l b w) rs) : WA P n ops S F K (fuel + 1) listed (look l b) w := by
  intro a ha
  refine ⟨fun h' => absurd (hr.symm.trans h') hne, fun j hj => ?_⟩
  rw [hr] at hj
  obtain ⟨o, d, Post, hi, he, hd, hn, hh⟩ := h.spec j hj
  have hlt : d < n := by simpa [Nat.blt_eq] using hn
  obtain ⟨hw, hrun⟩ := he a ha
  unfold wpOp
  simp only [hi, hw, if_true]
  refine .inl (hrun _ _ fun v w' hp => ?_)
  rw [hd]
  exact ⟨(hh v w' hp).1, (hh v w' hp).2 _ (ha.put hlt v)⟩
end
end Go.Proofs.YtmjieefhjmiagaaDoor.G
