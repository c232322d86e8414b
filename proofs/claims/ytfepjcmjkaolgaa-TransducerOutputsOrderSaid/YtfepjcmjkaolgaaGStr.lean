/- The data of the walks: what the program's structs hold. Plain Lean. -/
/- Walk library, part 11 (strings as runes and as bytes): conversions. Plain theorems over any program. -/
/- From a law's row to its walk: arguments opened, the result handed back. Plain theorems over any program. -/
/- Walk library, part 14: parts of a string; []rune(s) as a slice of one's own; an array of cells that an index picks. Plain theorems over any program. -/
import Derived.Test.YtfepjcmjkaolgaaGMap
import Derived.Laws.IdiomStrings
import Derived.Laws.Cover4
import Derived.Laws.Strings
import Derived.Laws.Small
import Derived.Laws.Concat
import Derived.Laws.Runes
import Derived.Lib.RuneCount
import Derived.Lib.TrimU
import Derived.ProofKit
import Derived.OpenShut
import Derived.LaidMore
import Derived.Carry
import Derived.Laws.Strings2
import Derived.Laws.Strings3
set_option linter.all false
namespace Go.Proofs.Ytfepjcmjkaolgaa.G
open Go Go.RowKit
structure Arc where
  src : Int
  dst : Int
  inp : Int
  out : Int
  deriving DecidableEq
def Arc.cells (x : Arc) : List Value := [.int .i64 x.src, .int .i64 x.dst, .int .i32 x.inp, .int .i32 x.out]
structure Pair where
  p : Int
  q : Int
  deriving DecidableEq
def Pair.cells (x : Pair) : List Value := [.int .i64 x.p, .int .i64 x.q]
structure Edge where
  src : Pair
  dst : Pair
  inp : Int
  out : Int
  deriving DecidableEq
def Edge.cells (x : Edge) : List Value := [.int .i64 x.src.p, .int .i64 x.src.q, .int .i64 x.dst.p, .int .i64 x.dst.q, .int .i32 x.inp, .int .i32 x.out]
structure Config where
  p : Int
  i : Int
  q : Int
  j : Int
  deriving DecidableEq
def Config.cells (x : Config) : List Value := [.int .i64 x.p, .int .i64 x.i, .int .i64 x.q, .int .i64 x.j]
structure Lnk where
  src : Config
  cost : Int
  deriving DecidableEq
def Lnk.cells (x : Lnk) : List Value := [.int .i64 x.src.p, .int .i64 x.src.i, .int .i64 x.src.q, .int .i64 x.src.j, .int .i64 x.cost]
structure Pos where
  state : Int
  read : Int
  deriving DecidableEq
def Pos.cells (x : Pos) : List Value := [.int .i64 x.state, .int .i64 x.read]
structure Place where
  state : Int
  inn : Int
  out : Int
  deriving DecidableEq
def Place.cells (x : Place) : List Value := [.int .i64 x.state, .int .i64 x.inn, .int .i64 x.out]
structure TCfg where
  state : Int
  pos : Int
  deriving DecidableEq
def TCfg.cells (x : TCfg) : List Value := [.int .i64 x.state, .int .i64 x.pos]
structure Move where
  src : TCfg
  dst : TCfg
  out : Int
  deriving DecidableEq
def Move.cells (x : Move) : List Value := [.int .i64 x.src.state, .int .i64 x.src.pos, .int .i64 x.dst.state, .int .i64 x.dst.pos, .int .i32 x.out]
structure SPair where
  x : ByteArray
  y : ByteArray
  deriving DecidableEq
def SPair.cells (p : SPair) : List Value := [.string p.x, .string p.y]
structure Tra where
  states : Int
  start : Int
  finals : List Int
  arcs : List Arc
  deriving DecidableEq
/-- A transducer as an element of a slice. -/
structure Lbl where
  src : Int
  inp : Int
deriving DecidableEq
def Lbl.cells (x : Lbl) : List Value := [.int .i64 x.src, .int .i32 x.inp]
structure RTra where
  states : Int
  start : Int
  fin : SV
  arc : SV
def RTra.cells (x : RTra) : List Value := [.int .i64 x.states, .int .i64 x.start, sv x.fin, sv x.arc]
end Go.Proofs.Ytfepjcmjkaolgaa.G

set_option linter.all false
namespace Go.Proofs.Ytfepjcmjkaolgaa.G
open Go Go.RowKit
/-- The runes of a string, from a place on. -/
def rnF (s : ByteArray) : Nat → Nat → List Int
  | 0, _ => []
  | b + 1, i => if i < s.size then ((Utf8.decode s i).1 : Int) :: rnF s b (i + (Utf8.decode s i).2) else []
def runesL (s : ByteArray) : List Int := rnF s s.size 0
theorem runesFrom_eq (s : ByteArray) : ∀ (b i : Nat) (acc : Array Value), Conv.runesFrom s b i acc = acc ++ ((rnF s b i).map (Value.int .i32)).toArray
  | 0, i, acc => by simp [Conv.runesFrom, rnF]
  | b + 1, i, acc => by
    unfold Conv.runesFrom rnF
    split
    · show Conv.runesFrom s b (i + (Utf8.decode s i).2) (acc.push (Value.int .i32 (Int.ofNat (Utf8.decode s i).1))) = _
      rw [runesFrom_eq s b]; simp
    · simp
theorem rnF_le (s : ByteArray) : ∀ (b i : Nat), (rnF s b i).length ≤ b
  | 0, i => by simp [rnF]
  | b + 1, i => by
    unfold rnF
    split
    · rw [List.length_cons]; have := rnF_le s b (i + (Utf8.decode s i).2); omega
    · simp
theorem runesL_le (s : ByteArray) : (runesL s).length ≤ s.size := rnF_le s _ _
def bytesL (s : ByteArray) : List Int := s.data.toList.map fun b => (b.toNat : Int)
section
variable {P : Program} {n : Nat} {ops : Array Oper} {e : Env} {dst : Option Tmp} {ty : TypeId} {pos : String} {af : Array Go.Edge} {w0 w : World} {I0 I : Heap} {L : List Res} {S : World → Prop}
theorem all_ints {E : ET P Int} {q : IntKind} (hc : ∀ x, E.cells x = [.int q x]) (xs : List Int) : E.all xs = xs.map (Value.int q) := by
  unfold ET.all
  induction xs with
  | nil => rfl
  | cons x xs ih => rw [List.flatMap_cons, ih, hc]; rfl
/-- []rune(s), as a slice that nobody writes. -/
theorem e_cvRI {E : ET P Int} {src d : TypeId} {x : Operand} {s : ByteArray} (M : Mem w0 I0 I L w) (hc : ∀ x, E.cells x = [.int .i32 x]) (hs : P.underlying src = some .string) (hd : P.underlying d = some (.slice E.T)) (he : P.underlying E.T = some (.int .i32)) (hz : s.size ≤ 70368744177664) (hx : evo e x = some (.string s)) :
    Eff P n ops ⟨dst, .convert src d x, ty, pos, af, none⟩ e w fun v w' => ∃ I', hle I I' ∧ rdSl E I' v (runesL s) ∧ Mem w0 I0 I' L w' := by
  replace hx := ev_of hx
  have hq : Conv.runesFrom s s.size 0 #[] = ((runesL s).map (Value.int .i32)).toArray := by rw [runesFrom_eq]; simp [runesL]
  have hlen := runesL_le s
  have hrun := run_runes_of_string w src d E.T s hs hd he (by rw [hq]; simp; omega)
  rw [hq] at hrun
  simp only [List.size_toArray, List.length_map] at hrun
  refine Eff.run (by simp only [execOp, hx, Sem.run_bind, hrun, Result.andThen_ok, Sem.run_pure]; rfl) rfl ⟨_, ?_, ?_, M.drew.allocI _⟩
  · exact addI_le M.drew.imm _
  · refine ⟨_, _, rfl, grownCap_ge w _ _ _, grownCap_le_maxLen w _ _ _ (by have : maxLen = 9223372036854775807 := by decide
                                                                           omega), fun _ => ⟨w.drew.heap.size, 0, rfl, _, E.T, (0, 0), by rw [addI, if_pos rfl], ?_⟩⟩
    rw [all_ints hc]
    simp
/-- The bytes of some runes. -/
def strL (l : List Int) : ByteArray := runesBytes l
/-- string(r) of a slice of runes. -/
theorem q_cvS {E : ET P Int} {src d : TypeId} {x : Operand} {v : Value} {xs : List Int} (hc : ∀ x, E.cells x = [.int .i32 x]) (hsz : E.sz = 1) (R : ∀ w, S w → rdSl E (hp w) v xs) (hs : P.underlying src = some (.slice E.T)) (he : P.underlying E.T = some (.int .i32)) (hd : P.underlying d = some .string) (hx : evo e x = some v) :
    Quiet P n ops S ⟨dst, .convert src d x, ty, pos, af, none⟩ e (.string (strL xs)) := by
  refine Quiet.run (fun a ha w hS => ?_) rfl
  have hx' := ev_of hx
  have hev : a.eval x = v := by rw [ha.eval]; exact hx'
  obtain ⟨A, c, rfl, h1, h2, h3⟩ := R w hS
  have hrun : (convert src d (.slice A xs.length c)).run P w = .ok (.string (strL xs)) w := by
    by_cases hne : xs = []
    · subst hne
      cases A with
      | none => exact run_convert_runes_nil w src d E.T _ _ hs he hd
      | some b => have := run_convert_runes w src d E.T b 0 c [] (by simp) hs he hd (by simp); simpa [strL] using this
    · obtain ⟨b, o, rfl, p⟩ := h3 hne
      have := run_convert_runes w src d E.T ⟨b, o, none⟩ xs.length c xs (Nat.le_refl _) hs he hd (fun j hj => by
        refine p.cell j _ ?_
        rw [all_ints hc, List.getElem?_map, List.getElem?_eq_getElem hj]
        simp [hj])
      simpa [strL] using this
  simp only [execOp, hev, Sem.run_bind, hrun, Result.andThen_ok, Sem.run_pure]
end
/-! comparing strings and bools; joining strings -/
section
variable {P : Program} {n : Nat} {ops : Array Oper} {e : Env} {dst : Option Tmp} {ty : TypeId} {pos : String} {af : Array Go.Edge} {S : World → Prop}
theorem run_bin_str {op : BinOp} {T : TypeId} {x y : Operand} {a b : ByteArray} (w : World) (hx : evl e x = .string a) (hy : evl e y = .string b) {T2 : TypeId} :
    (execOp (evl e) ⟨dst, .binOp op T x y T2, ty, pos, af, none⟩).run P w = (do pure (.value (← binOp op T (.string a) (.string b))) : Sem Next).run P w := by
  simp only [execOp, hx, hy, eqGuard]
  cases op <;> simp
theorem list_dec (a b : ByteArray) : (a.toList == b.toList) = decide (a = b) := by
  rw [Bool.eq_iff_iff]
  simp only [beq_iff_eq, decide_eq_true_eq]
  exact ⟨toList_inj', fun h => by rw [h]⟩
theorem q_eqlS {T T2 : TypeId} {x y : Operand} {a b : ByteArray} (hx : evo e x = some (.string a)) (hy : evo e y = some (.string b)) : Quiet P n ops S ⟨dst, .binOp .eql T x y T2, ty, pos, af, none⟩ e (.bool (decide (a = b))) := by
  replace hx := ev_of hx
  replace hy := ev_of hy
  exact q_of rfl fun w _ => by rw [run_bin_str w hx hy, binOp_string_eql, list_dec]; rfl
theorem q_neqS {T T2 : TypeId} {x y : Operand} {a b : ByteArray} (hx : evo e x = some (.string a)) (hy : evo e y = some (.string b)) : Quiet P n ops S ⟨dst, .binOp .neq T x y T2, ty, pos, af, none⟩ e (.bool (!decide (a = b))) := by
  replace hx := ev_of hx
  replace hy := ev_of hy
  exact q_of rfl fun w _ => by rw [run_bin_str w hx hy, binOp_string_neq, list_dec]; rfl
end
/-! several effects that may come up in any order -/
section
variable {P : Program} {n : Nat} {ops : Array Oper} {K : Env → World → Prop} {S : World → Prop} {w : World} {l : List (Nat × Value)} {b : Env} {o : Oper}
def One (P : Program) (n : Nat) (ops : Array Oper) (S : World → Prop) (F : List Nat) (K : Env → World → Prop) (fuel : Nat) (listed : Array Bool) (l : List (Nat × Value)) (b : Env) (w : World) (i : Nat) : Prop :=
  ∃ (o : Oper) (d : Nat) (Post : Value → World → Prop), ops[i]? = some o ∧ Eff P n ops o (look l b) w Post ∧ o.dst = some d ∧ Nat.blt d n = true ∧
    ∀ v w', Post v w' → (fresh (listed.setIfInBounds i true) F = true → S w') ∧ WA P n ops S F K fuel (listed.setIfInBounds i true) (look ((d, v) :: l) b) w'
theorem one_e {F : List Nat} (i : Nat) {d : Nat} {fuel : Nat} {listed : Array Bool} {Post : Value → World → Prop} (hi : ops[i]? = some o) (he : Eff P n ops o (look l b) w Post) (hd : o.dst = some d) (hn : Nat.blt d n = true)
    (h : ∀ v w', Post v w' → (fresh (listed.setIfInBounds i true) F = true → S w') ∧ WA P n ops S F K fuel (listed.setIfInBounds i true) (look ((d, v) :: l) b) w') : One P n ops S F K fuel listed l b w i :=
  ⟨o, d, Post, hi, he, hd, hn, h⟩
def AllOne (p : Nat → Prop) : List Nat → Prop
  | [] => True
  | i :: l => p i ∧ AllOne p l
theorem AllOne.spec {p : Nat → Prop} : ∀ {l : List Nat}, AllOne p l → ∀ i ∈ l, p i
  | [], _, i, h => by simp at h
  | x :: l, h, i, hi => by
    rcases List.mem_cons.1 hi with rfl | hi
    · exact h.1
    · exact h.2.spec i hi
theorem wa_es {F : List Nat} {fuel : Nat} {listed : Array Bool} (rs : List Nat) (hr : Region.ready .any ops listed = rs) (hne : rs ≠ []) (h : AllOne (One P n ops S F K fuel listed l b w) rs) : WA P n ops S F K (fuel + 1) listed (look l b) w := by
  intro a ha
  refine ⟨fun h' => absurd (hr.symm.trans h') hne, fun j hj => ?_⟩
  rw [hr] at hj
  obtain ⟨o, d, Post, hi, he, hd, hn, hh⟩ := h.spec j hj
  have hlt : d < n := by simpa [Nat.blt_eq] using hn
  obtain ⟨hw, hrun⟩ := he a ha
  unfold wpOp
  simp only [hi, hw, if_true]
  refine .inl (hrun _ _ fun v w' hp => ?_)
  rw [hd]
  exact ⟨(hh v w' hp).1, (hh v w' hp).2 _ (ha.put hlt v)⟩
end
end Go.Proofs.Ytfepjcmjkaolgaa.G

set_option linter.all false
namespace Go.Proofs.Ytfepjcmjkaolgaa.G
open Go Go.RowKit Go.ChangeShapes
section
variable {H : Type} {enc : TypeId × Value → H} {P : Program} {w : World} {base : Nat} {sp : Nat → Bool} {held : Bool}
theorem list_of {α : Type} {p : Nat → α → Prop} : ∀ (n : Nat), (∀ i, i < n → ∃ x, p i x) → ∃ xs : List α, xs.length = n ∧ ∀ i x, xs[i]? = some x → p i x
  | 0, _ => ⟨[], rfl, by simp⟩
  | n + 1, h => by
    obtain ⟨xs, h1, h2⟩ := list_of n fun i hi => h i (by omega)
    obtain ⟨x, hx⟩ := h n (by omega)
    refine ⟨xs ++ [x], by simp [h1], fun i y hy => ?_⟩
    rw [List.getElem?_append] at hy
    split at hy
    · exact h2 i y hy
    · have : i = n := by
        have := (List.getElem?_eq_some_iff.1 hy).1
        simp at this; omega
      subst this
      rw [h1, Nat.sub_self] at hy
      simp at hy; subst hy; exact hx
theorem add_add (a : Addr) (n m : Nat) : (a.add n).add m = a.add (n + m) := by
  unfold Addr.add
  split <;> split <;> split <;> simp_all <;> omega
/-- A slice of an element type that reads. -/
theorem open_sl {α : Type} {E : ET P α} {Rp : α → Prop} {t : TypeId} (ht : P.underlying t = some (.slice E.T)) (hc : P.cellsOf E.T = E.sz) (hel : ∀ fuel cs x, DataW.trod enc P w base sp held fuel E.T cs = some x → ∃ a, cs = E.cells a ∧ Rp a) {fuel : Nat} {cs : List Value} {x : DataW H × List MemPlace} (h : DataW.trod enc P w base sp held fuel t cs = some x) :
    ∃ (u : SV) (xs : List α), cs = [sv u] ∧ rdSl E (hp w) (sv u) xs ∧ ∀ a ∈ xs, Rp a := by
  rcases DataW.trod_slice ht h with ⟨rfl, _⟩ | ⟨a, len, cap, elems, rest, n, _, rfl, _, _, hl, hm, hlen, hel', _⟩
  · exact ⟨nilV, [], rfl, rdSl_nil _, by simp⟩
  · obtain ⟨xs, hx1, hx2⟩ := list_of (p := fun i (x : α) => (∀ j v, (E.cells x)[j]? = some v → w.cell? (a.add (i * E.sz + j)) = some v) ∧ Rp x) len fun i hi => by
      have h2 := hel' i hi
      rw [List.getElem?_eq_getElem (by omega), Option.bind_eq_some_iff] at h2
      obtain ⟨cs, h3, h4⟩ := h2
      obtain ⟨x, rfl, hx⟩ := hel _ _ _ h4
      refine ⟨x, fun j v hj => ?_, hx⟩
      rw [hc] at h3
      have h5 := (World.cells?_some h3).2.2 j (by have := (List.getElem?_eq_some_iff.1 hj).1; rw [E.len] at this; exact this)
      rw [add_add] at h5
      rw [h5]; exact hj
    refine ⟨(some a, len, cap), xs, rfl, ⟨some a, cap, by simp [sv, hx1], by rw [hx1]; exact hl, hm, fun hne => ?_⟩, fun y hy => ?_⟩
    · have hpos := E.pos
      have h0 : 0 < len := by
        rw [← hx1]; exact List.length_pos_iff.2 hne
      have hat : ∀ t, t < xs.length * E.sz → ∃ v, (E.all xs)[t]? = some v ∧ w.cell? (a.add t) = some v := fun t ht => by
        obtain ⟨x, v, e1, e2, e3⟩ := all_get (E := E) xs t ht
        refine ⟨v, e3, ?_⟩
        have := (hx2 _ _ e1).1 _ _ e2
        rwa [Nat.mul_comm, Nat.div_add_mod] at this
      obtain ⟨v0, _, hv0⟩ := hat 0 (Nat.mul_pos (by omega) hpos)
      have ha0 : a.add 0 = a := rfl
      rw [ha0] at hv0
      unfold World.cell? at hv0
      split at hv0
      · rename_i cur T fr hb
        split at hv0
        · cases hv0
        · rename_i hs
          obtain ⟨b, o, s⟩ := a
          have hs' : s = none := by cases s with | none => rfl | some _ => simp at hs
          subst hs'
          refine ⟨b, o, rfl, cur, T, fr, hb, ?_⟩
          apply List.ext_getElem?
          intro t
          rw [List.getElem?_take]
          split
          · rename_i ht
            rw [E.all_length] at ht
            obtain ⟨v, e1, e2⟩ := hat t ht
            rw [e1, List.getElem?_drop, Array.getElem?_toList]
            rw [add_off] at e2
            have hb' : w.heap[b]? = some (.cells cur T fr) := hb
            simpa [World.cell?, hb'] using e2
          · rename_i ht
            rw [List.getElem?_eq_none (by omega)]
      · cases hv0
    · obtain ⟨i, hi⟩ := List.getElem?_of_mem hy
      exact (hx2 i y hi).2
theorem open_i {t : TypeId} {k : IntKind} (ht : P.underlying t = some (.int k)) {fuel : Nat} {cs : List Value} {x : DataW H × List MemPlace} (h : DataW.trod enc P w base sp held fuel t cs = some x) : ∃ n : Int, cs = [.int k n] := by
  obtain ⟨n, h1, _⟩ := DataW.trod_int ht h; exact ⟨n, h1⟩
theorem open_s {t : TypeId} (ht : P.underlying t = some .string) {fuel : Nat} {cs : List Value} {x : DataW H × List MemPlace} (h : DataW.trod enc P w base sp held fuel t cs = some x) : ∃ s : ByteArray, cs = [.string s] ∧ s.size ≤ maxLen := by
  obtain ⟨n, h1, _, h2⟩ := DataW.trod_string ht h; exact ⟨n, h1, h2⟩
/-- A field of a struct. -/
theorem fld {t : TypeId} {fs : Array Field} (ht : P.underlying t = some (.struct fs)) {fuel : Nat} {cs : List Value} {x : DataW H × List MemPlace} (h : DataW.trod enc P w base sp held fuel t cs = some x) :
    cs.length = P.cellsOf t ∧ ∀ (i : Nat) (f : Field), fs[i]? = some f → ∃ n y, DataW.trod enc P w base sp held n f.type ((cs.drop f.offset).take (P.cellsOf f.type)) = some y := by
  obtain ⟨xs, n, _, _, hl, hlen, hf⟩ := DataW.trod_struct ht h
  refine ⟨hl, fun i f hi => ?_⟩
  have := hf i f hi
  have hx : i < xs.length := by rw [hlen]; exact (Array.getElem?_eq_some_iff.1 hi).1
  rw [List.getElem?_eq_getElem hx] at this
  exact ⟨n, _, this⟩
theorem agg_of {t : TypeId} {fs : Array Field} (ht : P.underlying t = some (.struct fs)) {r : Reach} {b0 : Nat} {v : Value} (hv : Value.okWide P w r b0 t v) : ∃ l : List Value, v = .agg l.toArray := by
  unfold Value.okWide at hv
  rw [ht] at hv
  obtain ⟨cs, rfl, _⟩ := hv
  exact ⟨cs.toList, by simp⟩
theorem one_of {v : Value} {x : Value} (h : v.cells.toList = [x]) (h1 : x.oneCell' = true) (hv : ∀ l, v ≠ .agg l) : v = x := by
  cases v <;> first | (simp [Value.cells] at h; exact h) | exact absurd rfl (hv _)
theorem notAgg {t : TypeId} {d : TypeDesc} (ht : P.underlying t = some d) (hd : oneKind d = true) {r : Reach} {b0 : Nat} {v : Value} (hv : Value.okWide P w r b0 t v) : ∀ l, v ≠ .agg l := by
  rintro l rfl
  unfold Value.okWide at hv
  rw [ht] at hv
  cases d <;> first | (simp [oneKind] at hd; done) | (simp [Cell.okWide, ht, Cell.ok] at hv)
theorem trodAll_below {ts : List TypeId} : ∀ {vs : List Value} {ds : List (DataW H)} {ps : List MemPlace} (hl : laidOutB P = true) (hr : (ts.all fun t => P.readableRec t && decide (t < P.types.size)) = true) {w' : World} (h : DataW.TrodAll enc P w 0 (fun _ => true) true ts vs ds ps) (hb : Below w.heap.size w w') (hlt : ∀ x ∈ ps, x.block < w.heap.size),
    DataW.TrodAll enc P w' 0 (fun b => decide (b < w.heap.size)) true ts vs ds ps := by
  induction ts with
  | nil => intro vs ds ps _ _ w' h _ _; cases vs <;> cases ds <;> exact h
  | cons t ts ih =>
    intro vs ds ps hl hr w' h hb hlt
    match vs, ds, h with
    | [], _, h => cases h
    | _ :: _, [], h => cases h
    | v :: vs, d :: ds, h =>
      obtain ⟨p, q, h1, h2, rfl⟩ := h
      simp only [List.all_cons, Bool.and_eq_true, decide_eq_true_eq] at hr
      exact ⟨p, q, Below.trod hl hr.1.1 hr.1.2 h1 hb fun x hx => hlt x (List.mem_append_left _ hx), ih hl hr.2 h2 hb fun x hx => hlt x (List.mem_append_right _ hx), rfl⟩
/-- A law's outcome. -/
theorem law_post {f : Func} {s : ChangeSpec} {apart fresh handsOn : Bool} {W W' : World} {args : Array Value} {ds : List (DataW H)} {before : List MemPlace} {tb : TypeId} (hl : laidOutB P = true) (hr : (f.params.toList.all fun t => P.readableRec t && decide (t < P.types.size)) = true) (hres : f.resultTypes = #[tb]) (htb : P.underlying tb = some .bool) (hv : s.vars = [])
    (hfn : s.fn H ds = { results := [.lit (.bool true)], args := ds }) (hW : DataW.Whole enc P f.params.toList s.vars apart W args.toList ds [] before) (bel : Below W.heap.size W W') : s.post enc P f apart fresh handsOn false W args (.bool true) W' := by
  have hW' := hW
  obtain ⟨p, q, h1, h2, rfl, _, _⟩ := hW
  refine ⟨ds, [], p ++ q, [], p, [], hW', ?_, ?_, ?_, bel.frame _, fun h => by cases h⟩
  · rw [List.append_nil, hfn, hres]
    exact trodAll_mk1 (shut_bool htb _)
  · rw [List.append_nil, hfn]
    exact trodAll_below hl hr h1 bel fun x hx => hW'.lt x (List.mem_append_left _ hx)
  · rw [List.append_nil, hfn, hv]
    rfl
theorem whole_vars {s : ChangeSpec} {ts : List TypeId} {apart : Bool} {W : World} {vs : List Value} {ds gs : List (DataW H)} {ps : List MemPlace} (hv : s.vars = []) (h : DataW.Whole enc P ts s.vars apart W vs ds gs ps) : gs = [] := by
  obtain ⟨p, q, _, h2, _⟩ := h
  rw [hv] at h2
  exact (trodVars_none h2).1
theorem ret_true {w : World} {I : Heap} {e : Ending} {w' : World} (h : Ret w I (fun r _ => r = .bool true) e w') : e = .returned (.bool true) ∧ Below w.heap.size w w' := by
  obtain ⟨v, I', rfl, g, rfl⟩ := h
  exact ⟨rfl, g.below⟩
end
end Go.Proofs.Ytfepjcmjkaolgaa.G

set_option linter.all false
namespace Go.Proofs.Ytfepjcmjkaolgaa.G
open Go Go.RowKit
section
variable {P : Program} {n : Nat} {ops : Array Oper} {ty : TypeId} {pos : String} {af : Array Go.Edge} {w0 w : World} {I0 I : Heap} {L : List Res} {α : Type} {E : ET P α}
theorem wa_ixw1 {F : List Nat} (i r : Nat) {S : World → Prop} {K : Env → World → Prop} {l : List (Nat × Value)} {b : Env} {d fuel : Nat} {listed : Array Bool} {t : TypeId} {x ix : Operand} {v : Value} {k : IntKind} {xs : List α} {j : Nat} (M : Mem w0 I0 I L w) (hL : L[r]? = some (row E v xs)) (hi0 : ops[i]? = some ⟨some d, .indexAddr t x ix, ty, pos, af, none⟩) (hr : Region.ready .any ops listed = [i]) (ht : P.underlying t = some (.slice E.T)) (hx : evo (look l b) x = some v) (hi : evo (look l b) ix = some (.int k (j : Int))) (hj : j < xs.length) (hn : Nat.blt d n = true)
    (hS : fresh (listed.setIfInBounds i true) F = true → S w) (h : ∀ b' o', eptr E v j b' o' → WA P n ops S F K fuel (listed.setIfInBounds i true) (look ((d, .pointer (some ⟨b', o', none⟩)) :: l) b) w) : WA P n ops S F K (fuel + 1) listed (look l b) w := by
  obtain ⟨b', o', p, q⟩ := q_ixw (P := P) (n := n) (ops := ops) (S := fun _ => True) (dst := some d) (ty := ty) (pos := pos) (af := af) r M hL ht hx hi hj
  exact wa_q1 i hi0 hr q trivial rfl hn hS (h b' o' p)
theorem q_ixSw {S : World → Prop} {e : Env} {dst : Option Tmp} {t : TypeId} {x ix : Operand} {s0 : Value} {k : IntKind} {xs : List α} {j : Nat} {y : α} (ht : P.underlying t = some (.slice E.T)) (hx : evo e x = some (s0)) (hi : evo e ix = some (.int k (j : Int))) (hj : xs[j]? = some y) (w1 : World) (h1 : S w1) (R : ∀ w, S w → rdSl E (hp w) s0 xs) :
    ∃ b o, sptr S b o (E.cells y) ∧ Quiet P n ops (fun _ => True) ⟨dst, .indexAddr t x ix, ty, pos, af, none⟩ e (.pointer (some ⟨b, o, none⟩)) := by
  obtain ⟨b, o, hp, _⟩ := q_ixS (P := P) (n := n) (ops := ops) (S := S) (dst := dst) (ty := ty) (pos := pos) (af := af) ht hx hi hj w1 h1 R
  replace hx := ev_of hx
  replace hi := ev_of hi
  obtain ⟨b, o, c, hv, hp1⟩ := (R w1 h1).at_ hj
  have hlt := (List.getElem?_eq_some_iff.1 hj).1
  refine ⟨b, o + j * E.sz, fun w hw => ?_, q_of rfl fun w _ => run_ix (s0 := s0) ht (hx.trans hv) hi hlt⟩
  obtain ⟨b', o', c', hv', hp'⟩ := (R w hw).at_ hj
  rw [hv] at hv'
  cases hv'
  exact hp'
theorem wa_ixSw {F : List Nat} (i : Nat) {S : World → Prop} {K : Env → World → Prop} {l : List (Nat × Value)} {b : Env} {d fuel : Nat} {listed : Array Bool} {t : TypeId} {x ix : Operand} {v : Value} {k : IntKind} {xs : List α} {j : Nat} {y : α} (hS : S w) (R : ∀ w, S w → rdSl E (hp w) v xs) (hi0 : ops[i]? = some ⟨some d, .indexAddr t x ix, ty, pos, af, none⟩) (hs : mayW ops F listed i = true) (ht : P.underlying t = some (.slice E.T)) (hx : evo (look l b) x = some v) (hi : evo (look l b) ix = some (.int k (j : Int))) (hj : xs[j]? = some y) (hn : Nat.blt d n = true)
    (h : ∀ b' o', sptr S b' o' (E.cells y) → WA P n ops S F K fuel (listed.setIfInBounds i true) (look ((d, .pointer (some ⟨b', o', none⟩)) :: l) b) w) : WA P n ops S F K (fuel + 1) listed (look l b) w := by
  obtain ⟨b', o', p, q⟩ := q_ixSw (P := P) (n := n) (ops := ops) (S := S) (dst := some d) (ty := ty) (pos := pos) (af := af) ht hx hi hj w hS R
  exact wa_w i hi0 hs q (fun _ => hS) rfl hn (h b' o' p)
end
end Go.Proofs.Ytfepjcmjkaolgaa.G
